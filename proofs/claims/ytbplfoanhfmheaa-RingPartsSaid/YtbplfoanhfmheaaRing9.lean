/- The walk of RingOwn: what is written, and peeked at, is the caller's own. -/
import Derived.Test.YtbplfoanhfmheaaRing8
import Derived.Lib.ConvBytes
namespace Go.Proofs.Ytbplfoanhfmheaa.Hand
open Go.RowKit Go.Proofs.YtbplfoanhfmheaaW.PrintWords Go.Proofs.YtbplfoanhfmheaaW.PrintLast Go.Proofs.YtbplfoanhfmheaaW.PrintMore
set_option linter.unusedVariables false
set_option linter.unusedSimpArgs false
theorem strOf_bytesOf (s : ByteArray) : strOfNums (Go.Proofs.YtbplfoanhfmheaaW.PrintWords.bytesOf s) = s := by
  unfold strOfNums Go.Proofs.YtbplfoanhfmheaaW.PrintWords.bytesOf
  rw [List.map_map]
  have : (fun n : Int => UInt8.ofNat n.toNat) ∘ (fun b : UInt8 => (b.toNat : Int)) = id := by
    funext b
    simp
  rw [this, List.map_id]
/-- A block of cells of one type, some of its marks. -/
def Cells (w : World) (q n : Nat) : Prop := ∃ (cs : Array Value) (t : TypeId) (r : Nat × Nat), w.heap[q]? = some (.cells cs t r) ∧ n ≤ cs.size ∧ (r = (0, 0) ∨ n ≤ r.1)
theorem Cells.cell {w : World} {q n : Nat} (h : Cells w q n) (i : Nat) (hi : i < n) : ∃ v, w.cell? ⟨q, i, none⟩ = some v := by
  obtain ⟨cs, t, r, h, hn, _⟩ := h
  exact ⟨_, (cell_of_row w q i cs t r h).trans (Array.getElem?_eq_getElem (by omega))⟩
theorem Cells.frozen {w : World} {q n : Nat} (h : Cells w q n) (i : Nat) (hi : i < n) : w.frozen? ⟨q, i, none⟩ = false := by
  obtain ⟨cs, t, r, h, hn, hr⟩ := h
  simp [World.frozen?, h]
  rcases hr with hr | hr
  · subst hr; simp
  · intro h1; omega
theorem Cells.set {w : World} {q n : Nat} (h : Cells w q n) (i : Nat) (v : Value) : Cells (w.setCell ⟨q, i, none⟩ v) q n := by
  obtain ⟨cs, t, r, h, hn, hr⟩ := h
  refine ⟨cs.setIfInBounds i v, t, r, ?_, by simpa using hn, hr⟩
  simp [World.setCell, Array.getElem?_modify, h]
theorem Cells.of_bytes (w : World) (s : ByteArray) : Cells (Lib.bytesWorld w 5 s) w.heap.size s.size :=
  ⟨_, _, _, Lib.bytesWorld_at_new w 5 s, by simp [Lib.bytesCells], .inr (by simp [Lib.bytesCells])⟩
theorem Cells.of_block {w : World} {q : Nat} {l : List Int} (h : w.heap[q]? = some (.cells (bytesV l).toArray 5 (0, 0))) : Cells w q l.length :=
  ⟨_, _, _, h, by simp [bytesV], .inl rfl⟩
theorem own_long (s : ByteArray) (c : Int) (w : World) (h : 100 < s.size) : Calls Try.prog 5 #[.string s, .int .u8 c] w fun e w' => e = .returned (.bool true) ∧ Below w.heap.size w w' := by
  go_enter Try.func5, Try.ntmps5
  go_wp2_with fail
  refine (new_good 100 w (by omega)).mono ?_
  rintro e w1 ⟨rfl, hr1, hb1⟩
  have HB1 := Lib.hid hb1
  clear hr1 hb1
  go_wp2_with fail
  refine (alive_calls w1).mono ?_
  rintro e w2 ⟨rfl, hb2⟩
  have HB2 := Lib.hid hb2
  clear hb2
  go_wp2_with fail
  go_ret
  exact ⟨rfl, below_step HB1.out HB2.out⟩
set_option maxHeartbeats 4000000 in
theorem own_short (s : ByteArray) (c : Int) (w : World) (h : s.size ≤ 100) : Calls Try.prog 5 #[.string s, .int .u8 c] w fun e w' => e = .returned (.bool true) ∧ Below w.heap.size w w' := by
  have hlen : (Go.Proofs.YtbplfoanhfmheaaW.PrintWords.bytesOf s).length = s.size := bytesOf_length s
  obtain ⟨l, hl⟩ : ∃ l, l = Go.Proofs.YtbplfoanhfmheaaW.PrintWords.bytesOf s := ⟨_, rfl⟩
  have hsl : strOfNums l = s := by rw [hl]; exact strOf_bytesOf s
  rw [← hl] at hlen
  have HL := Lib.hid hl
  have HSL := Lib.hid hsl
  have HLEN := Lib.hid hlen
  clear hl hsl hlen
  have kb := fun W => print_bytes (P := Try.prog) 9 32 5 Try.underlying9 Try.underlying32 Try.underlying5 s W
  go_enter Try.func5, Try.ntmps5
  go_wp2_with fail
  refine (new_good 100 w (by omega)).mono ?_
  rintro e w1 ⟨rfl, hr1, hb1⟩
  have HR1 := Lib.hid hr1
  have HB1 := Lib.hid hb1
  obtain ⟨s0, hs0⟩ : ∃ s0, w.heap.size = s0 := ⟨_, rfl⟩
  simp only [hs0] at HR1 ⊢
  clear hr1 hb1
  go_wp2_with fail
  have hlt1 := HR1.out.lt
  obtain ⟨q, hq⟩ : ∃ q, w1.heap.size = q := ⟨_, rfl⟩
  obtain ⟨cp, hcp⟩ : ∃ cp, grownCap w1 s.size 0 5 = cp := ⟨_, rfl⟩
  have hcp2 : s.size ≤ cp := hcp ▸ grownCap_ge _ _ _ _
  have hreads : (Kd.int .u8).C (Lib.bytesWorld w1 5 s) (some ⟨q, 0, none⟩) l.length l := by
    rw [HL.out, bytesOf_length, ← hq]
    exact Kd.C_of_reads (d := (0 : Int)) (h1 := fun _ => rfl) (bytes_reads w1 5 s (by omega))
  have hba : Below w1.heap.size w1 (Lib.bytesWorld w1 5 s) := bytes_below (Below.refl _ _) (Nat.le_refl _) 5 s
  have hcells : Cells (Lib.bytesWorld w1 5 s) q s.size := hq ▸ Cells.of_bytes w1 s
  rw [hcp]
  simp only [hq]
  generalize Lib.bytesWorld w1 5 s = wa at hreads hba hcells ⊢
  have harg : ArgAt (fun i => i = s0 + 1 ∨ i = s0) wa (some ⟨q, 0, none⟩) l := ArgAt.of_C hreads (by have := HLEN.out; omega) (fun ad e i => by cases e; rw [add_plain]; show ¬ (q = s0 + 1 ∨ q = s0); omega)
  have hw := write_calls (HR1.out.below hba) (by decide) (by decide) (some ⟨q, 0, none⟩) cp l (by have := HLEN.out; omega) harg (by have := HLEN.out; simp; omega)
  rw [HLEN.out] at hw
  refine hw.mono ?_
  have hwr : wrN ((100 : Nat) : Int) [] l = s.size := by unfold wrN freeOf; have := HLEN.out; simp; omega
  rw [hwr, List.nil_append, List.take_of_length_le (by have := HLEN.out; omega)]
  rintro e w2 ⟨rfl, b2, hr2, hbb2, hf2⟩
  have hr2' : Ring w2 (s0 + 1) b2 100 l := hr2
  have hb2s : s0 ≤ b2 := by have := hba.size; omega
  have hb2q : b2 ≠ q := by
    rcases hbb2 with h | h
    · omega
    · have := hcells; obtain ⟨cs, t, r, hc, _⟩ := this; have := blk_lt hc; omega
  have hqa : q < wa.heap.size := by obtain ⟨cs, t, r, hc, _⟩ := hcells; exact blk_lt hc
  have hc2 : Cells w2 q s.size := by
    obtain ⟨cs, t, r, hc, h1, h2⟩ := hcells
    exact ⟨cs, t, r, (hf2.block q hqa (by omega)).trans hc, h1, h2⟩
  have HB2 := Lib.hid (((hs0 ▸ HB1.out : Below s0 w w1).trans (hba.mono (by omega))).trans (Fr.below (Below.refl s0 wa) hf2 (by omega) (fun i hi => by omega)))
  have hq2 : q < w2.heap.size := Nat.lt_of_lt_of_le hqa hf2.size
  have HR2 := Lib.hid hr2'
  have HC2 := Lib.hid hc2
  clear hr2 hr2' hf2 hc2 hcells hba hreads harg hw hwr hbb2 HB1 HR1 hqa
  go_wp2_with fail
  have hlt2 := HR2.out.lt
  refine (Ring.peek_calls HR2.out (s.size : Int)).mono ?_
  have hcut : cutN (s.size : Int) l.length = s.size := by unfold cutN; have := HLEN.out; omega
  rw [hcut]
  rintro e w3 ⟨rfl, hq3, hb3⟩
  obtain ⟨p, hp⟩ : ∃ p, w2.heap.size = p := ⟨_, rfl⟩
  rw [hp] at hq3 hlt2
  simp only [hp]
  rw [List.take_of_length_le (by have := HLEN.out; omega)] at hq3
  have HR3 := Lib.hid (HR2.out.below hb3)
  have HB3 := Lib.hid (HB2.out.trans (hb3.mono (by omega)))
  have hc3 : Cells w3 q s.size := by
    obtain ⟨cs, t, r, hc, h1, h2⟩ := HC2.out
    exact ⟨cs, t, r, (hb3.block q hq2).trans hc, h1, h2⟩
  have hc3p : Cells w3 p s.size := HLEN.out ▸ Cells.of_block hq3
  have HC3 := Lib.hid hc3
  have HC3p := Lib.hid hc3p
  have hs3 : s0 ≤ q := by omega
  have hs4 : s0 ≤ p := by omega
  have hpq : p ≠ q := by omega
  have hn1 : s0 + 1 ≠ q ∧ s0 + 1 ≠ p ∧ b2 ≠ p := by omega
  clear hb3 hq3 hcut hc3 hc3p HC2 HB2 HR2 hp
  go_wp2_with fail
  go_loopw [46] (fun u46 wr => ∃ k : Nat, k ≤ s.size ∧ u46 = .int .i64 k ∧ Aside0 (Cells wr q s.size) ∧ Aside0 (Fr (fun i => i = q) w3 wr)) (fun u46 _ => s.size - (intOf u46).toNat)
  case atStart => exact ⟨0, Nat.zero_le _, rfl, ⟨HC3.out⟩, ⟨Fr.refl _ _⟩⟩
  case round =>
    obtain ⟨k, hk, rfl, HCk, HFk⟩ := hrel
    by_cases hlt : k < s.size
    · obtain ⟨v, hv⟩ := HCk.out.cell k hlt
      have hf := HCk.out.frozen k hlt
      go_wp2
      go_roundw
      case rel => exact ⟨k + 1, by omega, by go_num, ⟨HCk.out.set k _⟩, ⟨Fr.set HFk.out rfl _⟩⟩
      case measure => simp [intOf]; omega
    · obtain rfl : k = s.size := by omega
      obtain ⟨wo, hwo⟩ : ∃ wo, wo = wr := ⟨_, rfl⟩
      rw [← hwo] at HCk HFk ⊢
      have HC4 := Lib.hid (show Cells wo p s.size by
        obtain ⟨cs, t, r, hc, h1, h2⟩ := HC3p.out
        exact ⟨cs, t, r, (HFk.out.block p (blk_lt hc) hpq).trans hc, h1, h2⟩)
      clear hwo HCk
      go_wp2_with fail
      go_loopw [56] (fun u56 wr => ∃ k : Nat, k ≤ s.size ∧ u56 = .int .i64 k ∧ Aside0 (Cells wr p s.size) ∧ Aside0 (Fr (fun i => i = p) wo wr)) (fun u56 _ => s.size - (intOf u56).toNat)
      case atStart => exact ⟨0, Nat.zero_le _, rfl, ⟨HC4.out⟩, ⟨Fr.refl _ _⟩⟩
      case round =>
        obtain ⟨k, hk, rfl, HCk, HFj⟩ := hrel
        by_cases hlt : k < s.size
        · obtain ⟨v, hv⟩ := HCk.out.cell k hlt
          have hf := HCk.out.frozen k hlt
          go_wp2
          go_roundw
          case rel => exact ⟨k + 1, by omega, by go_num, ⟨HCk.out.set k _⟩, ⟨Fr.set HFj.out rfl _⟩⟩
          case measure => simp [intOf]; omega
        · obtain rfl : k = s.size := by omega
          go_wp2_with fail
          refine (alive_calls _).mono ?_
          rintro e w6 ⟨rfl, hb6⟩
          have hr6 : Ring w6 (s0 + 1) b2 100 l := ((HR3.out.keep HFk.out hn1.1 hb2q).keep HFj.out hn1.2.1 hn1.2.2).below hb6
          have hB6 : Below s0 w w6 := by
            have h4 := Fr.below (Below.refl s0 w3) HFk.out (by have := HR3.out.lt; omega) (fun i hi => by omega)
            have h5 := Fr.below (Below.refl s0 wo) HFj.out (by have := HR3.out.lt; have := h4.size; omega) (fun i hi => by omega)
            exact (((HB3.out.trans h4).trans h5).trans (hb6.mono (by have := HR3.out.lt; have := h4.size; have := h5.size; omega)))
          have HR6 := Lib.hid hr6
          have HB6 := Lib.hid hB6
          clear hr6 hB6 hb6 HFk HFj HCk HC4 HC3p HR3 HB3 HC3
          go_wp2_with fail
          have hlt6 := HR6.out.lt
          have hs0w : s0 ≤ w6.heap.size := by omega
          have hrd := Ring.read_calls HR6.out (s.size : Int) (by have := HLEN.out; omega)
          have hcut : cutN (s.size : Int) l.length = s.size := by unfold cutN; have := HLEN.out; omega
          rw [hcut] at hrd
          refine hrd.mono ?_
          rintro e w7 ⟨rfl, hq7, hr7, hf7⟩
          rw [List.take_of_length_le (by have := HLEN.out; omega)] at hq7
          have hcv := str_block (c := s.size) hq7 (by have := HLEN.out; omega)
          rw [HLEN.out] at hcv
          rw [HSL.out] at hcv
          have HB7 := Lib.hid (Fr.below HB6.out hf7 hs0w (fun i hi => by omega))
          clear hrd hq7 hr7 hf7 hcut HB6 HR6
          go_wp2_with fail
          go_ret
          refine ⟨?_, ?_⟩
          · simp
          · rw [hs0]
            exact HB7.out
end Go.Proofs.Ytbplfoanhfmheaa.Hand
