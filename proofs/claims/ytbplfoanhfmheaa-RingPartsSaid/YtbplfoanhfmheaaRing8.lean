/- The law's own 'alive' over a ring: it tells true. -/
import Derived.Test.YtbplfoanhfmheaaRing7
import Derived.Test.YtbplfoanhfmheaaKit
namespace Go.Proofs.Ytbplfoanhfmheaa.Hand
open Go.RowKit Go.Proofs.YtbplfoanhfmheaaW.PrintWords Go.Proofs.YtbplfoanhfmheaaW.PrintLast Go.Proofs.YtbplfoanhfmheaaW.PrintMore
set_option linter.unusedVariables false
set_option linter.unusedSimpArgs false
/-- What reads as bytes, apart from X, is an argument. -/
theorem ArgAt.of_C {X : Nat → Prop} {w : World} {A : Option Addr} {l : List Int} (h : (Kd.int .u8).C w A l.length l) (hl : l.length ≤ 1099511627776) (hx : ∀ ad, A = some ad → ∀ i, ¬ X (ad.add i).block) : ArgAt X w A l :=
  ⟨hl, fun i hi => by
    obtain ⟨ad, e, hc⟩ := Kd.at_int h (i : Int) (by omega) (by omega)
    refine ⟨ad, e, hx ad e i, ?_⟩
    have hi2 : (i : Int).toNat = i := by omega
    rw [hi2] at hc
    rw [hc]
    unfold rd
    rw [hi2]⟩
/-- A block of bytes reads as a row. -/
theorem C_block {w : World} {q : Nat} {l : List Int} {t : TypeId} {r : Nat × Nat} (h : w.heap[q]? = some (.cells (bytesV l).toArray t r)) (hl : l.length ≤ 9223372036854775807) : (Kd.int .u8).C w (some ⟨q, 0, none⟩) l.length l := by
  refine ⟨rfl, hl, fun hp => ⟨_, rfl, fun j p hj => ⟨[.int .u8 p], rfl, rfl, fun i u hi => ?_⟩⟩⟩
  cases i with
  | zero =>
    simp at hi
    subst hi
    show w.cell? ((⟨q, 0, none⟩ : Addr).add (j * 1 + 0)) = some (.int .u8 p)
    rw [Nat.add_zero, Nat.mul_one, add_plain, cell_of_row _ _ _ _ _ _ h, ← Array.getElem?_toList]
    simp [bytesV, hj]
  | succ i => simp at hi
theorem str_block {w : World} {q c : Nat} {l : List Int} {t : TypeId} {r : Nat × Nat} (h : w.heap[q]? = some (.cells (bytesV l).toArray t r)) (hl : l.length ≤ 9223372036854775807) : (convert 32 9 (.slice (some ⟨q, 0, none⟩) l.length c)).run Try.prog w = .ok (.string (strOfNums l)) w :=
  Kd.C_string Try.underlying32 Try.underlying5 Try.underlying9 (C_block h hl)
set_option maxHeartbeats 4000000 in
theorem alive_calls (w : World) : Calls Try.prog 12 #[] w fun e w' => e = .returned (.bool true) ∧ Below w.heap.size w w' := by
  have kc := fun (w : World) (C : Array Value) (n c : Nat) => Lib.run_convert_bytes_const (P := Try.prog) w 32 5 C n c Try.underlying32 Try.underlying5
  go_enter Try.func12, Try.ntmps12
  go_wp2_with fail
  refine (new_good 3 w (by omega)).mono ?_
  rintro e w1 ⟨rfl, hr1, hb1⟩
  have HR1 := Lib.hid hr1
  have HB1 := Lib.hid hb1
  obtain ⟨s0, hs0⟩ : ∃ s0, w.heap.size = s0 := ⟨_, rfl⟩
  clear hr1 hb1
  go_wp2_with fail
  generalize hwa : w1.alloc _ = wa
  have hba : Below w1.heap.size w1 wa := hwa ▸ below_alloc (Below.refl _ _) _
  have hca : (Kd.int .u8).C wa (some ⟨w1.heap.size, 0, none⟩) [97, 98, 99, 100].length [97, 98, 99, 100] := hwa ▸ C_new rfl _ _ _ [97, 98, 99, 100] rfl (by decide)
  have hra := HR1.out.below hba
  rw [hs0] at hra
  have hlt := HR1.out.lt
  rw [hs0] at hlt
  have haa : ArgAt (fun i => i = s0 + 1 ∨ i = s0) wa (some ⟨w1.heap.size, 0, none⟩) [97, 98, 99, 100] := ArgAt.of_C hca (by decide) (fun ad e i => by cases e; rw [add_plain]; show ¬ (w1.heap.size = s0 + 1 ∨ w1.heap.size = s0); omega)
  refine (write_calls hra (by decide) (by decide) (some ⟨w1.heap.size, 0, none⟩) 4 [97, 98, 99, 100] (by decide) haa (by decide)).mono ?_
  rw [show wrN (3 : Nat) [] [97, 98, 99, 100] = 3 by decide]
  rintro e w2 ⟨rfl, b2, hr2, hbb2, hf2⟩
  have HBA := Lib.hid (((hs0 ▸ HB1.out : Below s0 w w1).trans (hba.mono (by omega))).trans (Fr.below (Below.refl s0 wa) hf2 (by have := hba.size; omega) (fun i hi => by omega)))
  have hr2' : Ring w2 (s0 + 1) b2 3 [97, 98, 99] := hr2
  have hb2s : s0 ≤ b2 := by have := hba.size; omega
  have HR2 := Lib.hid hr2'
  clear hwa hba hca hra haa hr2 hf2 hbb2 hlt HB1 HR1 hr2'
  go_wp2_with fail
  refine (Ring.read_calls HR2.out 2 (by decide)).mono ?_
  rw [show cutN 2 ([97, 98, 99] : List Int).length = 2 by decide]
  rintro e w3 ⟨rfl, hq3, hr3, hf3⟩
  have hr3' : Ring w3 (s0 + 1) b2 3 [99] := hr3
  have hq3' : w3.heap[w2.heap.size]? = some (.cells (bytesV [97, 98]).toArray 5 (0, 0)) := hq3
  have hlt2 := HR2.out.lt
  have HB3 := Lib.hid (HBA.out.trans (Fr.below (Below.refl s0 w2) hf3 (by omega) (fun i hi => by omega)))
  have HR3 := Lib.hid hr3'
  have HQ3 := Lib.hid hq3'
  obtain ⟨q, hq⟩ : ∃ q, w2.heap.size = q := ⟨_, rfl⟩
  rw [hq] at hlt2
  simp only [hq] at HQ3 ⊢
  clear hr3 hr3' hq3 hq3' hf3 HBA HR2
  go_wp2_with fail
  generalize hwc : w3.alloc _ = wc
  have hbc : Below w3.heap.size w3 wc := hwc ▸ below_alloc (Below.refl _ _) _
  have hcc : (Kd.int .u8).C wc (some ⟨w3.heap.size, 0, none⟩) [101, 102].length [101, 102] := hwc ▸ C_new rfl _ _ _ [101, 102] rfl (by decide)
  have hlt3 := HR3.out.lt
  have hqlt := blk_lt HQ3.out
  have hac : ArgAt (fun i => i = s0 + 1 ∨ i = b2) wc (some ⟨w3.heap.size, 0, none⟩) [101, 102] := ArgAt.of_C hcc (by decide) (fun ad e i => by cases e; rw [add_plain]; show ¬ (w3.heap.size = s0 + 1 ∨ w3.heap.size = b2); omega)
  have hqc := (hbc.block q hqlt).trans HQ3.out
  refine (write_calls (HR3.out.below hbc) (by decide) (by decide) (some ⟨w3.heap.size, 0, none⟩) 2 [101, 102] (by decide) hac (by decide)).mono ?_
  rw [show wrN 3 [99] [101, 102] = 2 by decide]
  rintro e w4 ⟨rfl, b4, hr4, hbb4, hf4⟩
  have hr4' : Ring w4 (s0 + 1) b4 3 [99, 101, 102] := hr4
  have hq4 := (hf4.block q (by have := hbc.size; omega) (by omega)).trans hqc
  have hb4s : s0 ≤ b4 := by have := hbc.size; omega
  have HB4 := Lib.hid ((HB3.out.trans (hbc.mono (by omega))).trans (Fr.below (Below.refl s0 wc) hf4 (by have := hbc.size; omega) (fun i hi => by omega)))
  have HR4 := Lib.hid hr4'
  have hcv : (convert 32 9 (.slice (some ⟨q, 0, none⟩) 2 2)).run Try.prog w4 = .ok (.string (strOfNums [97, 98])) w4 := str_block hq4 (by decide)
  have hst : ((strOfNums [97, 98]).toList == [97, 98]) = true := by decide +kernel
  clear hwc hbc hcc hac hr4 hr4' hq4 hbb4 hf4 HR3 HB3 HQ3 hqc hqlt
  go_wp2_with fail
  have hlt4 := HR4.out.lt
  refine (Ring.peek_calls HR4.out 9).mono ?_
  rw [show cutN 9 ([99, 101, 102] : List Int).length = 3 by decide]
  rintro e w5 ⟨rfl, hq5, hb5⟩
  have hq5' : w5.heap[w4.heap.size]? = some (.cells (bytesV [99, 101, 102]).toArray 5 (0, 0)) := hq5
  have HR5 := Lib.hid (HR4.out.below hb5)
  have HB5 := Lib.hid (HB4.out.trans (hb5.mono (by omega)))
  have hcv5 : (convert 32 9 (.slice (some ⟨w4.heap.size, 0, none⟩) 3 3)).run Try.prog w5 = .ok (.string (strOfNums [99, 101, 102])) w5 := str_block hq5' (by decide)
  have hst5 : ((strOfNums [99, 101, 102]).toList == [99, 101, 102]) = true := by decide +kernel
  clear hq5 hq5' hb5 HR4 HB4
  go_wp2_with fail
  refine (Ring.len_calls HR5.out).mono ?_
  rintro e w6 ⟨rfl, rfl⟩
  go_wp2_with fail
  refine (Ring.free_calls HR5.out (by decide) (by decide)).mono ?_
  rw [show freeOf 3 [99, 101, 102] = 0 by decide]
  rintro e w7 ⟨rfl, hd7⟩
  have HR7 := Lib.hid (HR5.out.below hd7.below)
  have hlt5 := HR5.out.lt
  have HB7 := Lib.hid (HB5.out.trans (hd7.below.mono (by omega)))
  clear hd7 HR5 HB5
  go_wp2_with fail
  refine (clear_calls HR7.out).mono ?_
  rintro e w8 ⟨rfl, hr8, hf8⟩
  have hlt7 := HR7.out.lt
  have HB8 := Lib.hid (HB7.out.trans (Fr.below (Below.refl s0 w7) hf8 (by omega) (fun i hi => by omega)))
  clear hr8 hf8 HR7 HB7
  go_wp2_with fail
  go_ret
  refine ⟨rfl, ?_⟩
  rw [hs0]
  exact HB8.out
end Go.Proofs.Ytbplfoanhfmheaa.Hand
