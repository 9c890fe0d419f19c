/- The walk of RingKeeps. -/
import Derived.Test.YtbplfoanhfmheaaRing15
namespace Go.Proofs.Ytbplfoanhfmheaa.Hand
open Go.RowKit Go.Proofs.YtbplfoanhfmheaaW.PrintWords Go.Proofs.YtbplfoanhfmheaaW.PrintLast Go.Proofs.YtbplfoanhfmheaaW.PrintMore Go.Proofs.Ytbplfoanhfmheaa.PRingKeeps
attribute [local go_sem] max2_mx min2_mn max_two min_two
set_option linter.unusedVariables false
set_option linter.unusedSimpArgs false
theorem sumS_drop (l : List S30) (k : Nat) (h : k < l.length) : sumS (l.drop k) = (rd_T30 l (k : Int)).f2.size + sumS (l.drop (k + 1)) := by
  unfold rd_T30
  rw [Int.toNat_natCast, List.getD_eq_getElem?_getD, List.getElem?_eq_getElem h, List.drop_eq_getElem_cons h]
  rfl
theorem ba_split (s : ByteArray) (n : Nat) (h : n ≤ s.size) : s = s.extract 0 n ++ s.extract n s.size := bs_inj (by rw [bs_append, ← bs_take, ← bs_drop, List.take_append_drop])
theorem keeps_bad (room : Int) (A : Option Addr) (n c : Nat) (w : World) (h : room < 0 ∨ 4096 < room) : Calls Try.prog 3 #[.int .i64 room, .slice A n c] w fun e w' => e = .returned (.bool true) ∧ Below w.heap.size w w' := by
  go_enter Try.func3, Try.ntmps3
  go_wp2_with fail
  refine (new_bad room w h).mono ?_
  rintro e w1 ⟨rfl, rfl⟩
  go_wp2_with fail
  refine (alive_calls _).mono ?_
  rintro e w2 ⟨rfl, hb2⟩
  go_wp2_with fail
  go_ret
  exact ⟨rfl, hb2⟩
theorem keeps_many (room : Nat) (hroom : room ≤ 4096) (A : Option Addr) (c : Nat) (l : List S30) (w : World) (hr : Kd.C k30 w A l.length l) (hc : l.length ≤ c) (ho : ∀ o ∈ l, o.f2.size ≤ 140737488355328) (hf : fewB l = false) : Calls Try.prog 3 #[.int .i64 room, .slice A l.length c] w fun e w' => e = .returned (.bool true) ∧ Below w.heap.size w w' := by
  have HL : Hid (l.length ≤ 9223372036854775807) := Lib.hid hr.2.1
  go_enter Try.func3, Try.ntmps3
  go_wp2_with fail
  refine (new_good room w hroom).mono ?_
  rintro e w1 ⟨rfl, hr1, hb1⟩
  have HR1 := Lib.hid (Kd.C_below hr hb1)
  have HB1 := Lib.hid hb1
  clear hr hr1 hb1
  go_wp2_with fail
  refine (few_calls HR1.out hc HL.out ho).mono ?_
  rw [hf]
  rintro e w2 ⟨rfl, hb2⟩
  have HB2 := Lib.hid (below_step HB1.out hb2)
  clear hb2
  go_wp2_with fail
  refine (alive_calls _).mono ?_
  rintro e w3 ⟨rfl, hb3⟩
  go_wp2_with fail
  go_ret
  exact ⟨rfl, below_step HB2.out hb3⟩
theorem keeps_few (room : Nat) (hroom : room ≤ 4096) (A : Option Addr) (c : Nat) (l : List S30) (w : World) (hr : Kd.C k30 w A l.length l) (hc : l.length ≤ c) (ho : ∀ o ∈ l, o.f2.size ≤ 140737488355328) (hf : fewB l = true) : Calls Try.prog 3 #[.int .i64 room, .slice A l.length c] w fun e w' => e = .returned (.bool true) ∧ Below w.heap.size w w' := by
  have HL : Hid (l.length ≤ 9223372036854775807) := Lib.hid hr.2.1
  go_enter Try.func3, Try.ntmps3
  go_wp2_with fail
  refine (new_good room w hroom).mono ?_
  rintro e w1 ⟨rfl, hr1, hb1⟩
  obtain ⟨s0, hs0⟩ : ∃ s0, w.heap.size = s0 := ⟨_, rfl⟩
  have HT1 := Lib.hid (Txt.new (hs0 ▸ hr1))
  have HR1 := Lib.hid (Kd.C_below hr hb1)
  have HB1 : Hid (Below s0 w w1) := Lib.hid (hs0 ▸ hb1)
  have HR := Lib.hid hr
  simp only [hs0]
  clear hr hr1 hb1
  go_wp2_with fail
  refine (few_calls HR1.out hc HL.out ho).mono ?_
  rw [hf]
  rintro e w2 ⟨rfl, hb2⟩
  have HT2 := Lib.hid (HT1.out.below hb2)
  have HB2 := Lib.hid (HB1.out.trans (hb2.mono (by have := HT1.out.lt; omega)))
  clear hb2 HB1 HT1 HR1
  go_wp2_with fail
  have HLEN : Hid (l.length ≤ 200) := Lib.hid (of_decide_eq_true hf).1
  have HSUM : Hid (sumS l ≤ 20000) := Lib.hid (of_decide_eq_true hf).2
  have kb := fun W (s : ByteArray) => print_bytes (P := Try.prog) 9 32 5 Try.underlying9 Try.underlying32 Try.underlying5 s W
  go_loopw [7, 8, 31] (fun u7 u8 u31 wr => ∃ k : Nat, k ≤ l.length ∧ u31 = .int .i64 k ∧ ∃ (b : Nat) (s i o : ByteArray), u7 = .string i ∧ u8 = .string o ∧ i = o ++ s ∧ i.size + sumS (l.drop k) ≤ 20000 ∧ s0 ≤ b ∧ Aside0 (Txt wr (s0 + 1) b room s) ∧ Aside0 (Below s0 w wr)) (fun _ _ u31 _ => l.length - (intOf u31).toNat)
  case atStart => exact ⟨0, Nat.zero_le _, rfl, s0, ⟨#[]⟩, ⟨#[]⟩, ⟨#[]⟩, rfl, rfl, (ba_nil _).symm, by rw [ba_len0, List.drop_zero]; have := HSUM.out; omega, Nat.le_refl _, ⟨HT2.out⟩, ⟨HB2.out⟩⟩
  case round =>
    obtain ⟨k, hk, rfl, b, s, i, out, rfl, rfl, hio, hsum, hb, HT, HB⟩ := hrel
    obtain ⟨wo, hwo⟩ : ∃ wo, wo = wr := ⟨_, rfl⟩
    rw [← hwo] at HT HB ⊢
    clear hwo
    have HIO := Lib.hid hio
    have HIS : Hid (i.size = out.size + s.size) := Lib.hid (by rw [hio, ByteArray.size_append])
    have hss : s.size ≤ i.size := by have := HIS.out; omega
    have hos : out.size + s.size ≤ 20000 := by have := HIS.out; omega
    clear hio
    by_cases hlt : k < l.length
    · obtain ⟨ad, rfl, hc0, hc1, hc2⟩ := at_T30 (Kd.C_below HR.out (by rw [hs0]; exact HB.out)) (k : Int) (by omega) (by omega)
      rw [Int.toNat_natCast] at hc0 hc1 hc2
      obtain ⟨o, ho2⟩ : ∃ o, rd_T30 l (k : Int) = o := ⟨_, rfl⟩
      rw [ho2] at hc0 hc1 hc2
      have hdr := sumS_drop l k hlt
      rw [ho2] at hdr
      rw [hdr] at hsum
      clear ho2 hdr
      obtain ⟨o0, o1, o2⟩ := o
      simp only at hc0 hc1 hc2 hsum
      have hlt0 := HT.out.lt
      by_cases h0 : o0 = 0
      · subst h0
        go_wp2_with fail
        have hba := below_alloc (Below.refl wo.heap.size wo) (.cells #[.int .i64 0, .int .i64 o1, .string o2] 30)
        have hcells : (wo.alloc (.cells #[.int .i64 0, .int .i64 o1, .string o2] 30)).heap[wo.heap.size]? = some (.cells #[.int .i64 0, .int .i64 o1, .string o2] 30 (0, 0)) := blk_new _ _
        rw [alloc_size wo (.cells #[.int .i64 0, .int .i64 o1, .string o2] 30)]
        obtain ⟨q, hq⟩ : ∃ q, wo.heap.size = q := ⟨_, rfl⟩
        rw [hq] at hcells
        simp only [hq]
        have hTa := HT.out.below hba
        have hBa := HB.out.trans (hba.mono (by omega))
        generalize wo.alloc _ = wa at hcells hTa hBa ⊢
        have hlta := hTa.lt
        have hqa := blk_lt hcells
        have hgc := grownCap_ge wa o2.size 0 5
        obtain ⟨n, hn⟩ : ∃ n, wrT room s o2 = n := ⟨_, rfl⟩
        have hno : n ≤ o2.size := hn ▸ Nat.min_le_left _ _
        have hw := Txt.write hTa (by omega) (by omega) o2 (grownCap wa o2.size 0 5) hgc (by omega)
        rw [hn] at hw
        refine hw.mono ?_
        rintro e w4 ⟨rfl, b4, ht4, hbb4, hf4⟩
        have hcell2 : w4.cell? ⟨q, 2, none⟩ = some (.string o2) := by rw [blk_cell ((hf4.block q hqa (by omega)).trans hcells)]; rfl
        have HT4 := Lib.hid ht4
        have HB4 := Lib.hid (Fr.below hBa hf4 (by omega) (fun i hi => by omega))
        have hb4 : s0 ≤ b4 := by omega
        have hsz : (o2.extract 0 n).size = n := ba_tsize _ _ hno
        have HN := Lib.hid hn
        clear hw hn hgc hf4 hbb4 ht4 hcells hTa hBa hba hc0 hc1 hc2 HT HB
        go_wp2_with fail
        have hL := HLEN.out
        rw [wrap_inc k (by omega)]
        refine ⟨⟨k + 1, by omega, rfl, b4, s ++ o2.extract 0 n, i ++ o2.extract 0 n, out, rfl, rfl, by rw [HIO.out, ByteArray.append_assoc], by rw [ByteArray.size_append, hsz]; omega, hb4, ⟨HT4.out⟩, ⟨HB4.out⟩⟩, ?_⟩
        simp only [intOf]
        omega
      by_cases h1 : o0 = 1
      · subst h1
        go_wp2_with fail
        have hba := below_alloc (Below.refl wo.heap.size wo) (.cells #[.int .i64 1, .int .i64 o1, .string o2] 30)
        have hcells : (wo.alloc (.cells #[.int .i64 1, .int .i64 o1, .string o2] 30)).heap[wo.heap.size]? = some (.cells #[.int .i64 1, .int .i64 o1, .string o2] 30 (0, 0)) := blk_new _ _
        rw [alloc_size wo (.cells #[.int .i64 1, .int .i64 o1, .string o2] 30)]
        obtain ⟨q, hq⟩ : ∃ q, wo.heap.size = q := ⟨_, rfl⟩
        rw [hq] at hcells
        simp only [hq]
        have hTa := HT.out.below hba
        have hBa := HB.out.trans (hba.mono (by omega))
        generalize wo.alloc _ = wa at hcells hTa hBa ⊢
        have hlta := hTa.lt
        have hqa := blk_lt hcells
        have hw := Txt.force hTa o2 (grownCap wa o2.size 0 5) (by omega)
        refine hw.mono ?_
        rintro e w4 ⟨rfl, b4, ht4, hbb4, hf4⟩
        have hcell2 : w4.cell? ⟨q, 2, none⟩ = some (.string o2) := by rw [blk_cell ((hf4.block q hqa (by omega)).trans hcells)]; rfl
        have HT4 := Lib.hid ht4
        have HB4 := Lib.hid (Fr.below hBa hf4 (by omega) (fun i hi => by omega))
        have hb4 : s0 ≤ b4 := by omega
        clear hw hf4 hbb4 ht4 hcells hTa hBa hba hc0 hc1 hc2 HT HB
        go_wp2_with fail
        have hL := HLEN.out
        rw [wrap_inc k (by omega)]
        refine ⟨⟨k + 1, by omega, rfl, b4, s ++ o2, i ++ o2, out, rfl, rfl, by rw [HIO.out, ByteArray.append_assoc], by rw [ByteArray.size_append]; omega, hb4, ⟨HT4.out⟩, ⟨HB4.out⟩⟩, ?_⟩
        simp only [intOf]
        omega
      by_cases h2 : o0 = 2
      · subst h2
        go_wp2_with fail
        have hba := below_alloc (Below.refl wo.heap.size wo) (.cells #[.int .i64 2, .int .i64 o1, .string o2] 30)
        have hcells : (wo.alloc (.cells #[.int .i64 2, .int .i64 o1, .string o2] 30)).heap[wo.heap.size]? = some (.cells #[.int .i64 2, .int .i64 o1, .string o2] 30 (0, 0)) := blk_new _ _
        obtain ⟨q, hq⟩ : ∃ q, wo.heap.size = q := ⟨_, rfl⟩
        rw [hq] at hcells
        simp only [hq]
        have hTa := HT.out.below hba
        have hBa := HB.out.trans (hba.mono (by omega))
        generalize wo.alloc _ = wa at hcells hTa hBa ⊢
        have hlta := hTa.lt
        have hqa := blk_lt hcells
        have hcut := cutN_le o1 s.size
        have hcs := cut_size o1 s
        have hw := Txt.read hTa o1 (by omega)
        refine hw.mono ?_
        rintro e w4 ⟨rfl, hrow, ht4, hf4⟩
        have hcv := Row.conv (c := cutN o1 s.size) hrow hcs (by omega)
        have hsp := ba_split s (cutN o1 s.size) hcut
        have hsz4 : (s.extract (cutN o1 s.size) s.size).size = s.size - cutN o1 s.size := by rw [ByteArray.size_extract]; omega
        generalize s.extract 0 (cutN o1 s.size) = x1 at hcv hsp hcs
        generalize s.extract (cutN o1 s.size) s.size = x2 at ht4 hsp hsz4
        generalize cutN o1 s.size = cu at hcut hcs hcv hsz4 ⊢
        have HT4 := Lib.hid ht4
        have HB4 := Lib.hid (Fr.below hBa hf4 (by omega) (fun i hi => by omega))
        have HSP := Lib.hid hsp
        clear hw hf4 ht4 hrow hsp hcells hTa hBa hba hc0 hc1 hc2 HT HB
        go_wp2_with fail
        have hL := HLEN.out
        rw [wrap_inc k (by omega)]
        refine ⟨⟨k + 1, by omega, rfl, b, x2, i, out ++ x1, rfl, rfl, by rw [HIO.out, HSP.out, ByteArray.append_assoc], by omega, hb, ⟨HT4.out⟩, ⟨HB4.out⟩⟩, ?_⟩
        simp only [intOf]
        omega
      · go_wp2_with fail
        have hba := below_alloc (Below.refl wo.heap.size wo) (.cells #[.int .i64 o0, .int .i64 o1, .string o2] 30)
        have hL := HLEN.out
        rw [wrap_inc k (by omega)]
        refine ⟨⟨k + 1, by omega, rfl, b, s, i, out, rfl, rfl, HIO.out, by omega, hb, ⟨HT.out.below hba⟩, ⟨HB.out.trans (hba.mono (by omega))⟩⟩, ?_⟩
        simp only [intOf]
        omega
    · obtain rfl : k = l.length := by omega
      go_wp2_with fail
      have hlt0 := HT.out.lt
      have hrd := Txt.read HT.out ((i.size : Int) + 1) (by have := HIS.out; omega)
      have hcut : cutN ((i.size : Int) + 1) s.size = s.size := by have := HIS.out; unfold cutN; omega
      rw [hcut, ba_self] at hrd
      refine hrd.mono ?_
      rintro e w4 ⟨rfl, hrow, ht4, hf4⟩
      have hcv := Row.conv (c := s.size) hrow rfl (by have := HIS.out; omega)
      have hs2 : (s.extract s.size s.size).size = 0 := by rw [ByteArray.size_extract]; omega
      have HT4 := Lib.hid ht4
      have HB4 := Lib.hid (Fr.below HB.out hf4 (by omega) (fun i hi => by omega))
      clear hrd hrow ht4 hf4 HT HB
      go_wp2_with fail
      have hHT4 := HT4.out.lt
      refine (alive_calls _).mono ?_
      rintro e w5 ⟨rfl, hb5⟩
      have HT5 := Lib.hid (HT4.out.below hb5)
      have HB5 := Lib.hid (HB4.out.trans (hb5.mono (by omega)))
      have hio := HIO.out
      subst hio
      clear hb5 HT4 HB4
      go_wp2_with fail
      refine (Txt.len HT5.out).mono ?_
      rw [hs2]
      rintro e w6 ⟨rfl, rfl⟩
      go_wp2_with fail
      go_ret
      refine ⟨rfl, ?_⟩
      rw [hs0]
      exact HB5.out
end Go.Proofs.Ytbplfoanhfmheaa.Hand
