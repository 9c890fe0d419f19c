/- The walk of RingCopies. -/
import Derived.Test.YtbplfoanhfmheaaRing18
import Derived.Test.YtbplfoanhfmheaaRing19
namespace Go.Proofs.Ytbplfoanhfmheaa.Hand
open Go.RowKit Go.Proofs.YtbplfoanhfmheaaW.PrintWords Go.Proofs.YtbplfoanhfmheaaW.PrintLast Go.Proofs.YtbplfoanhfmheaaW.PrintMore Go.Proofs.Ytbplfoanhfmheaa.PRingKeeps
attribute [local go_sem] max2_mx min2_mn max_two min_two
set_option linter.unusedVariables false
set_option linter.unusedSimpArgs false
def TCopies : Bool × List (List Nat × List Nat) := (true, [([], []), ([0, 0], [0]), ([1], [1]), ([1], [1]), ([3, 1], [1, 3]), ([4, 1], [1, 4]), ([5, 1], [1, 5]), ([2, 6, 1, 1], [1, 2, 6]), ([7, 1], [1, 7]), ([1], [1]), ([9, 1], [1, 9]), ([8, 10, 1], [1, 8, 10]), ([1, 11], [1, 11]), ([12, 7], [12]), ([13], [13]), ([13], [13]), ([15, 13], [13, 15]), ([16, 13], [13, 16]), ([17, 13], [13, 17]), ([14, 18, 13, 13], [13, 14, 18]), ([19, 13], [13, 19]), ([13], [13]), ([21, 13], [13, 21]), ([20, 22, 13], [13, 20, 22]), ([13, 23], [13, 23]), ([24, 19, 0, 1, 2, 3, 4, 5, 6, 7, 8, 9, 10, 11, 12, 13, 14, 15, 16, 17, 18, 19, 20, 21, 22, 23, 24], [24])])
def BCopies : List Nat := [0, 1, 3, 3, 11, 27, 59, 127, 255, 3, 515, 2047, 4095, 8191, 16383, 16383, 49151, 114687, 245759, 524287, 1048575, 16383, 2113535, 8388607, 16777215, 33554431]
theorem tabCopies : rtab .any (opsOf Try.f9 25) = TCopies := by kernel_rfl
theorem bitsCopies : waitsOk TCopies.2 BCopies = true := by kernel_rfl
section
variable (A : Option Addr) (c : Nat) (l : List S30) (B : Option Addr) (d : Nat) (m : List S30) (w : World)
theorem copies_bad (room : Int) (n c n2 d : Nat) (h : room < 0 ∨ 4096 < room) : Calls Try.prog 9 #[.int .i64 room, .slice A n c, .slice B n2 d] w fun e w' => e = .returned (.bool true) ∧ Below w.heap.size w w' := by
  go_enter Try.func9, Try.ntmps9
  go_wp2_with fail
  refine (new_bad room w h).mono ?_
  rintro e w1 ⟨rfl, rfl⟩
  go_wp2_with fail
  refine (alive_calls _).mono ?_
  rintro e w2 ⟨rfl, hb2⟩
  go_wp2_with fail
  go_ret
  exact ⟨rfl, hb2⟩
theorem copies_many (room : Nat) (hroom : room ≤ 4096) (n2 : Nat) (hr : Kd.C k30 w A l.length l) (hc : l.length ≤ c) (ho : ∀ o ∈ l, o.f2.size ≤ 140737488355328) (hf : fewB l = false) : Calls Try.prog 9 #[.int .i64 room, .slice A l.length c, .slice B n2 d] w fun e w' => e = .returned (.bool true) ∧ Below w.heap.size w w' := by
  have HL : Hid (l.length ≤ 9223372036854775807) := Lib.hid hr.2.1
  go_enter Try.func9, Try.ntmps9
  go_wp2_with fail
  refine (new_good room w hroom).mono ?_
  rintro e w1 ⟨rfl, hr1, hb1⟩
  have HR1 := Lib.hid (Kd.C_below hr hb1)
  have HB1 := Lib.hid hb1
  clear hr hr1 hb1
  go_wp2_with fail
  refine (few_calls HR1.out hc HL.out ho).mono ?_
  rw [hf]
  rintro e w2 ⟨rfl, hb2⟩
  have HB2 := Lib.hid (below_step HB1.out hb2)
  clear hb2
  go_wp2_with fail
  refine (alive_calls _).mono ?_
  rintro e w3 ⟨rfl, hb3⟩
  go_wp2_with fail
  go_ret
  exact ⟨rfl, below_step HB2.out hb3⟩
theorem copies_more (room : Nat) (hroom : room ≤ 4096) (hr : Kd.C k30 w A l.length l) (hc : l.length ≤ c) (ho : ∀ o ∈ l, o.f2.size ≤ 140737488355328) (hf : fewB l = true) (hr2 : Kd.C k30 w B m.length m) (hc2 : m.length ≤ d) (ho2 : ∀ o ∈ m, o.f2.size ≤ 140737488355328) (hf2 : fewB m = false) : Calls Try.prog 9 #[.int .i64 room, .slice A l.length c, .slice B m.length d] w fun e w' => e = .returned (.bool true) ∧ Below w.heap.size w w' := by
  have HL : Hid (l.length ≤ 9223372036854775807) := Lib.hid hr.2.1
  have HM : Hid (m.length ≤ 9223372036854775807) := Lib.hid hr2.2.1
  go_enter Try.func9, Try.ntmps9
  go_wp2_with fail
  refine (new_good room w hroom).mono ?_
  rintro e w1 ⟨rfl, hr1, hb1⟩
  have HR1 := Lib.hid (Kd.C_below hr hb1)
  have HR2 := Lib.hid (Kd.C_below hr2 hb1)
  have HB1 := Lib.hid hb1
  have hs1 := hb1.size
  clear hr hr2 hr1 hb1
  go_wp2_with fail
  refine (few_calls HR1.out hc HL.out ho).mono ?_
  rw [hf]
  rintro e w2 ⟨rfl, hb2⟩
  have HB2 := Lib.hid (below_step HB1.out hb2)
  have HR3 := Lib.hid (Kd.C_below HR2.out hb2)
  clear hb2
  go_wp2_with fail
  refine (few_calls HR3.out hc2 HM.out ho2).mono ?_
  rw [hf2]
  rintro e w3 ⟨rfl, hb3⟩
  have HB3 := Lib.hid (below_step HB2.out hb3)
  clear hb3
  go_wp2_with fail
  refine (alive_calls _).mono ?_
  rintro e w3 ⟨rfl, hb3⟩
  go_wp2_with fail
  go_ret
  exact ⟨rfl, below_step HB3.out hb3⟩
set_option maxHeartbeats 8000000 in
set_option maxRecDepth 100000 in
theorem copies_few (room : Nat) (hroom : room ≤ 4096) (hr : Kd.C k30 w A l.length l) (hc : l.length ≤ c) (ho : ∀ o ∈ l, o.f2.size ≤ 140737488355328) (hf : fewB l = true) (hr2 : Kd.C k30 w B m.length m) (hc2 : m.length ≤ d) (ho2 : ∀ o ∈ m, o.f2.size ≤ 140737488355328) (hf2 : fewB m = true) : Calls Try.prog 9 #[.int .i64 room, .slice A l.length c, .slice B m.length d] w fun e w' => e = .returned (.bool true) ∧ Below w.heap.size w w' := by
  have HL : Hid (l.length ≤ 9223372036854775807) := Lib.hid hr.2.1
  have HM : Hid (m.length ≤ 9223372036854775807) := Lib.hid hr2.2.1
  have HR1 := Lib.hid hr
  have HR2 := Lib.hid hr2
  clear hr hr2
  go_enter Try.func9, Try.ntmps9
  go_wp2_with fail
  obtain ⟨s0, hs00⟩ : ∃ s0, w.heap.size = s0 := ⟨_, rfl⟩
  refine (new_good room w hroom).mono ?_
  rintro e w1 ⟨rfl, hr1, hb1⟩
  have HT1 := Lib.hid (Txt.new (hs00 ▸ hr1))
  have HB1 : Hid (Below s0 w w1) := Lib.hid (hs00 ▸ hb1)
  have HRA := Lib.hid (Kd.C_below HR1.out hb1)
  have HRB := Lib.hid (Kd.C_below HR2.out hb1)
  clear hr1 hb1
  simp only [hs00]
  go_wp2_with fail
  refine (few_calls HRA.out hc HL.out ho).mono ?_
  rw [hf]
  rintro e w2 ⟨rfl, hb2⟩
  have HT2 := Lib.hid (HT1.out.below hb2)
  have HB2 := Lib.hid (HB1.out.trans (hb2.mono (by have := HT1.out.lt; omega)))
  have HRC := Lib.hid (Kd.C_below HRB.out hb2)
  clear hb2 HB1 HT1 HRA HRB
  go_wp2_with fail
  refine (few_calls HRC.out hc2 HM.out ho2).mono ?_
  rw [hf2]
  rintro e w3 ⟨rfl, hb3⟩
  have HT3 := Lib.hid (HT2.out.below hb3)
  have HB3 := Lib.hid (HB2.out.trans (hb3.mono (by have := HT2.out.lt; omega)))
  clear hb3 HB2 HT2 HRC
  go_wp2_with fail
  have hba := below_alloc (Below.refl w3.heap.size w3) (.cells #[.string ⟨#[]⟩, .int .i64 (room : Int)] 46)
  have hcells : (w3.alloc (.cells #[.string ⟨#[]⟩, .int .i64 (room : Int)] 46)).heap[w3.heap.size]? = some (.cells #[.string ⟨#[]⟩, .int .i64 (room : Int)] 46 (0, 0)) := blk_new _ _
  have hlt1 := HT3.out.lt
  have HT2 := Lib.hid (HT3.out.below hba)
  have HB2 := Lib.hid (HB3.out.trans (hba.mono (by omega)))
  obtain ⟨qq, hqq⟩ : ∃ qq, w3.heap.size = qq := ⟨_, rfl⟩
  have hlq : s0 + 1 < qq := by omega
  rw [hqq] at hcells
  have HC2 := Lib.hid hcells
  simp only [hqq]
  generalize w3.alloc _ = wa at HT2 HB2 HC2 ⊢
  clear hba hcells hlt1 HT3 HB3 hqq w3
  have HLEN : Hid (l.length ≤ 200) := Lib.hid (of_decide_eq_true hf).1
  have HSUM : Hid (sumS l ≤ 20000) := Lib.hid (of_decide_eq_true hf).2
  have HLENM : Hid (m.length ≤ 200) := Lib.hid (of_decide_eq_true hf2).1
  have HSUMM : Hid (sumS m ≤ 20000) := Lib.hid (of_decide_eq_true hf2).2
  go_loopw [50] (fun u50 wr => ∃ k : Nat, k ≤ l.length ∧ u50 = .int .i64 k ∧ ∃ (b : Nat) (s : ByteArray), s0 ≤ b ∧ b ≠ qq ∧ s.size + sumS (l.drop k) ≤ 20000 ∧ Aside0 (Txt wr (s0 + 1) b room s) ∧ Aside0 (Below s0 w wr) ∧ Aside0 (wr.heap[qq]? = some (.cells #[.string s, .int .i64 (room : Int)] 46 (0, 0)))) (fun u50 _ => l.length - (intOf u50).toNat)
  case atStart => exact ⟨0, Nat.zero_le _, rfl, s0, ⟨#[]⟩, Nat.le_refl _, by omega, by rw [ba_len0, List.drop_zero]; have := HSUM.out; omega, ⟨HT2.out⟩, ⟨HB2.out⟩, ⟨HC2.out⟩⟩
  case round =>
    obtain ⟨k, hk, rfl, b, s, hb, hbq, hsum, HT, HB, HC⟩ := hrel
    obtain ⟨wo, hwo⟩ : ∃ wo, wo = wr := ⟨_, rfl⟩
    rw [← hwo] at HT HB HC ⊢
    clear hwo
    by_cases hlt : k < l.length
    · obtain ⟨ad, rfl, hc0, hc1, hc2⟩ := at_T30 (Kd.C_below HR1.out (by rw [hs00]; exact HB.out)) (k : Int) (by omega) (by omega)
      rw [Int.toNat_natCast] at hc0 hc1 hc2
      obtain ⟨o, ho2⟩ : ∃ o, rd_T30 l (k : Int) = o := ⟨_, rfl⟩
      rw [ho2] at hc0 hc1 hc2
      have hdr := sumS_drop l k hlt
      rw [ho2] at hdr
      rw [hdr] at hsum
      clear ho2 hdr
      obtain ⟨o0, o1, o2⟩ := o
      simp only at hc0 hc1 hc2 hsum
      have hlt0 := HT.out.lt
      have hqlt := blk_lt HC.out
      have hba := below_alloc (Below.refl wo.heap.size wo) (.cells #[.int .i64 o0, .int .i64 o1, .string o2] 30)
      have hq0 : (wo.alloc (.cells #[.int .i64 o0, .int .i64 o1, .string o2] 30)).cell? ⟨qq, 0, none⟩ = some (.string s) := (blk_cell ((hba.block qq hqlt).trans HC.out) 0).trans rfl
      have hq1 : (wo.alloc (.cells #[.int .i64 o0, .int .i64 o1, .string o2] 30)).cell? ⟨qq, 1, none⟩ = some (.int .i64 (room : Int)) := (blk_cell ((hba.block qq hqlt).trans HC.out) 1).trans rfl
      clear hba
      go_wp2_with fail
      have hba := below_alloc (Below.refl wo.heap.size wo) (.cells #[.int .i64 o0, .int .i64 o1, .string o2] 30)
      obtain ⟨q, hq⟩ : ∃ q, wo.heap.size = q := ⟨_, rfl⟩
      have hcells : (wo.alloc (.cells #[.int .i64 o0, .int .i64 o1, .string o2] 30)).heap[q]? = some (.cells #[.int .i64 o0, .int .i64 o1, .string o2] 30 (0, 0)) := by rw [← hq]; exact blk_new _ _
      simp only [hq]
      have hTa := HT.out.below hba
      have hBa := HB.out.trans (hba.mono (by omega))
      have hCa := (hba.block qq hqlt).trans HC.out
      have hqa := blk_lt hcells
      generalize wo.alloc _ = wa at hcells hTa hBa hCa hqa ⊢
      clear hba hq0 hq1 hc0 hc1 hc2 HT HB HC
      (with_reducible refine (do_calls s o2 room o0 o1 wa (by omega) (by omega) (by omega)).mono ?_)
      rintro e w4 ⟨rfl, hb4⟩
      have hlta := hTa.lt
      have HT4 := Lib.hid (hTa.below hb4)
      have HB4 := Lib.hid (hBa.trans (hb4.mono (by omega)))
      have HC4 := Lib.hid ((hb4.block qq (by omega)).trans hCa)
      have HQ4 := Lib.hid ((hb4.block q hqa).trans hcells)
      have hlt4 := HT4.out.lt
      have hq4 := blk_lt HQ4.out
      have hdz := doT_size room s o0 o1 o2
      obtain ⟨D, hD⟩ : ∃ D, doT (room : Int) s o0 o1 o2 = D := ⟨_, rfl⟩
      have HD := Lib.hid hD
      rw [hD] at hdz ⊢
      obtain ⟨s5, n5, x5⟩ := D
      simp only at hdz ⊢
      clear hD hcells hTa hBa hCa hb4 wa hlta hqa
      have hba := below_alloc (Below.refl w4.heap.size w4) (.cells #[.string s5, .int .i64 (room : Int)] 46)
      have hz : (w4.alloc (.cells #[.string s5, .int .i64 (room : Int)] 46)).frozen? ⟨qq, 0, none⟩ = false := blk_frozen ((hba.block qq (by omega)).trans HC4.out) 0
      have hz1 : (w4.alloc (.cells #[.string s5, .int .i64 (room : Int)] 46)).frozen? ⟨qq, 1, none⟩ = false := blk_frozen ((hba.block qq (by omega)).trans HC4.out) 1
      have hr0 : (w4.alloc (.cells #[.string s5, .int .i64 (room : Int)] 46)).cell? ⟨qq, 0, none⟩ = some (.string s) := (blk_cell ((hba.block qq (by omega)).trans HC4.out) 0).trans rfl
      have hr1 : (w4.alloc (.cells #[.string s5, .int .i64 (room : Int)] 46)).cell? ⟨qq, 1, none⟩ = some (.int .i64 (room : Int)) := (blk_cell ((hba.block qq (by omega)).trans HC4.out) 1).trans rfl
      have hop0 : (w4.alloc (.cells #[.string s5, .int .i64 (room : Int)] 46)).cell? ⟨q, 0, none⟩ = some (.int .i64 o0) := (blk_cell ((hba.block q hq4).trans HQ4.out) 0).trans rfl
      have hop1 : (w4.alloc (.cells #[.string s5, .int .i64 (room : Int)] 46)).cell? ⟨q, 1, none⟩ = some (.int .i64 o1) := (blk_cell ((hba.block q hq4).trans HQ4.out) 1).trans rfl
      have hop2 : (w4.alloc (.cells #[.string s5, .int .i64 (room : Int)] 46)).cell? ⟨q, 2, none⟩ = some (.string o2) := (blk_cell ((hba.block q hq4).trans HQ4.out) 2).trans rfl
      have hne : ¬ q = qq := by omega
      have hne2 : ¬ qq = q := by omega
      go_wp2_with fail
      have hT5 := (HT4.out.below hba)
      have hB5 := Below.setCell (Below.setCell (HB4.out.trans (hba.mono (show s0 ≤ w4.heap.size by omega))) (show s0 ≤ (⟨qq, 0, none⟩ : Addr).block from show s0 ≤ qq by omega) (.string s5)) (show s0 ≤ (⟨qq, 1, none⟩ : Addr).block from show s0 ≤ qq by omega) (.int .i64 (room : Int))
      have hF5 := ((Fr.refl (fun i => i = qq) (w4.alloc (.cells #[.string s5, .int .i64 (room : Int)] 46))).set (p := ⟨qq, 0, none⟩) rfl (.string s5)).set (p := ⟨qq, 1, none⟩) rfl (.int .i64 (room : Int))
      have hC5 := blk_put (blk_put ((hba.block qq (by omega)).trans HC4.out) 0 (.string s5) rfl) 1 (.int .i64 (room : Int)) rfl
      have hQ5 := (hF5.block q (by have := hba.size; omega) hne).trans ((hba.block q hq4).trans HQ4.out)
      have hT5' := hT5.keep hF5 (by omega) (by omega)
      clear hz hz1 hr0 hr1 hop0 hop1 hop2 hF5 hT5 hba HT4 HB4 HC4 HQ4
      generalize (World.setCell (World.setCell (World.alloc w4 _) _ _) _ _) = w5 at hT5' hB5 hC5 hQ5 ⊢
      have hlt5 := hT5'.lt
      have hqq5 := blk_lt hC5
      have hq5 := blk_lt hQ5
      (with_reducible refine (does_calls hT5' (by omega) (by omega) o0 o1 o2 (by omega)).mono ?_)
      rw [HD.out]
      rintro e w6 ⟨rfl, b6, ht6, hbb6, hf6⟩
      simp only at ht6 ⊢
      have HT6 := Lib.hid ht6
      have HB6 := Lib.hid (Fr.below hB5 hf6 (by omega) (fun i hi => by omega))
      have HC6 : Hid (w6.heap[qq]? = some (.cells #[.string s5, .int .i64 (room : Int)] 46 (0, 0))) := Lib.hid ((hf6.block qq hqq5 (by omega)).trans hC5)
      have hb6 : s0 ≤ b6 := by omega
      have hbq6 : b6 ≠ qq := by omega
      clear ht6 hf6 hT5' hB5 hC5 hQ5 hlt5 hqq5 hq5 hbb6
      go_wp2_with fail
      have hL := HLEN.out
      rw [wrap_inc k (by omega)]
      refine ⟨⟨k + 1, by omega, rfl, b6, s5, hb6, hbq6, by omega, ⟨HT6.out⟩, ⟨HB6.out⟩, ⟨HC6.out⟩⟩, ?_⟩
      simp only [intOf]
      omega
    · obtain rfl : k = l.length := by omega
      clear HT2 HB2 HC2
      have hss : s.size ≤ 20000 := by omega
      go_wp2_with fail
      refine (HT.out.copy).mono ?_
      rintro e w1 ⟨rfl, htc, hbc⟩
      obtain ⟨B2, hB2⟩ : ∃ B2, wo.heap.size = B2 := ⟨_, rfl⟩
      have hlto := HT.out.lt
      have hqo := blk_lt HC.out
      rw [hB2] at htc hbc hlto hqo
      simp only [hB2]
      have hcr0 : w1.cell? ⟨qq, 0, none⟩ = some (.string s) := (blk_cell ((hbc.block qq hqo).trans HC.out) 0).trans rfl
      have hcr1 : w1.cell? ⟨qq, 1, none⟩ = some (.int .i64 (room : Int)) := (blk_cell ((hbc.block qq hqo).trans HC.out) 1).trans rfl
      have HTC1 := Lib.hid htc
      have HBC1 := Lib.hid hbc
      have HBC : Hid (Below s0 w wo) := Lib.hid HB.out
      have HTO := Lib.hid HT.out
      have HCO := Lib.hid HC.out
      clear htc hbc HT HB HC
      go_wp2_with fail
      have hba := below_alloc (Below.refl w1.heap.size w1) (.cells #[.string s, .int .i64 (room : Int)] 46)
      have hcells : (w1.alloc (.cells #[.string s, .int .i64 (room : Int)] 46)).heap[w1.heap.size]? = some (.cells #[.string s, .int .i64 (room : Int)] 46 (0, 0)) := blk_new _ _
      have hlt1 := HTC1.out.lt
      have HT2 := Lib.hid (HTC1.out.below hba)
      have HB2 := Lib.hid (HBC1.out.trans (hba.mono (by omega)))
      obtain ⟨pp, hpp⟩ : ∃ pp, w1.heap.size = pp := ⟨_, rfl⟩
      have hlp : B2 + 1 < pp := by omega
      rw [hpp] at hcells
      have HC2 := Lib.hid hcells
      simp only [hpp]
      generalize w1.alloc _ = wa2 at HT2 HB2 HC2 ⊢
      clear hba hcells hlt1 HTC1 HBC1 hpp hcr0 hcr1 hsum
      have h0B : s0 ≤ B2 := by omega
      go_loopw [73] (fun u73 wr => ∃ k : Nat, k ≤ m.length ∧ u73 = .int .i64 k ∧ ∃ (b2 : Nat) (p : ByteArray), B2 ≤ b2 ∧ b2 ≠ pp ∧ p.size + sumS (m.drop k) ≤ 40000 ∧ Aside0 (Txt wr (B2 + 1) b2 room p) ∧ Aside0 (Below B2 wo wr) ∧ Aside0 (wr.heap[pp]? = some (.cells #[.string p, .int .i64 (room : Int)] 46 (0, 0)))) (fun u73 _ => m.length - (intOf u73).toNat)
      case atStart => exact ⟨0, Nat.zero_le _, rfl, B2, s, Nat.le_refl _, by omega, by rw [List.drop_zero]; have := HSUMM.out; omega, ⟨HT2.out⟩, ⟨HB2.out⟩, ⟨HC2.out⟩⟩
      case round =>
        obtain ⟨k, hk, rfl, b2, p, hb2, hbp, hsum, HT, HB, HC⟩ := hrel
        clear HT2 HB2 HC2
        obtain ⟨wz, hwz⟩ : ∃ wz, wz = wr := ⟨_, rfl⟩
        rw [← hwz] at HT HB HC ⊢
        clear hwz
        by_cases hlt : k < m.length
        · obtain ⟨ad, rfl, hc0, hc1, hc2⟩ := at_T30 (Kd.C_below HR2.out (by rw [hs00]; exact HBC.out.trans (HB.out.mono (by omega)))) (k : Int) (by omega) (by omega)
          rw [Int.toNat_natCast] at hc0 hc1 hc2
          obtain ⟨o, ho2⟩ : ∃ o, rd_T30 m (k : Int) = o := ⟨_, rfl⟩
          rw [ho2] at hc0 hc1 hc2
          have hdr := sumS_drop m k hlt
          rw [ho2] at hdr
          rw [hdr] at hsum
          clear ho2 hdr
          obtain ⟨o0, o1, o2⟩ := o
          simp only at hc0 hc1 hc2 hsum
          have hlt0 := HT.out.lt
          have hqlt := blk_lt HC.out
          have hba := below_alloc (Below.refl wz.heap.size wz) (.cells #[.int .i64 o0, .int .i64 o1, .string o2] 30)
          have hq0 : (wz.alloc (.cells #[.int .i64 o0, .int .i64 o1, .string o2] 30)).cell? ⟨pp, 0, none⟩ = some (.string p) := (blk_cell ((hba.block pp hqlt).trans HC.out) 0).trans rfl
          have hq1 : (wz.alloc (.cells #[.int .i64 o0, .int .i64 o1, .string o2] 30)).cell? ⟨pp, 1, none⟩ = some (.int .i64 (room : Int)) := (blk_cell ((hba.block pp hqlt).trans HC.out) 1).trans rfl
          clear hba
          go_wp2_with fail
          have hba := below_alloc (Below.refl wz.heap.size wz) (.cells #[.int .i64 o0, .int .i64 o1, .string o2] 30)
          obtain ⟨q, hq⟩ : ∃ q, wz.heap.size = q := ⟨_, rfl⟩
          have hcells : (wz.alloc (.cells #[.int .i64 o0, .int .i64 o1, .string o2] 30)).heap[q]? = some (.cells #[.int .i64 o0, .int .i64 o1, .string o2] 30 (0, 0)) := by rw [← hq]; exact blk_new _ _
          simp only [hq]
          have hTa := HT.out.below hba
          have hBa := HB.out.trans (hba.mono (by omega))
          have hCa := (hba.block pp hqlt).trans HC.out
          have hqa := blk_lt hcells
          generalize wz.alloc _ = wa at hcells hTa hBa hCa hqa ⊢
          clear hba hq0 hq1 hc0 hc1 hc2 HT HB HC
          (with_reducible refine (do_calls p o2 room o0 o1 wa (by omega) (by omega) (by omega)).mono ?_)
          rintro e w4 ⟨rfl, hb4⟩
          have hlta := hTa.lt
          have HT4 := Lib.hid (hTa.below hb4)
          have HB4 := Lib.hid (hBa.trans (hb4.mono (by omega)))
          have HC4 := Lib.hid ((hb4.block pp (by omega)).trans hCa)
          have HQ4 := Lib.hid ((hb4.block q hqa).trans hcells)
          have hlt4 := HT4.out.lt
          have hq4 := blk_lt HQ4.out
          have hdz := doT_size room p o0 o1 o2
          obtain ⟨D, hD⟩ : ∃ D, doT (room : Int) p o0 o1 o2 = D := ⟨_, rfl⟩
          have HD := Lib.hid hD
          rw [hD] at hdz ⊢
          obtain ⟨s5, n5, x5⟩ := D
          simp only at hdz ⊢
          clear hD hcells hTa hBa hCa hb4 wa hlta hqa
          have hba := below_alloc (Below.refl w4.heap.size w4) (.cells #[.string s5, .int .i64 (room : Int)] 46)
          have hz : (w4.alloc (.cells #[.string s5, .int .i64 (room : Int)] 46)).frozen? ⟨pp, 0, none⟩ = false := blk_frozen ((hba.block pp (by omega)).trans HC4.out) 0
          have hz1 : (w4.alloc (.cells #[.string s5, .int .i64 (room : Int)] 46)).frozen? ⟨pp, 1, none⟩ = false := blk_frozen ((hba.block pp (by omega)).trans HC4.out) 1
          have hr0 : (w4.alloc (.cells #[.string s5, .int .i64 (room : Int)] 46)).cell? ⟨pp, 0, none⟩ = some (.string p) := (blk_cell ((hba.block pp (by omega)).trans HC4.out) 0).trans rfl
          have hr1 : (w4.alloc (.cells #[.string s5, .int .i64 (room : Int)] 46)).cell? ⟨pp, 1, none⟩ = some (.int .i64 (room : Int)) := (blk_cell ((hba.block pp (by omega)).trans HC4.out) 1).trans rfl
          have hop0 : (w4.alloc (.cells #[.string s5, .int .i64 (room : Int)] 46)).cell? ⟨q, 0, none⟩ = some (.int .i64 o0) := (blk_cell ((hba.block q hq4).trans HQ4.out) 0).trans rfl
          have hop1 : (w4.alloc (.cells #[.string s5, .int .i64 (room : Int)] 46)).cell? ⟨q, 1, none⟩ = some (.int .i64 o1) := (blk_cell ((hba.block q hq4).trans HQ4.out) 1).trans rfl
          have hop2 : (w4.alloc (.cells #[.string s5, .int .i64 (room : Int)] 46)).cell? ⟨q, 2, none⟩ = some (.string o2) := (blk_cell ((hba.block q hq4).trans HQ4.out) 2).trans rfl
          have hne : ¬ q = pp := by omega
          have hne2 : ¬ pp = q := by omega
          go_wp2_with fail
          have hT5 := (HT4.out.below hba)
          have hB5 := Below.setCell (Below.setCell (HB4.out.trans (hba.mono (show B2 ≤ w4.heap.size by omega))) (show B2 ≤ (⟨pp, 0, none⟩ : Addr).block from show B2 ≤ pp by omega) (.string s5)) (show B2 ≤ (⟨pp, 1, none⟩ : Addr).block from show B2 ≤ pp by omega) (.int .i64 (room : Int))
          have hF5 := ((Fr.refl (fun i => i = pp) (w4.alloc (.cells #[.string s5, .int .i64 (room : Int)] 46))).set (p := ⟨pp, 0, none⟩) rfl (.string s5)).set (p := ⟨pp, 1, none⟩) rfl (.int .i64 (room : Int))
          have hC5 := blk_put (blk_put ((hba.block pp (by omega)).trans HC4.out) 0 (.string s5) rfl) 1 (.int .i64 (room : Int)) rfl
          have hQ5 := (hF5.block q (by have := hba.size; omega) hne).trans ((hba.block q hq4).trans HQ4.out)
          have hT5' := hT5.keep hF5 (by omega) (by omega)
          clear hz hz1 hr0 hr1 hop0 hop1 hop2 hF5 hT5 hba HT4 HB4 HC4 HQ4
          generalize (World.setCell (World.setCell (World.alloc w4 _) _ _) _ _) = w5 at hT5' hB5 hC5 hQ5 ⊢
          have hlt5 := hT5'.lt
          have hqq5 := blk_lt hC5
          have hq5 := blk_lt hQ5
          (with_reducible refine (does_calls hT5' (by omega) (by omega) o0 o1 o2 (by omega)).mono ?_)
          rw [HD.out]
          rintro e w6 ⟨rfl, b6, ht6, hbb6, hf6⟩
          simp only at ht6 ⊢
          have HT6 := Lib.hid ht6
          have HB6 := Lib.hid (Fr.below hB5 hf6 (by omega) (fun i hi => by omega))
          have HC6 : Hid (w6.heap[pp]? = some (.cells #[.string s5, .int .i64 (room : Int)] 46 (0, 0))) := Lib.hid ((hf6.block pp hqq5 (by omega)).trans hC5)
          have hb6 : B2 ≤ b6 := by omega
          have hbq6 : b6 ≠ pp := by omega
          clear ht6 hf6 hT5' hB5 hC5 hQ5 hlt5 hqq5 hq5 hbb6
          go_wp2_with fail
          have hL := HLENM.out
          rw [wrap_inc k (by omega)]
          refine ⟨⟨k + 1, by omega, rfl, b6, s5, hb6, hbq6, by omega, ⟨HT6.out⟩, ⟨HB6.out⟩, ⟨HC6.out⟩⟩, ?_⟩
          simp only [intOf]
          omega
        · obtain rfl : k = m.length := by omega
          have hltz := HT.out.lt
          have hps : p.size ≤ 40000 := by omega
          have h1 := HTO.out.lt
          have hbz : Below wo.heap.size wo wz := by rw [hB2]; exact HB.out
          have HTR := Lib.hid (HTO.out.below hbz)
          have HBZ := Lib.hid (HBC.out.trans (HB.out.mono h0B))
          have HCQ := Lib.hid ((HB.out.block qq hqo).trans HCO.out)
          have HTC := Lib.hid HT.out
          have HCP := Lib.hid HC.out
          have HCUTS : Hid (cutN (wrap64 ((s.size : Int) + 1)) s.size = s.size) := Lib.hid (by rw [wrap_inc _ (by omega)]; unfold cutN; omega)
          have HCUTP : Hid (cutN (wrap64 ((p.size : Int) + 1)) p.size = p.size) := Lib.hid (by rw [wrap_inc _ (by omega)]; unfold cutN; omega)
          clear HT HB HC HTO HCO hbz hB2 h1
          go_wp2_with fail
          have n0_ := Aside0.mk (HTR.out.below (below_drew1 (Below.refl _ _))); have n1_ := Aside0.mk (HTC.out.below (below_drew1 (Below.refl _ _))); have n2_ := Aside0.mk (below_drew1 HBZ.out); have n3_ : Aside0 (wz.drew.heap[qq]? = some (.cells #[.string s, .int .i64 (room : Int)] 46 (0, 0))) := Aside0.mk HCQ.out; have n4_ : Aside0 (wz.drew.heap[pp]? = some (.cells #[.string p, .int .i64 (room : Int)] 46 (0, 0))) := Aside0.mk HCP.out; clear HTR HTC HBZ HCQ HCP; have HTR := n0_; have HTC := n1_; have HBZ := n2_; have HCQ := n3_; have HCP := n4_; clear n0_ n1_ n2_ n3_ n4_
          refine start_ (n := 26) (S := fun w' => (w'.cell? ⟨qq, 0, none⟩ = some (.string s) ∧ w'.cell? ⟨pp, 0, none⟩ = some (.string p))) (ds := []) #[false, false, false, false, false, false, false, false, false, false, false, false, false, false, false, false, false, false, false, false, false, false, false, false, false, false] (by kernel_rfl) rfl rfl ⟨(blk_cell HCQ.out 0).trans rfl, (blk_cell HCP.out 0).trans rfl⟩ (fun hHeld => ?_); refine with_tabW tabCopies bitsCopies (fun HT_ HW_ => ?_)
          generalize wz.drew = wd at HTR HTC HBZ HCQ HCP hHeld ⊢
          refine one_ (i := 0) (N := some 100) #[true, false, false, false, false, false, false, false, false, false, false, false, false, false, false, false, false, false, false, false, false, false, false, false, false, false] rfl rfl (one_of HT_.out (by kernel_rfl)) (by decide) (fun K hK => ?_)
          refine goes_ Try.func12 (by kernel_rfl) rfl #[] (by rfl) rfl rfl (by (try simp only [List.map_toArray, List.map_cons, List.map_nil]); first | done | rfl) ?_
          refine (alive_calls _).mono ?_
          rintro e w7 ⟨rfl, hb7⟩
          have n0_ := Aside0.mk (HTR.out.below hb7); have n1_ := Aside0.mk (HTC.out.below hb7); have n2_ := Aside0.mk (HBZ.out.trans (hb7.mono (by have := HTR.out.lt; omega))); have n3_ := Aside0.mk ((hb7.block qq (blk_lt HCQ.out)).trans HCQ.out); have n4_ := Aside0.mk ((hb7.block pp (blk_lt HCP.out)).trans HCP.out); clear HTR HTC HBZ HCQ HCP; have HTR := n0_; have HTC := n1_; have HBZ := n2_; have HCQ := n3_; have HCP := n4_; clear n0_ n1_ n2_ n3_ n4_
          clear hb7
          refine ⟨_, rfl, ?_⟩
          refine hK.out _ _ ⟨(blk_cell HCQ.out 0).trans rfl, (blk_cell HCP.out 0).trans rfl⟩ (fun hHeld => ?_)
          clear hK K
          refine norm_ (a' := ?_) ?_ ?_
          rotate_left
          · show Act.put _ (some 100) _ = _
            simp only [Act.put, List.setIfInBounds_toArray, List.set_cons_zero, List.set_cons_succ, i64_w, i32_w]
            rfl
          refine pure_ (i := 1) (N := some 101) (v := ?_) (a' := ?_) #[true, true, false, false, false, false, false, false, false, false, false, false, false, false, false, false, false, false, false, false, false, false, false, false, false, false] rfl rfl (any_of HT_.out (by kernel_rfl)) (fun _ _ _ h => h) (Or.inl ⟨by rfl, ?_⟩) ?_ ?_
          rotate_left
          · intro w'
            go_simp
            with_reducible rfl
          rotate_left
          · simp only [Act.put, List.setIfInBounds_toArray, List.set_cons_zero, List.set_cons_succ, i64_w, i32_w]
            rfl
          refine pure_ (i := 2) (N := some 102) (v := ?_) (a' := ?_) #[true, true, true, false, false, false, false, false, false, false, false, false, false, false, false, false, false, false, false, false, false, false, false, false, false, false] rfl rfl (any_of HT_.out (by kernel_rfl)) (fun _ _ _ h => h) (Or.inl ⟨by rfl, ?_⟩) ?_ ?_
          rotate_left
          · intro w'
            go_simp
            with_reducible rfl
          rotate_left
          · simp only [Act.put, List.setIfInBounds_toArray, List.set_cons_zero, List.set_cons_succ, i64_w, i32_w]
            rfl
          refine pure_ (i := 3) (N := some 103) (v := ?_) (a' := ?_) #[true, true, true, true, false, false, false, false, false, false, false, false, false, false, false, false, false, false, false, false, false, false, false, false, false, false] rfl rfl (any_of HT_.out (by kernel_rfl)) (fun _ _ _ h => h) (Or.inl ⟨by rfl, ?_⟩) ?_ ?_
          rotate_left
          · intro w'
            go_simp
            with_reducible rfl
          rotate_left
          · simp only [Act.put, List.setIfInBounds_toArray, List.set_cons_zero, List.set_cons_succ, i64_w, i32_w]
            rfl
          refine take_ (i := 4) (N := some 104) (v := ?_) (a' := ?_) #[true, true, true, true, true, false, false, false, false, false, false, false, false, false, false, false, false, false, false, false, false, false, false, false, false, false] rfl rfl (take_ofW HT_.out HW_.out (by kernel_rfl)) (fun _ _ _ h => h) (Or.inl ⟨by rfl, ?_⟩) hHeld ?_ ?_
          rotate_left
          · rintro w' ⟨s0_, s1_⟩
            go_simp
            with_reducible rfl
          rotate_left
          · simp only [Act.put, List.setIfInBounds_toArray, List.set_cons_zero, List.set_cons_succ, i64_w, i32_w]
            rfl
          refine pure_ (i := 5) (N := some 105) (v := ?_) (a' := ?_) #[true, true, true, true, true, true, false, false, false, false, false, false, false, false, false, false, false, false, false, false, false, false, false, false, false, false] rfl rfl (any_of HT_.out (by kernel_rfl)) (fun _ _ _ h => h) (Or.inl ⟨by rfl, ?_⟩) ?_ ?_
          rotate_left
          · intro w'
            go_simp
            with_reducible rfl
          rotate_left
          · simp only [Act.put, List.setIfInBounds_toArray, List.set_cons_zero, List.set_cons_succ, i64_w, i32_w]
            rfl
          refine pure_ (i := 6) (N := some 106) (v := ?_) (a' := ?_) #[true, true, true, true, true, true, true, false, false, false, false, false, false, false, false, false, false, false, false, false, false, false, false, false, false, false] rfl rfl (any_of HT_.out (by kernel_rfl)) (fun _ _ _ h => h) (Or.inl ⟨by rfl, ?_⟩) ?_ ?_
          rotate_left
          · intro w'
            go_simp
            with_reducible rfl
          rotate_left
          · simp only [Act.put, List.setIfInBounds_toArray, List.set_cons_zero, List.set_cons_succ, i64_w, i32_w]
            rfl
          refine pure_ (i := 9) (N := some 109) (v := ?_) (a' := ?_) #[true, true, true, true, true, true, true, false, false, true, false, false, false, false, false, false, false, false, false, false, false, false, false, false, false, false] rfl rfl (any_of HT_.out (by kernel_rfl)) (fun _ _ _ h => h) (Or.inl ⟨by rfl, ?_⟩) ?_ ?_
          rotate_left
          · intro w'
            go_simp
            with_reducible rfl
          rotate_left
          · simp only [Act.put, List.setIfInBounds_toArray, List.set_cons_zero, List.set_cons_succ, i64_w, i32_w]
            rfl
          refine take_ (i := 10) (N := some 110) (v := ?_) (a' := ?_) #[true, true, true, true, true, true, true, false, false, true, true, false, false, false, false, false, false, false, false, false, false, false, false, false, false, false] rfl rfl (take_ofW HT_.out HW_.out (by kernel_rfl)) (fun _ _ _ h => h) (Or.inl ⟨by rfl, ?_⟩) hHeld ?_ ?_
          rotate_left
          · rintro w' ⟨s0_, s1_⟩
            go_simp
            with_reducible rfl
          rotate_left
          · simp only [Act.put, List.setIfInBounds_toArray, List.set_cons_zero, List.set_cons_succ, i64_w, i32_w]
            rfl
          refine one_ (i := 7) (N := some 107) #[true, true, true, true, true, true, true, true, false, true, true, false, false, false, false, false, false, false, false, false, false, false, false, false, false, false] rfl rfl (one_of HT_.out (by kernel_rfl)) (by decide) (fun K hK => ?_)
          refine goes_ Try.func17 (by kernel_rfl) rfl #[.pointer (some ⟨s0 + 1, 0, none⟩), .int .i64 (wrap64 ((s.size : Int) + 1))] (by rfl) rfl rfl (by (try simp only [List.map_toArray, List.map_cons, List.map_nil]); first | done | rfl) ?_
          refine (Txt.peek HTR.out (wrap64 ((s.size : Int) + 1))).mono ?_
          rw [HCUTS.out, ba_self]
          rintro e w8 ⟨rfl, hq8, hb8⟩
          have HQ8 := Aside0.mk hq8
          have n0_ := Aside0.mk (HTR.out.below hb8); have n1_ := Aside0.mk (HTC.out.below hb8); have n2_ := Aside0.mk (HBZ.out.trans (hb8.mono (by have := HTR.out.lt; omega))); have n3_ := Aside0.mk ((hb8.block qq (blk_lt HCQ.out)).trans HCQ.out); have n4_ := Aside0.mk ((hb8.block pp (blk_lt HCP.out)).trans HCP.out); clear HTR HTC HBZ HCQ HCP; have HTR := n0_; have HTC := n1_; have HBZ := n2_; have HCQ := n3_; have HCP := n4_; clear n0_ n1_ n2_ n3_ n4_
          clear hb8 hq8
          refine ⟨_, rfl, ?_⟩
          refine hK.out _ _ ⟨(blk_cell HCQ.out 0).trans rfl, (blk_cell HCP.out 0).trans rfl⟩ (fun hHeld => ?_)
          clear hK K
          refine norm_ (a' := ?_) ?_ ?_
          rotate_left
          · show Act.put _ (some 107) _ = _
            simp only [Act.put, List.setIfInBounds_toArray, List.set_cons_zero, List.set_cons_succ, i64_w, i32_w]
            rfl
          refine one_ (i := 8) (N := some 108) #[true, true, true, true, true, true, true, true, true, true, true, false, false, false, false, false, false, false, false, false, false, false, false, false, false, false] rfl rfl (one_of HT_.out (by kernel_rfl)) (by decide) (fun K hK => ?_)
          refine value_ (by rfl) rfl (v := .string s) (w1 := w8) ?_ ?_
          · have hcv := Row.conv (c := s.size) HQ8.out rfl (by omega)
            go_simp
          refine hK.out _ _ ⟨(blk_cell HCQ.out 0).trans rfl, (blk_cell HCP.out 0).trans rfl⟩ (fun hHeld => ?_)
          clear hK K
          refine norm_ (a' := ?_) ?_ ?_
          rotate_left
          · show Act.put _ (some 108) _ = _
            simp only [Act.put, List.setIfInBounds_toArray, List.set_cons_zero, List.set_cons_succ, i64_w, i32_w]
            rfl
          refine pure_ (i := 11) (N := some 111) (v := ?_) (a' := ?_) #[true, true, true, true, true, true, true, true, true, true, true, true, false, false, false, false, false, false, false, false, false, false, false, false, false, false] rfl rfl (any_of HT_.out (by kernel_rfl)) (fun _ _ _ h => h) (Or.inl ⟨by rfl, ?_⟩) ?_ ?_
          rotate_left
          · intro w'
            go_simp
            with_reducible rfl
          rotate_left
          · simp only [Act.put, List.setIfInBounds_toArray, List.set_cons_zero, List.set_cons_succ, i64_w, i32_w]
            rfl
          refine pure_ (i := 12) (N := some 112) (v := ?_) (a' := ?_) #[true, true, true, true, true, true, true, true, true, true, true, true, true, false, false, false, false, false, false, false, false, false, false, false, false, false] rfl rfl (any_of HT_.out (by kernel_rfl)) (fun _ _ _ h => h) (Or.inl ⟨by rfl, ?_⟩) ?_ ?_
          rotate_left
          · intro w'
            go_simp
            with_reducible rfl
          rotate_left
          · simp only [Act.put, List.setIfInBounds_toArray, List.set_cons_zero, List.set_cons_succ, i64_w, i32_w]
            rfl
          refine pure_ (i := 13) (N := some 113) (v := ?_) (a' := ?_) #[true, true, true, true, true, true, true, true, true, true, true, true, true, true, false, false, false, false, false, false, false, false, false, false, false, false] rfl rfl (any_of HT_.out (by kernel_rfl)) (fun _ _ _ h => h) (Or.inl ⟨by rfl, ?_⟩) ?_ ?_
          rotate_left
          · intro w'
            go_simp
            with_reducible rfl
          rotate_left
          · simp only [Act.put, List.setIfInBounds_toArray, List.set_cons_zero, List.set_cons_succ, i64_w, i32_w]
            rfl
          refine pure_ (i := 14) (N := some 114) (v := ?_) (a' := ?_) #[true, true, true, true, true, true, true, true, true, true, true, true, true, true, true, false, false, false, false, false, false, false, false, false, false, false] rfl rfl (any_of HT_.out (by kernel_rfl)) (fun _ _ _ h => h) (Or.inl ⟨by rfl, ?_⟩) ?_ ?_
          rotate_left
          · intro w'
            go_simp
            with_reducible rfl
          rotate_left
          · simp only [Act.put, List.setIfInBounds_toArray, List.set_cons_zero, List.set_cons_succ, i64_w, i32_w]
            rfl
          refine pure_ (i := 15) (N := some 115) (v := ?_) (a' := ?_) #[true, true, true, true, true, true, true, true, true, true, true, true, true, true, true, true, false, false, false, false, false, false, false, false, false, false] rfl rfl (any_of HT_.out (by kernel_rfl)) (fun _ _ _ h => h) (Or.inl ⟨by rfl, ?_⟩) ?_ ?_
          rotate_left
          · intro w'
            go_simp
            with_reducible rfl
          rotate_left
          · simp only [Act.put, List.setIfInBounds_toArray, List.set_cons_zero, List.set_cons_succ, i64_w, i32_w]
            rfl
          refine take_ (i := 16) (N := some 116) (v := ?_) (a' := ?_) #[true, true, true, true, true, true, true, true, true, true, true, true, true, true, true, true, true, false, false, false, false, false, false, false, false, false] rfl rfl (take_ofW HT_.out HW_.out (by kernel_rfl)) (fun _ _ _ h => h) (Or.inl ⟨by rfl, ?_⟩) hHeld ?_ ?_
          rotate_left
          · rintro w' ⟨s0_, s1_⟩
            go_simp
            with_reducible rfl
          rotate_left
          · simp only [Act.put, List.setIfInBounds_toArray, List.set_cons_zero, List.set_cons_succ, i64_w, i32_w]
            rfl
          refine pure_ (i := 17) (N := some 117) (v := ?_) (a' := ?_) #[true, true, true, true, true, true, true, true, true, true, true, true, true, true, true, true, true, true, false, false, false, false, false, false, false, false] rfl rfl (any_of HT_.out (by kernel_rfl)) (fun _ _ _ h => h) (Or.inl ⟨by rfl, ?_⟩) ?_ ?_
          rotate_left
          · intro w'
            go_simp
            with_reducible rfl
          rotate_left
          · simp only [Act.put, List.setIfInBounds_toArray, List.set_cons_zero, List.set_cons_succ, i64_w, i32_w]
            rfl
          refine pure_ (i := 18) (N := some 118) (v := ?_) (a' := ?_) #[true, true, true, true, true, true, true, true, true, true, true, true, true, true, true, true, true, true, true, false, false, false, false, false, false, false] rfl rfl (any_of HT_.out (by kernel_rfl)) (fun _ _ _ h => h) (Or.inl ⟨by rfl, ?_⟩) ?_ ?_
          rotate_left
          · intro w'
            go_simp
            with_reducible rfl
          rotate_left
          · simp only [Act.put, List.setIfInBounds_toArray, List.set_cons_zero, List.set_cons_succ, i64_w, i32_w]
            rfl
          refine pure_ (i := 21) (N := some 121) (v := ?_) (a' := ?_) #[true, true, true, true, true, true, true, true, true, true, true, true, true, true, true, true, true, true, true, false, false, true, false, false, false, false] rfl rfl (any_of HT_.out (by kernel_rfl)) (fun _ _ _ h => h) (Or.inl ⟨by rfl, ?_⟩) ?_ ?_
          rotate_left
          · intro w'
            go_simp
            with_reducible rfl
          rotate_left
          · simp only [Act.put, List.setIfInBounds_toArray, List.set_cons_zero, List.set_cons_succ, i64_w, i32_w]
            rfl
          refine take_ (i := 22) (N := some 122) (v := ?_) (a' := ?_) #[true, true, true, true, true, true, true, true, true, true, true, true, true, true, true, true, true, true, true, false, false, true, true, false, false, false] rfl rfl (take_ofW HT_.out HW_.out (by kernel_rfl)) (fun _ _ _ h => h) (Or.inl ⟨by rfl, ?_⟩) hHeld ?_ ?_
          rotate_left
          · rintro w' ⟨s0_, s1_⟩
            go_simp
            with_reducible rfl
          rotate_left
          · simp only [Act.put, List.setIfInBounds_toArray, List.set_cons_zero, List.set_cons_succ, i64_w, i32_w]
            rfl
          refine one_ (i := 19) (N := some 119) #[true, true, true, true, true, true, true, true, true, true, true, true, true, true, true, true, true, true, true, true, false, true, true, false, false, false] rfl rfl (one_of HT_.out (by kernel_rfl)) (by decide) (fun K hK => ?_)
          refine goes_ Try.func17 (by kernel_rfl) rfl #[.pointer (some ⟨B2 + 1, 0, none⟩), .int .i64 (wrap64 ((p.size : Int) + 1))] (by rfl) rfl rfl (by (try simp only [List.map_toArray, List.map_cons, List.map_nil]); first | done | rfl) ?_
          refine (Txt.peek HTC.out (wrap64 ((p.size : Int) + 1))).mono ?_
          rw [HCUTP.out, ba_self]
          rintro e w9 ⟨rfl, hq9, hb9⟩
          have HQ9 := Aside0.mk hq9
          have n0_ := Aside0.mk (HTR.out.below hb9); have n1_ := Aside0.mk (HTC.out.below hb9); have n2_ := Aside0.mk (HBZ.out.trans (hb9.mono (by have := HTR.out.lt; omega))); have n3_ := Aside0.mk ((hb9.block qq (blk_lt HCQ.out)).trans HCQ.out); have n4_ := Aside0.mk ((hb9.block pp (blk_lt HCP.out)).trans HCP.out); clear HTR HTC HBZ HCQ HCP; have HTR := n0_; have HTC := n1_; have HBZ := n2_; have HCQ := n3_; have HCP := n4_; clear n0_ n1_ n2_ n3_ n4_
          clear hb9 hq9
          refine ⟨_, rfl, ?_⟩
          refine hK.out _ _ ⟨(blk_cell HCQ.out 0).trans rfl, (blk_cell HCP.out 0).trans rfl⟩ (fun hHeld => ?_)
          clear hK K
          refine norm_ (a' := ?_) ?_ ?_
          rotate_left
          · show Act.put _ (some 119) _ = _
            simp only [Act.put, List.setIfInBounds_toArray, List.set_cons_zero, List.set_cons_succ, i64_w, i32_w]
            rfl
          refine one_ (i := 20) (N := some 120) #[true, true, true, true, true, true, true, true, true, true, true, true, true, true, true, true, true, true, true, true, true, true, true, false, false, false] rfl rfl (one_of HT_.out (by kernel_rfl)) (by decide) (fun K hK => ?_)
          refine value_ (by rfl) rfl (v := .string p) (w1 := w9) ?_ ?_
          · have hcv := Row.conv (c := p.size) HQ9.out rfl (by omega)
            go_simp
          refine hK.out _ _ ⟨(blk_cell HCQ.out 0).trans rfl, (blk_cell HCP.out 0).trans rfl⟩ (fun hHeld => ?_)
          clear hK K
          refine norm_ (a' := ?_) ?_ ?_
          rotate_left
          · show Act.put _ (some 120) _ = _
            simp only [Act.put, List.setIfInBounds_toArray, List.set_cons_zero, List.set_cons_succ, i64_w, i32_w]
            rfl
          refine pure_ (i := 23) (N := some 123) (v := ?_) (a' := ?_) #[true, true, true, true, true, true, true, true, true, true, true, true, true, true, true, true, true, true, true, true, true, true, true, true, false, false] rfl rfl (any_of HT_.out (by kernel_rfl)) (fun _ _ _ h => h) (Or.inl ⟨by rfl, ?_⟩) ?_ ?_
          rotate_left
          · intro w'
            go_simp
            with_reducible rfl
          rotate_left
          · simp only [Act.put, List.setIfInBounds_toArray, List.set_cons_zero, List.set_cons_succ, i64_w, i32_w]
            rfl
          refine pure_ (i := 24) (N := some 124) (v := ?_) (a' := ?_) #[true, true, true, true, true, true, true, true, true, true, true, true, true, true, true, true, true, true, true, true, true, true, true, true, true, false] rfl rfl (any_of HT_.out (by kernel_rfl)) (fun _ _ _ h => h) (Or.inl ⟨by rfl, ?_⟩) ?_ ?_
          rotate_left
          · intro w'
            go_simp
            with_reducible rfl
          rotate_left
          · simp only [Act.put, List.setIfInBounds_toArray, List.set_cons_zero, List.set_cons_succ, i64_w, i32_w]
            rfl
          refine pure_ (i := 25) (N := some 6) (v := ?_) (a' := ?_) #[true, true, true, true, true, true, true, true, true, true, true, true, true, true, true, true, true, true, true, true, true, true, true, true, true, true] rfl rfl (any_of HT_.out (by kernel_rfl)) (fun _ _ _ h => h) (Or.inl ⟨by rfl, ?_⟩) ?_ ?_
          rotate_left
          · intro w'
            go_simp
            with_reducible rfl
          rotate_left
          · simp only [Act.put, List.setIfInBounds_toArray, List.set_cons_zero, List.set_cons_succ, i64_w, i32_w]
            rfl
          refine done_ (done_of HT_.out (by kernel_rfl)) ?_
          go_wp2_with fail
          go_ret
          refine ⟨rfl, ?_⟩
          rw [hs00]
          exact HBZ.out
end
end Go.Proofs.Ytbplfoanhfmheaa.Hand
