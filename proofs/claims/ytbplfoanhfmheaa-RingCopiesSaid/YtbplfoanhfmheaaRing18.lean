/- The walk of RingAll. -/
import Derived.Test.YtbplfoanhfmheaaRing16
import Derived.Test.YtbplfoanhfmheaaRing17
namespace Go.Proofs.Ytbplfoanhfmheaa.Hand
open Go.RowKit Go.Proofs.YtbplfoanhfmheaaW.PrintWords Go.Proofs.YtbplfoanhfmheaaW.PrintLast Go.Proofs.YtbplfoanhfmheaaW.PrintMore Go.Proofs.Ytbplfoanhfmheaa.PRingKeeps
attribute [local go_sem] max2_mx min2_mn max_two min_two
set_option linter.unusedVariables false
set_option linter.unusedSimpArgs false
theorem doT_size (room : Int) (s : ByteArray) (k n : Int) (t : ByteArray) : (doT room s k n t).1.size ≤ s.size + t.size := by
  have hc := cutN_le n s.size
  unfold doT
  by_cases k0 : k = 0
  · rw [if_pos k0]
    have hw : wrT room s t ≤ t.size := Nat.min_le_left _ _
    rw [ByteArray.size_append, ba_tsize _ _ hw]
    omega
  rw [if_neg k0]
  split
  · rw [ByteArray.size_append]; exact Nat.le_refl _
  split
  · simp only [ByteArray.size_extract]; omega
  split
  · exact Nat.le_add_right _ _
  split
  · simp only [ByteArray.size_extract]; omega
  split
  · exact Nat.zero_le _
  exact Nat.le_add_right _ _
theorem all_many (room : Int) (A : Option Addr) (c : Nat) (l : List S30) (w : World) (hr : Kd.C k30 w A l.length l) (hc : l.length ≤ c) (ho : ∀ o ∈ l, o.f2.size ≤ 140737488355328) (hf : fewB l = false) : Calls Try.prog 8 #[.int .i64 room, .slice A l.length c] w fun e w' => e = .returned (.bool true) ∧ Below w.heap.size w w' := by
  have HL : Hid (l.length ≤ 9223372036854775807) := Lib.hid hr.2.1
  have HR := Lib.hid hr
  clear hr
  go_enter Try.func8, Try.ntmps8
  go_wp2_with fail
  refine (few_calls HR.out hc HL.out ho).mono ?_
  rw [hf]
  rintro e w2 ⟨rfl, hb2⟩
  have HB2 := Lib.hid hb2
  clear hb2
  go_wp2_with fail
  refine (alive_calls _).mono ?_
  rintro e w3 ⟨rfl, hb3⟩
  go_wp2_with fail
  go_ret
  exact ⟨rfl, below_step HB2.out hb3⟩
theorem all_bad (room : Int) (A : Option Addr) (c : Nat) (l : List S30) (w : World) (h : room < 0 ∨ 4096 < room) (hr : Kd.C k30 w A l.length l) (hc : l.length ≤ c) (ho : ∀ o ∈ l, o.f2.size ≤ 140737488355328) (hf : fewB l = true) : Calls Try.prog 8 #[.int .i64 room, .slice A l.length c] w fun e w' => e = .returned (.bool true) ∧ Below w.heap.size w w' := by
  have HL : Hid (l.length ≤ 9223372036854775807) := Lib.hid hr.2.1
  have HR := Lib.hid hr
  have hdec : decide (0 ≤ room ∧ room ≤ 4096) = false := decide_eq_false (by omega)
  clear hr
  go_enter Try.func8, Try.ntmps8
  go_wp2_with fail
  refine (few_calls HR.out hc HL.out ho).mono ?_
  rw [hf]
  rintro e w2 ⟨rfl, hb2⟩
  have HB2 := Lib.hid hb2
  clear hb2
  go_wp2_with fail
  refine (new_bad room w2 h).mono ?_
  rintro e w1 ⟨rfl, rfl⟩
  go_wp2_with fail
  refine (right_calls room w2).mono ?_
  rw [hdec]
  rintro e w1 ⟨rfl, rfl⟩
  have hdec := true
  go_wp2_with fail
  refine (alive_calls _).mono ?_
  rintro e w3 ⟨rfl, hb3⟩
  go_wp2_with fail
  go_ret
  exact ⟨rfl, below_step HB2.out hb3⟩
def TAll : Bool × List (List Nat × List Nat) := (true, [([], []), ([], []), ([0, 1], [0, 1]), ([2], [2]), ([3], [3]), ([3], [3]), ([4, 5, 3], [3, 4, 5]), ([3, 6], [3, 6]), ([7, 3], [7]), ([8], [8]), ([9, 8, 8], [8, 9]), ([8], [8]), ([11, 8], [8, 11]), ([12, 8], [8, 12]), ([10, 13, 8], [8, 10, 13]), ([8, 14], [8, 14]), ([15, 10], [15]), ([16], [16]), ([17, 16, 16], [16, 17]), ([16], [16]), ([18, 19, 16], [16, 18, 19]), ([16, 20], [16, 20]), ([21, 18], [21]), ([22], [22]), ([23, 22, 22], [22, 23]), ([22], [22]), ([25, 24, 22], [22, 25]), ([24, 26, 22], [22, 24, 26]), ([22, 27], [22, 27]), ([28, 26], [28]), ([29], [29]), ([29], [29]), ([31, 29], [29, 31]), ([32, 29], [29, 32]), ([33, 29], [29, 33]), ([30, 34, 29, 29], [29, 30, 34]), ([35, 29], [29, 35]), ([29], [29]), ([37, 29], [29, 37]), ([36, 38, 29], [29, 36, 38]), ([29, 39], [29, 39])])
def BAll : List Nat := [0, 0, 3, 7, 15, 15, 63, 127, 255, 511, 1023, 511, 2559, 6655, 16383, 32767, 65535, 131071, 262143, 131071, 1048575, 2097151, 4194303, 8388607, 16777215, 8388607, 67108863, 134217727, 268435455, 536870911, 1073741823, 1073741823, 3221225471, 7516192767, 16106127359, 34359738367, 68719476735, 1073741823, 138512695295, 549755813887, 1099511627775]
theorem tabAll : rtab .any (opsOf Try.f8 15) = TAll := by kernel_rfl
theorem bitsAll : waitsOk TAll.2 BAll = true := by kernel_rfl
set_option maxHeartbeats 4000000 in
set_option maxRecDepth 100000 in
theorem all_few (room : Nat) (hroom : room ≤ 4096) (A : Option Addr) (c : Nat) (l : List S30) (w : World) (hr : Kd.C k30 w A l.length l) (hc : l.length ≤ c) (ho : ∀ o ∈ l, o.f2.size ≤ 140737488355328) (hf : fewB l = true) : Calls Try.prog 8 #[.int .i64 room, .slice A l.length c] w fun e w' => e = .returned (.bool true) ∧ Below w.heap.size w w' := by
  have HL : Hid (l.length ≤ 9223372036854775807) := Lib.hid hr.2.1
  have HR := Lib.hid hr
  have HDEC : Hid (decide (0 ≤ (room : Int) ∧ (room : Int) ≤ 4096) = true) := Lib.hid (decide_eq_true (by omega))
  clear hr
  go_enter Try.func8, Try.ntmps8
  go_wp2_with fail
  obtain ⟨s00, hs00⟩ : ∃ s00, w.heap.size = s00 := ⟨_, rfl⟩
  refine (few_calls HR.out hc HL.out ho).mono ?_
  rw [hf]
  rintro e w2 ⟨rfl, hb2⟩
  have HB2 : Hid (Below s00 w w2) := Lib.hid (hs00 ▸ hb2)
  have h20 : s00 ≤ w2.heap.size := hs00 ▸ hb2.size
  clear hb2
  go_wp2_with fail
  refine (new_good room w2 hroom).mono ?_
  rintro e w1 ⟨rfl, hr1, hb1⟩
  obtain ⟨s0, hs0⟩ : ∃ s0, w2.heap.size = s0 := ⟨_, rfl⟩
  have HT1 := Lib.hid (Txt.new (hs0 ▸ hr1))
  have HB1 : Hid (Below s00 w w1) := Lib.hid (HB2.out.trans (hb1.mono h20))
  have h0s : s00 ≤ s0 := hs0 ▸ h20
  simp only [hs0, hs00]
  clear hr1 hb1 HB2 h20
  go_wp2_with fail
  refine (right_calls room w1).mono ?_
  rw [HDEC.out]
  rintro e w3 ⟨rfl, rfl⟩
  go_wp2_with fail
  have hba := below_alloc (Below.refl w1.heap.size w1) (.cells #[.string ⟨#[]⟩, .int .i64 (room : Int)] 46)
  have hcells : (w1.alloc (.cells #[.string ⟨#[]⟩, .int .i64 (room : Int)] 46)).heap[w1.heap.size]? = some (.cells #[.string ⟨#[]⟩, .int .i64 (room : Int)] 46 (0, 0)) := blk_new _ _
  have hlt1 := HT1.out.lt
  have HT2 := Lib.hid (HT1.out.below hba)
  have HB2 := Lib.hid (HB1.out.trans (hba.mono (by omega)))
  obtain ⟨qq, hqq⟩ : ∃ qq, w1.heap.size = qq := ⟨_, rfl⟩
  have hlq : s0 + 1 < qq := by omega
  rw [hqq] at hcells
  have HC2 := Lib.hid hcells
  simp only [hqq]
  generalize w1.alloc _ = wa at HT2 HB2 HC2 ⊢
  clear hba hcells hlt1 HT1 HB1 hqq w1 hs0 w2
  have HLEN : Hid (l.length ≤ 200) := Lib.hid (of_decide_eq_true hf).1
  have HSUM : Hid (sumS l ≤ 20000) := Lib.hid (of_decide_eq_true hf).2
  go_loopw [46] (fun u46 wr => ∃ k : Nat, k ≤ l.length ∧ u46 = .int .i64 k ∧ ∃ (b : Nat) (s : ByteArray), s00 ≤ b ∧ b ≠ qq ∧ s.size + sumS (l.drop k) ≤ 20000 ∧ Aside0 (Txt wr (s0 + 1) b room s) ∧ Aside0 (Below s00 w wr) ∧ Aside0 (wr.heap[qq]? = some (.cells #[.string s, .int .i64 (room : Int)] 46 (0, 0)))) (fun u46 _ => l.length - (intOf u46).toNat)
  case atStart => exact ⟨0, Nat.zero_le _, rfl, s0, ⟨#[]⟩, h0s, by omega, by rw [ba_len0, List.drop_zero]; have := HSUM.out; omega, ⟨HT2.out⟩, ⟨HB2.out⟩, ⟨HC2.out⟩⟩
  case round =>
    obtain ⟨k, hk, rfl, b, s, hb, hbq, hsum, HT, HB, HC⟩ := hrel
    obtain ⟨wo, hwo⟩ : ∃ wo, wo = wr := ⟨_, rfl⟩
    rw [← hwo] at HT HB HC ⊢
    clear hwo
    by_cases hlt : k < l.length
    · obtain ⟨ad, rfl, hc0, hc1, hc2⟩ := at_T30 (Kd.C_below HR.out (by rw [hs00]; exact HB.out)) (k : Int) (by omega) (by omega)
      rw [Int.toNat_natCast] at hc0 hc1 hc2
      obtain ⟨o, ho2⟩ : ∃ o, rd_T30 l (k : Int) = o := ⟨_, rfl⟩
      rw [ho2] at hc0 hc1 hc2
      have hdr := sumS_drop l k hlt
      rw [ho2] at hdr
      rw [hdr] at hsum
      clear ho2 hdr
      obtain ⟨o0, o1, o2⟩ := o
      simp only at hc0 hc1 hc2 hsum
      have hlt0 := HT.out.lt
      have hqlt := blk_lt HC.out
      have hba := below_alloc (Below.refl wo.heap.size wo) (.cells #[.int .i64 o0, .int .i64 o1, .string o2] 30)
      have hq0 : (wo.alloc (.cells #[.int .i64 o0, .int .i64 o1, .string o2] 30)).cell? ⟨qq, 0, none⟩ = some (.string s) := (blk_cell ((hba.block qq hqlt).trans HC.out) 0).trans rfl
      have hq1 : (wo.alloc (.cells #[.int .i64 o0, .int .i64 o1, .string o2] 30)).cell? ⟨qq, 1, none⟩ = some (.int .i64 (room : Int)) := (blk_cell ((hba.block qq hqlt).trans HC.out) 1).trans rfl
      clear hba
      go_wp2_with fail
      have hba := below_alloc (Below.refl wo.heap.size wo) (.cells #[.int .i64 o0, .int .i64 o1, .string o2] 30)
      obtain ⟨q, hq⟩ : ∃ q, wo.heap.size = q := ⟨_, rfl⟩
      have hcells : (wo.alloc (.cells #[.int .i64 o0, .int .i64 o1, .string o2] 30)).heap[q]? = some (.cells #[.int .i64 o0, .int .i64 o1, .string o2] 30 (0, 0)) := by rw [← hq]; exact blk_new _ _
      simp only [hq]
      have hTa := HT.out.below hba
      have hBa := HB.out.trans (hba.mono (by omega))
      have hCa := (hba.block qq hqlt).trans HC.out
      have hqa := blk_lt hcells
      generalize wo.alloc _ = wa at hcells hTa hBa hCa hqa ⊢
      clear hba hq0 hq1 hc0 hc1 hc2 HT HB HC
      refine (do_calls s o2 room o0 o1 wa (by omega) (by omega) (by omega)).mono ?_
      rintro e w4 ⟨rfl, hb4⟩
      have hlta := hTa.lt
      have HT4 := Lib.hid (hTa.below hb4)
      have HB4 := Lib.hid (hBa.trans (hb4.mono (by omega)))
      have HC4 := Lib.hid ((hb4.block qq (by omega)).trans hCa)
      have HQ4 := Lib.hid ((hb4.block q hqa).trans hcells)
      have hlt4 := HT4.out.lt
      have hq4 := blk_lt HQ4.out
      have hdz := doT_size room s o0 o1 o2
      obtain ⟨D, hD⟩ : ∃ D, doT (room : Int) s o0 o1 o2 = D := ⟨_, rfl⟩
      have HD := Lib.hid hD
      rw [hD] at hdz ⊢
      obtain ⟨s5, n5, x5⟩ := D
      simp only at hdz ⊢
      clear hD hcells hTa hBa hCa hb4 wa hlta hqa
      have hba := below_alloc (Below.refl w4.heap.size w4) (.cells #[.string s5, .int .i64 (room : Int)] 46)
      have hz : (w4.alloc (.cells #[.string s5, .int .i64 (room : Int)] 46)).frozen? ⟨qq, 0, none⟩ = false := blk_frozen ((hba.block qq (by omega)).trans HC4.out) 0
      have hz1 : (w4.alloc (.cells #[.string s5, .int .i64 (room : Int)] 46)).frozen? ⟨qq, 1, none⟩ = false := blk_frozen ((hba.block qq (by omega)).trans HC4.out) 1
      have hr0 : (w4.alloc (.cells #[.string s5, .int .i64 (room : Int)] 46)).cell? ⟨qq, 0, none⟩ = some (.string s) := (blk_cell ((hba.block qq (by omega)).trans HC4.out) 0).trans rfl
      have hr1 : (w4.alloc (.cells #[.string s5, .int .i64 (room : Int)] 46)).cell? ⟨qq, 1, none⟩ = some (.int .i64 (room : Int)) := (blk_cell ((hba.block qq (by omega)).trans HC4.out) 1).trans rfl
      have hop0 : (w4.alloc (.cells #[.string s5, .int .i64 (room : Int)] 46)).cell? ⟨q, 0, none⟩ = some (.int .i64 o0) := (blk_cell ((hba.block q hq4).trans HQ4.out) 0).trans rfl
      have hop1 : (w4.alloc (.cells #[.string s5, .int .i64 (room : Int)] 46)).cell? ⟨q, 1, none⟩ = some (.int .i64 o1) := (blk_cell ((hba.block q hq4).trans HQ4.out) 1).trans rfl
      have hop2 : (w4.alloc (.cells #[.string s5, .int .i64 (room : Int)] 46)).cell? ⟨q, 2, none⟩ = some (.string o2) := (blk_cell ((hba.block q hq4).trans HQ4.out) 2).trans rfl
      have hne : ¬ q = qq := by omega
      have hne2 : ¬ qq = q := by omega
      go_wp2_with fail
      have hT5 := (HT4.out.below hba)
      have hB5 := Below.setCell (Below.setCell (HB4.out.trans (hba.mono (show s00 ≤ w4.heap.size by omega))) (show s00 ≤ (⟨qq, 0, none⟩ : Addr).block from show s00 ≤ qq by omega) (.string s5)) (show s00 ≤ (⟨qq, 1, none⟩ : Addr).block from show s00 ≤ qq by omega) (.int .i64 (room : Int))
      have hF5 := ((Fr.refl (fun i => i = qq) (w4.alloc (.cells #[.string s5, .int .i64 (room : Int)] 46))).set (p := ⟨qq, 0, none⟩) rfl (.string s5)).set (p := ⟨qq, 1, none⟩) rfl (.int .i64 (room : Int))
      have hC5 := blk_put (blk_put ((hba.block qq (by omega)).trans HC4.out) 0 (.string s5) rfl) 1 (.int .i64 (room : Int)) rfl
      have hQ5 := (hF5.block q (by have := hba.size; omega) hne).trans ((hba.block q hq4).trans HQ4.out)
      have hT5' := hT5.keep hF5 (by omega) (by omega)
      clear hz hz1 hr0 hr1 hop0 hop1 hop2 hF5 hT5 hba HT4 HB4 HC4 HQ4
      generalize (World.setCell (World.setCell (World.alloc w4 _) _ _) _ _) = w5 at hT5' hB5 hC5 hQ5 ⊢
      have hlt5 := hT5'.lt
      have hqq5 := blk_lt hC5
      have hq5 := blk_lt hQ5
      refine (does_calls hT5' (by omega) (by omega) o0 o1 o2 (by omega)).mono ?_
      rw [HD.out]
      rintro e w6 ⟨rfl, b6, ht6, hbb6, hf6⟩
      simp only at ht6 ⊢
      have HT6 := Lib.hid ht6
      have HB6 := Lib.hid (Fr.below hB5 hf6 (by omega) (fun i hi => by omega))
      have HC6 : Hid (w6.heap[qq]? = some (.cells #[.string s5, .int .i64 (room : Int)] 46 (0, 0))) := Lib.hid ((hf6.block qq hqq5 (by omega)).trans hC5)
      have hb6 : s00 ≤ b6 := by omega
      have hbq6 : b6 ≠ qq := by omega
      have hlt6 := ht6.lt
      clear ht6 hf6 hT5' hB5 hC5 hQ5 hlt5 hqq5 hq5 hbb6
      go_wp2_with fail
      have HS5 : Hid (s5.size ≤ 20000) := Lib.hid (by omega)
      have HCUT : Hid (cutN (wrap64 ((s5.size : Int) + 1)) s5.size = s5.size) := Lib.hid (by rw [wrap_inc _ (by omega)]; unfold cutN; omega)
      have n0_ := Aside0.mk (HT6.out.below (below_drew1 (Below.refl _ _))); have n1_ := Aside0.mk (below_drew1 HB6.out); have n2_ : Aside0 (w6.drew.heap[qq]? = some (.cells #[.string s5, .int .i64 (room : Int)] 46 (0, 0))) := Aside0.mk HC6.out; clear HT6 HB6 HC6; have HT6 := n0_; have HB6 := n1_; have HC6 := n2_; clear n0_ n1_ n2_
      refine start_ (n := 41) (S := fun w' => w'.cell? ⟨qq, 0, none⟩ = some (.string s5) ∧ w'.cell? ⟨qq, 1, none⟩ = some (.int .i64 (room : Int))) (ds := []) #[false, false, false, false, false, false, false, false, false, false, false, false, false, false, false, false, false, false, false, false, false, false, false, false, false, false, false, false, false, false, false, false, false, false, false, false, false, false, false, false, false] (by kernel_rfl) rfl rfl ⟨(blk_cell HC6.out 0).trans rfl, (blk_cell HC6.out 1).trans rfl⟩ (fun hHeld => ?_); refine with_tabW tabAll bitsAll (fun HT_ HW_ => ?_)
      generalize w6.drew = wd at HT6 HB6 HC6 hHeld ⊢
      refine pure_ (i := 0) (N := some 64) (v := ?_) (a' := ?_) #[true, false, false, false, false, false, false, false, false, false, false, false, false, false, false, false, false, false, false, false, false, false, false, false, false, false, false, false, false, false, false, false, false, false, false, false, false, false, false, false, false] rfl rfl (any_of HT_.out (by kernel_rfl)) (fun _ _ _ h => h) (Or.inl ⟨by rfl, ?_⟩) ?_ ?_
      rotate_left
      · intro w'
        go_simp
        with_reducible rfl
      rotate_left
      · simp only [Act.put, List.setIfInBounds_toArray, List.set_cons_zero, List.set_cons_succ, i64_w, i32_w]
        rfl
      refine pure_ (i := 1) (N := some 65) (v := ?_) (a' := ?_) #[true, true, false, false, false, false, false, false, false, false, false, false, false, false, false, false, false, false, false, false, false, false, false, false, false, false, false, false, false, false, false, false, false, false, false, false, false, false, false, false, false] rfl rfl (any_of HT_.out (by kernel_rfl)) (fun _ _ _ h => h) (Or.inl ⟨by rfl, ?_⟩) ?_ ?_
      rotate_left
      · intro w'
        go_simp
        with_reducible rfl
      rotate_left
      · simp only [Act.put, List.setIfInBounds_toArray, List.set_cons_zero, List.set_cons_succ, i64_w, i32_w]
        rfl
      refine pure_ (i := 2) (N := some 66) (v := ?_) (a' := ?_) #[true, true, true, false, false, false, false, false, false, false, false, false, false, false, false, false, false, false, false, false, false, false, false, false, false, false, false, false, false, false, false, false, false, false, false, false, false, false, false, false, false] rfl rfl (any_of HT_.out (by kernel_rfl)) (fun _ _ _ h => h) (Or.inl ⟨by rfl, ?_⟩) ?_ ?_
      rotate_left
      · intro w'
        go_simp
        with_reducible rfl
      rotate_left
      · simp only [Act.put, List.setIfInBounds_toArray, List.set_cons_zero, List.set_cons_succ, i64_w, i32_w]
        rfl
      refine pure_ (i := 3) (N := some 67) (v := ?_) (a' := ?_) #[true, true, true, true, false, false, false, false, false, false, false, false, false, false, false, false, false, false, false, false, false, false, false, false, false, false, false, false, false, false, false, false, false, false, false, false, false, false, false, false, false] rfl rfl (any_of HT_.out (by kernel_rfl)) (fun _ _ _ h => h) (Or.inl ⟨by rfl, ?_⟩) ?_ ?_
      rotate_left
      · intro w'
        go_simp
        with_reducible rfl
      rotate_left
      · simp only [Act.put, List.setIfInBounds_toArray, List.set_cons_zero, List.set_cons_succ, i64_w, i32_w]
        rfl
      refine pure_ (i := 4) (N := some 68) (v := ?_) (a' := ?_) #[true, true, true, true, true, false, false, false, false, false, false, false, false, false, false, false, false, false, false, false, false, false, false, false, false, false, false, false, false, false, false, false, false, false, false, false, false, false, false, false, false] rfl rfl (any_of HT_.out (by kernel_rfl)) (fun _ _ _ h => h) (Or.inl ⟨by rfl, ?_⟩) ?_ ?_
      rotate_left
      · intro w'
        go_simp
        with_reducible rfl
      rotate_left
      · simp only [Act.put, List.setIfInBounds_toArray, List.set_cons_zero, List.set_cons_succ, i64_w, i32_w]
        rfl
      refine pure_ (i := 5) (N := some 69) (v := ?_) (a' := ?_) #[true, true, true, true, true, true, false, false, false, false, false, false, false, false, false, false, false, false, false, false, false, false, false, false, false, false, false, false, false, false, false, false, false, false, false, false, false, false, false, false, false] rfl rfl (any_of HT_.out (by kernel_rfl)) (fun _ _ _ h => h) (Or.inl ⟨by rfl, ?_⟩) ?_ ?_
      rotate_left
      · intro w'
        go_simp
        with_reducible rfl
      rotate_left
      · simp only [Act.put, List.setIfInBounds_toArray, List.set_cons_zero, List.set_cons_succ, i64_w, i32_w]
        rfl
      refine pure_ (i := 6) (N := some 70) (v := ?_) (a' := ?_) #[true, true, true, true, true, true, true, false, false, false, false, false, false, false, false, false, false, false, false, false, false, false, false, false, false, false, false, false, false, false, false, false, false, false, false, false, false, false, false, false, false] rfl rfl (any_of HT_.out (by kernel_rfl)) (fun _ _ _ h => h) (Or.inl ⟨by rfl, ?_⟩) ?_ ?_
      rotate_left
      · intro w'
        go_simp
        with_reducible rfl
      rotate_left
      · simp only [Act.put, List.setIfInBounds_toArray, List.set_cons_zero, List.set_cons_succ, i64_w, i32_w]
        rfl
      refine pure_ (i := 7) (N := some 71) (v := ?_) (a' := ?_) #[true, true, true, true, true, true, true, true, false, false, false, false, false, false, false, false, false, false, false, false, false, false, false, false, false, false, false, false, false, false, false, false, false, false, false, false, false, false, false, false, false] rfl rfl (any_of HT_.out (by kernel_rfl)) (fun _ _ _ h => h) (Or.inl ⟨by rfl, ?_⟩) ?_ ?_
      rotate_left
      · intro w'
        go_simp
        with_reducible rfl
      rotate_left
      · simp only [Act.put, List.setIfInBounds_toArray, List.set_cons_zero, List.set_cons_succ, i64_w, i32_w]
        rfl
      refine pure_ (i := 8) (N := some 72) (v := ?_) (a' := ?_) #[true, true, true, true, true, true, true, true, true, false, false, false, false, false, false, false, false, false, false, false, false, false, false, false, false, false, false, false, false, false, false, false, false, false, false, false, false, false, false, false, false] rfl rfl (any_of HT_.out (by kernel_rfl)) (fun _ _ _ h => h) (Or.inl ⟨by rfl, ?_⟩) ?_ ?_
      rotate_left
      · intro w'
        go_simp
        with_reducible rfl
      rotate_left
      · simp only [Act.put, List.setIfInBounds_toArray, List.set_cons_zero, List.set_cons_succ, i64_w, i32_w]
        rfl
      refine pure_ (i := 9) (N := some 73) (v := ?_) (a' := ?_) #[true, true, true, true, true, true, true, true, true, true, false, false, false, false, false, false, false, false, false, false, false, false, false, false, false, false, false, false, false, false, false, false, false, false, false, false, false, false, false, false, false] rfl rfl (any_of HT_.out (by kernel_rfl)) (fun _ _ _ h => h) (Or.inl ⟨by rfl, ?_⟩) ?_ ?_
      rotate_left
      · intro w'
        go_simp
        with_reducible rfl
      rotate_left
      · simp only [Act.put, List.setIfInBounds_toArray, List.set_cons_zero, List.set_cons_succ, i64_w, i32_w]
        rfl
      refine pure_ (i := 11) (N := some 75) (v := ?_) (a' := ?_) #[true, true, true, true, true, true, true, true, true, true, false, true, false, false, false, false, false, false, false, false, false, false, false, false, false, false, false, false, false, false, false, false, false, false, false, false, false, false, false, false, false] rfl rfl (any_of HT_.out (by kernel_rfl)) (fun _ _ _ h => h) (Or.inl ⟨by rfl, ?_⟩) ?_ ?_
      rotate_left
      · intro w'
        go_simp
        with_reducible rfl
      rotate_left
      · simp only [Act.put, List.setIfInBounds_toArray, List.set_cons_zero, List.set_cons_succ, i64_w, i32_w]
        rfl
      refine take_ (i := 12) (N := some 76) (v := ?_) (a' := ?_) #[true, true, true, true, true, true, true, true, true, true, false, true, true, false, false, false, false, false, false, false, false, false, false, false, false, false, false, false, false, false, false, false, false, false, false, false, false, false, false, false, false] rfl rfl (take_ofW HT_.out HW_.out (by kernel_rfl)) (fun _ _ _ h => h) (Or.inl ⟨by rfl, ?_⟩) hHeld ?_ ?_
      rotate_left
      · rintro w' ⟨s0_, s1_⟩
        go_simp
        with_reducible rfl
      rotate_left
      · simp only [Act.put, List.setIfInBounds_toArray, List.set_cons_zero, List.set_cons_succ, i64_w, i32_w]
        rfl
      refine pure_ (i := 13) (N := some 77) (v := ?_) (a' := ?_) #[true, true, true, true, true, true, true, true, true, true, false, true, true, true, false, false, false, false, false, false, false, false, false, false, false, false, false, false, false, false, false, false, false, false, false, false, false, false, false, false, false] rfl rfl (any_of HT_.out (by kernel_rfl)) (fun _ _ _ h => h) (Or.inl ⟨by rfl, ?_⟩) ?_ ?_
      rotate_left
      · intro w'
        go_simp
        with_reducible rfl
      rotate_left
      · simp only [Act.put, List.setIfInBounds_toArray, List.set_cons_zero, List.set_cons_succ, i64_w, i32_w]
        rfl
      refine one_ (i := 10) (N := some 74) #[true, true, true, true, true, true, true, true, true, true, true, true, true, true, false, false, false, false, false, false, false, false, false, false, false, false, false, false, false, false, false, false, false, false, false, false, false, false, false, false, false] rfl rfl (one_of HT_.out (by kernel_rfl)) (by decide) (fun K hK => ?_)
      refine goes_ Try.func16 (by kernel_rfl) rfl #[.pointer (some ⟨s0 + 1, 0, none⟩)] (by rfl) rfl rfl (by (try simp only [List.map_toArray, List.map_cons, List.map_nil]); first | done | rfl) ?_
      refine (Txt.len HT6.out).mono ?_
      rintro e w7 ⟨rfl, rfl⟩
      refine ⟨_, rfl, ?_⟩
      refine hK.out _ _ ⟨(blk_cell HC6.out 0).trans rfl, (blk_cell HC6.out 1).trans rfl⟩ (fun hHeld => ?_)
      clear hK K
      refine norm_ (a' := ?_) ?_ ?_
      rotate_left
      · show Act.put _ (some 74) _ = _
        simp only [Act.put, List.setIfInBounds_toArray, List.set_cons_zero, List.set_cons_succ, i64_w, i32_w]
        rfl
      refine pure_ (i := 14) (N := some 78) (v := ?_) (a' := ?_) #[true, true, true, true, true, true, true, true, true, true, true, true, true, true, true, false, false, false, false, false, false, false, false, false, false, false, false, false, false, false, false, false, false, false, false, false, false, false, false, false, false] rfl rfl (any_of HT_.out (by kernel_rfl)) (fun _ _ _ h => h) (Or.inl ⟨by rfl, ?_⟩) ?_ ?_
      rotate_left
      · intro w'
        go_simp
        with_reducible rfl
      rotate_left
      · simp only [Act.put, List.setIfInBounds_toArray, List.set_cons_zero, List.set_cons_succ, i64_w, i32_w]
        rfl
      refine pure_ (i := 15) (N := some 79) (v := ?_) (a' := ?_) #[true, true, true, true, true, true, true, true, true, true, true, true, true, true, true, true, false, false, false, false, false, false, false, false, false, false, false, false, false, false, false, false, false, false, false, false, false, false, false, false, false] rfl rfl (any_of HT_.out (by kernel_rfl)) (fun _ _ _ h => h) (Or.inl ⟨by rfl, ?_⟩) ?_ ?_
      rotate_left
      · intro w'
        go_simp
        with_reducible rfl
      rotate_left
      · simp only [Act.put, List.setIfInBounds_toArray, List.set_cons_zero, List.set_cons_succ, i64_w, i32_w]
        rfl
      refine pure_ (i := 16) (N := some 80) (v := ?_) (a' := ?_) #[true, true, true, true, true, true, true, true, true, true, true, true, true, true, true, true, true, false, false, false, false, false, false, false, false, false, false, false, false, false, false, false, false, false, false, false, false, false, false, false, false] rfl rfl (any_of HT_.out (by kernel_rfl)) (fun _ _ _ h => h) (Or.inl ⟨by rfl, ?_⟩) ?_ ?_
      rotate_left
      · intro w'
        go_simp
        with_reducible rfl
      rotate_left
      · simp only [Act.put, List.setIfInBounds_toArray, List.set_cons_zero, List.set_cons_succ, i64_w, i32_w]
        rfl
      refine pure_ (i := 17) (N := some 81) (v := ?_) (a' := ?_) #[true, true, true, true, true, true, true, true, true, true, true, true, true, true, true, true, true, true, false, false, false, false, false, false, false, false, false, false, false, false, false, false, false, false, false, false, false, false, false, false, false] rfl rfl (any_of HT_.out (by kernel_rfl)) (fun _ _ _ h => h) (Or.inl ⟨by rfl, ?_⟩) ?_ ?_
      rotate_left
      · intro w'
        go_simp
        with_reducible rfl
      rotate_left
      · simp only [Act.put, List.setIfInBounds_toArray, List.set_cons_zero, List.set_cons_succ, i64_w, i32_w]
        rfl
      refine pure_ (i := 19) (N := some 83) (v := ?_) (a' := ?_) #[true, true, true, true, true, true, true, true, true, true, true, true, true, true, true, true, true, true, false, true, false, false, false, false, false, false, false, false, false, false, false, false, false, false, false, false, false, false, false, false, false] rfl rfl (any_of HT_.out (by kernel_rfl)) (fun _ _ _ h => h) (Or.inl ⟨by rfl, ?_⟩) ?_ ?_
      rotate_left
      · intro w'
        go_simp
        with_reducible rfl
      rotate_left
      · simp only [Act.put, List.setIfInBounds_toArray, List.set_cons_zero, List.set_cons_succ, i64_w, i32_w]
        rfl
      refine one_ (i := 18) (N := some 82) #[true, true, true, true, true, true, true, true, true, true, true, true, true, true, true, true, true, true, true, true, false, false, false, false, false, false, false, false, false, false, false, false, false, false, false, false, false, false, false, false, false] rfl rfl (one_of HT_.out (by kernel_rfl)) (by decide) (fun K hK => ?_)
      refine goes_ Try.func23 (by kernel_rfl) rfl #[.pointer (some ⟨s0 + 1, 0, none⟩)] (by rfl) rfl rfl (by (try simp only [List.map_toArray, List.map_cons, List.map_nil]); first | done | rfl) ?_
      refine (Txt.room_ HT6.out).mono ?_
      rintro e w7 ⟨rfl, rfl⟩
      refine ⟨_, rfl, ?_⟩
      refine hK.out _ _ ⟨(blk_cell HC6.out 0).trans rfl, (blk_cell HC6.out 1).trans rfl⟩ (fun hHeld => ?_)
      clear hK K
      refine norm_ (a' := ?_) ?_ ?_
      rotate_left
      · show Act.put _ (some 82) _ = _
        simp only [Act.put, List.setIfInBounds_toArray, List.set_cons_zero, List.set_cons_succ, i64_w, i32_w]
        rfl
      refine pure_ (i := 20) (N := some 84) (v := ?_) (a' := ?_) #[true, true, true, true, true, true, true, true, true, true, true, true, true, true, true, true, true, true, true, true, true, false, false, false, false, false, false, false, false, false, false, false, false, false, false, false, false, false, false, false, false] rfl rfl (any_of HT_.out (by kernel_rfl)) (fun _ _ _ h => h) (Or.inl ⟨by rfl, ?_⟩) ?_ ?_
      rotate_left
      · intro w'
        go_simp
        with_reducible rfl
      rotate_left
      · simp only [Act.put, List.setIfInBounds_toArray, List.set_cons_zero, List.set_cons_succ, i64_w, i32_w]
        rfl
      refine pure_ (i := 21) (N := some 85) (v := ?_) (a' := ?_) #[true, true, true, true, true, true, true, true, true, true, true, true, true, true, true, true, true, true, true, true, true, true, false, false, false, false, false, false, false, false, false, false, false, false, false, false, false, false, false, false, false] rfl rfl (any_of HT_.out (by kernel_rfl)) (fun _ _ _ h => h) (Or.inl ⟨by rfl, ?_⟩) ?_ ?_
      rotate_left
      · intro w'
        go_simp
        with_reducible rfl
      rotate_left
      · simp only [Act.put, List.setIfInBounds_toArray, List.set_cons_zero, List.set_cons_succ, i64_w, i32_w]
        rfl
      refine pure_ (i := 22) (N := some 86) (v := ?_) (a' := ?_) #[true, true, true, true, true, true, true, true, true, true, true, true, true, true, true, true, true, true, true, true, true, true, true, false, false, false, false, false, false, false, false, false, false, false, false, false, false, false, false, false, false] rfl rfl (any_of HT_.out (by kernel_rfl)) (fun _ _ _ h => h) (Or.inl ⟨by rfl, ?_⟩) ?_ ?_
      rotate_left
      · intro w'
        go_simp
        with_reducible rfl
      rotate_left
      · simp only [Act.put, List.setIfInBounds_toArray, List.set_cons_zero, List.set_cons_succ, i64_w, i32_w]
        rfl
      refine pure_ (i := 23) (N := some 87) (v := ?_) (a' := ?_) #[true, true, true, true, true, true, true, true, true, true, true, true, true, true, true, true, true, true, true, true, true, true, true, true, false, false, false, false, false, false, false, false, false, false, false, false, false, false, false, false, false] rfl rfl (any_of HT_.out (by kernel_rfl)) (fun _ _ _ h => h) (Or.inl ⟨by rfl, ?_⟩) ?_ ?_
      rotate_left
      · intro w'
        go_simp
        with_reducible rfl
      rotate_left
      · simp only [Act.put, List.setIfInBounds_toArray, List.set_cons_zero, List.set_cons_succ, i64_w, i32_w]
        rfl
      refine take_ (i := 25) (N := some 89) (v := ?_) (a' := ?_) #[true, true, true, true, true, true, true, true, true, true, true, true, true, true, true, true, true, true, true, true, true, true, true, true, false, true, false, false, false, false, false, false, false, false, false, false, false, false, false, false, false] rfl rfl (take_ofW HT_.out HW_.out (by kernel_rfl)) (fun _ _ _ h => h) (Or.inl ⟨by rfl, ?_⟩) hHeld ?_ ?_
      rotate_left
      · rintro w' ⟨s0_, s1_⟩
        go_simp
        with_reducible rfl
      rotate_left
      · simp only [Act.put, List.setIfInBounds_toArray, List.set_cons_zero, List.set_cons_succ, i64_w, i32_w]
        rfl
      refine one_ (i := 24) (N := some 88) #[true, true, true, true, true, true, true, true, true, true, true, true, true, true, true, true, true, true, true, true, true, true, true, true, true, true, false, false, false, false, false, false, false, false, false, false, false, false, false, false, false] rfl rfl (one_of HT_.out (by kernel_rfl)) (by decide) (fun K hK => ?_)
      refine goes_ Try.func19 (by kernel_rfl) rfl #[.pointer (some ⟨s0 + 1, 0, none⟩)] (by rfl) rfl rfl (by (try simp only [List.map_toArray, List.map_cons, List.map_nil]); first | done | rfl) ?_
      refine (Txt.free HT6.out (by omega) (by omega)).mono ?_
      rintro e w7 ⟨rfl, hd7⟩
      have hb7 := hd7.below
      have n0_ := Aside0.mk (HT6.out.below hb7); have n1_ := Aside0.mk (HB6.out.trans (hb7.mono (by have := HT6.out.lt; omega))); have n2_ := Aside0.mk ((hb7.block qq (blk_lt HC6.out)).trans HC6.out); clear HT6 HB6 HC6; have HT6 := n0_; have HB6 := n1_; have HC6 := n2_; clear n0_ n1_ n2_
      clear hd7 hb7
      refine ⟨_, rfl, ?_⟩
      refine hK.out _ _ ⟨(blk_cell HC6.out 0).trans rfl, (blk_cell HC6.out 1).trans rfl⟩ (fun hHeld => ?_)
      clear hK K
      refine norm_ (a' := ?_) ?_ ?_
      rotate_left
      · show Act.put _ (some 88) _ = _
        simp only [Act.put, List.setIfInBounds_toArray, List.set_cons_zero, List.set_cons_succ, i64_w, i32_w]
        rfl
      refine one_ (i := 26) (N := some 90) #[true, true, true, true, true, true, true, true, true, true, true, true, true, true, true, true, true, true, true, true, true, true, true, true, true, true, true, false, false, false, false, false, false, false, false, false, false, false, false, false, false] rfl rfl (one_of HT_.out (by kernel_rfl)) (by decide) (fun K hK => ?_)
      refine goes_ Try.func24 (by kernel_rfl) rfl #[.agg #[.string s5, .int .i64 (room : Int)]] (by rfl) rfl rfl (by (try simp only [List.map_toArray, List.map_cons, List.map_nil]); first | done | rfl) ?_
      refine (refFree_calls s5 room _ (by omega) (by omega)).mono ?_
      rintro e w8 ⟨rfl, hb8⟩
      have n0_ := Aside0.mk (HT6.out.below hb8); have n1_ := Aside0.mk (HB6.out.trans (hb8.mono (by have := HT6.out.lt; omega))); have n2_ := Aside0.mk ((hb8.block qq (blk_lt HC6.out)).trans HC6.out); clear HT6 HB6 HC6; have HT6 := n0_; have HB6 := n1_; have HC6 := n2_; clear n0_ n1_ n2_
      clear hb8
      refine ⟨_, rfl, ?_⟩
      refine hK.out _ _ ⟨(blk_cell HC6.out 0).trans rfl, (blk_cell HC6.out 1).trans rfl⟩ (fun hHeld => ?_)
      clear hK K
      refine norm_ (a' := ?_) ?_ ?_
      rotate_left
      · show Act.put _ (some 90) _ = _
        simp only [Act.put, List.setIfInBounds_toArray, List.set_cons_zero, List.set_cons_succ, i64_w, i32_w]
        rfl
      refine pure_ (i := 27) (N := some 91) (v := ?_) (a' := ?_) #[true, true, true, true, true, true, true, true, true, true, true, true, true, true, true, true, true, true, true, true, true, true, true, true, true, true, true, true, false, false, false, false, false, false, false, false, false, false, false, false, false] rfl rfl (any_of HT_.out (by kernel_rfl)) (fun _ _ _ h => h) (Or.inl ⟨by rfl, ?_⟩) ?_ ?_
      rotate_left
      · intro w'
        go_simp
        with_reducible rfl
      rotate_left
      · simp only [Act.put, List.setIfInBounds_toArray, List.set_cons_zero, List.set_cons_succ, i64_w, i32_w]
        rfl
      refine pure_ (i := 28) (N := some 92) (v := ?_) (a' := ?_) #[true, true, true, true, true, true, true, true, true, true, true, true, true, true, true, true, true, true, true, true, true, true, true, true, true, true, true, true, true, false, false, false, false, false, false, false, false, false, false, false, false] rfl rfl (any_of HT_.out (by kernel_rfl)) (fun _ _ _ h => h) (Or.inl ⟨by rfl, ?_⟩) ?_ ?_
      rotate_left
      · intro w'
        go_simp
        with_reducible rfl
      rotate_left
      · simp only [Act.put, List.setIfInBounds_toArray, List.set_cons_zero, List.set_cons_succ, i64_w, i32_w]
        rfl
      refine pure_ (i := 29) (N := some 93) (v := ?_) (a' := ?_) #[true, true, true, true, true, true, true, true, true, true, true, true, true, true, true, true, true, true, true, true, true, true, true, true, true, true, true, true, true, true, false, false, false, false, false, false, false, false, false, false, false] rfl rfl (any_of HT_.out (by kernel_rfl)) (fun _ _ _ h => h) (Or.inl ⟨by rfl, ?_⟩) ?_ ?_
      rotate_left
      · intro w'
        go_simp
        with_reducible rfl
      rotate_left
      · simp only [Act.put, List.setIfInBounds_toArray, List.set_cons_zero, List.set_cons_succ, i64_w, i32_w]
        rfl
      refine pure_ (i := 30) (N := some 94) (v := ?_) (a' := ?_) #[true, true, true, true, true, true, true, true, true, true, true, true, true, true, true, true, true, true, true, true, true, true, true, true, true, true, true, true, true, true, true, false, false, false, false, false, false, false, false, false, false] rfl rfl (any_of HT_.out (by kernel_rfl)) (fun _ _ _ h => h) (Or.inl ⟨by rfl, ?_⟩) ?_ ?_
      rotate_left
      · intro w'
        go_simp
        with_reducible rfl
      rotate_left
      · simp only [Act.put, List.setIfInBounds_toArray, List.set_cons_zero, List.set_cons_succ, i64_w, i32_w]
        rfl
      refine pure_ (i := 31) (N := some 95) (v := ?_) (a' := ?_) #[true, true, true, true, true, true, true, true, true, true, true, true, true, true, true, true, true, true, true, true, true, true, true, true, true, true, true, true, true, true, true, true, false, false, false, false, false, false, false, false, false] rfl rfl (any_of HT_.out (by kernel_rfl)) (fun _ _ _ h => h) (Or.inl ⟨by rfl, ?_⟩) ?_ ?_
      rotate_left
      · intro w'
        go_simp
        with_reducible rfl
      rotate_left
      · simp only [Act.put, List.setIfInBounds_toArray, List.set_cons_zero, List.set_cons_succ, i64_w, i32_w]
        rfl
      refine take_ (i := 32) (N := some 96) (v := ?_) (a' := ?_) #[true, true, true, true, true, true, true, true, true, true, true, true, true, true, true, true, true, true, true, true, true, true, true, true, true, true, true, true, true, true, true, true, true, false, false, false, false, false, false, false, false] rfl rfl (take_ofW HT_.out HW_.out (by kernel_rfl)) (fun _ _ _ h => h) (Or.inl ⟨by rfl, ?_⟩) hHeld ?_ ?_
      rotate_left
      · rintro w' ⟨s0_, s1_⟩
        go_simp
        with_reducible rfl
      rotate_left
      · simp only [Act.put, List.setIfInBounds_toArray, List.set_cons_zero, List.set_cons_succ, i64_w, i32_w]
        rfl
      refine pure_ (i := 33) (N := some 97) (v := ?_) (a' := ?_) #[true, true, true, true, true, true, true, true, true, true, true, true, true, true, true, true, true, true, true, true, true, true, true, true, true, true, true, true, true, true, true, true, true, true, false, false, false, false, false, false, false] rfl rfl (any_of HT_.out (by kernel_rfl)) (fun _ _ _ h => h) (Or.inl ⟨by rfl, ?_⟩) ?_ ?_
      rotate_left
      · intro w'
        go_simp
        with_reducible rfl
      rotate_left
      · simp only [Act.put, List.setIfInBounds_toArray, List.set_cons_zero, List.set_cons_succ, i64_w, i32_w]
        rfl
      refine pure_ (i := 34) (N := some 98) (v := ?_) (a' := ?_) #[true, true, true, true, true, true, true, true, true, true, true, true, true, true, true, true, true, true, true, true, true, true, true, true, true, true, true, true, true, true, true, true, true, true, true, false, false, false, false, false, false] rfl rfl (any_of HT_.out (by kernel_rfl)) (fun _ _ _ h => h) (Or.inl ⟨by rfl, ?_⟩) ?_ ?_
      rotate_left
      · intro w'
        go_simp
        with_reducible rfl
      rotate_left
      · simp only [Act.put, List.setIfInBounds_toArray, List.set_cons_zero, List.set_cons_succ, i64_w, i32_w]
        rfl
      refine pure_ (i := 37) (N := some 101) (v := ?_) (a' := ?_) #[true, true, true, true, true, true, true, true, true, true, true, true, true, true, true, true, true, true, true, true, true, true, true, true, true, true, true, true, true, true, true, true, true, true, true, false, false, true, false, false, false] rfl rfl (any_of HT_.out (by kernel_rfl)) (fun _ _ _ h => h) (Or.inl ⟨by rfl, ?_⟩) ?_ ?_
      rotate_left
      · intro w'
        go_simp
        with_reducible rfl
      rotate_left
      · simp only [Act.put, List.setIfInBounds_toArray, List.set_cons_zero, List.set_cons_succ, i64_w, i32_w]
        rfl
      refine take_ (i := 38) (N := some 102) (v := ?_) (a' := ?_) #[true, true, true, true, true, true, true, true, true, true, true, true, true, true, true, true, true, true, true, true, true, true, true, true, true, true, true, true, true, true, true, true, true, true, true, false, false, true, true, false, false] rfl rfl (take_ofW HT_.out HW_.out (by kernel_rfl)) (fun _ _ _ h => h) (Or.inl ⟨by rfl, ?_⟩) hHeld ?_ ?_
      rotate_left
      · rintro w' ⟨s0_, s1_⟩
        go_simp
        with_reducible rfl
      rotate_left
      · simp only [Act.put, List.setIfInBounds_toArray, List.set_cons_zero, List.set_cons_succ, i64_w, i32_w]
        rfl
      refine one_ (i := 35) (N := some 99) #[true, true, true, true, true, true, true, true, true, true, true, true, true, true, true, true, true, true, true, true, true, true, true, true, true, true, true, true, true, true, true, true, true, true, true, true, false, true, true, false, false] rfl rfl (one_of HT_.out (by kernel_rfl)) (by decide) (fun K hK => ?_)
      refine goes_ Try.func17 (by kernel_rfl) rfl #[.pointer (some ⟨s0 + 1, 0, none⟩), .int .i64 (wrap64 ((s5.size : Int) + 1))] (by rfl) rfl rfl (by (try simp only [List.map_toArray, List.map_cons, List.map_nil]); first | done | rfl) ?_
      refine (Txt.peek HT6.out (wrap64 ((s5.size : Int) + 1))).mono ?_
      rw [HCUT.out, ba_self]
      rintro e w9 ⟨rfl, hq9, hb9⟩
      have HQ9 := Aside0.mk hq9
      have n0_ := Aside0.mk (HT6.out.below hb9); have n1_ := Aside0.mk (HB6.out.trans (hb9.mono (by have := HT6.out.lt; omega))); have n2_ := Aside0.mk ((hb9.block qq (blk_lt HC6.out)).trans HC6.out); clear HT6 HB6 HC6; have HT6 := n0_; have HB6 := n1_; have HC6 := n2_; clear n0_ n1_ n2_
      clear hb9 hq9
      refine ⟨_, rfl, ?_⟩
      refine hK.out _ _ ⟨(blk_cell HC6.out 0).trans rfl, (blk_cell HC6.out 1).trans rfl⟩ (fun hHeld => ?_)
      clear hK K
      refine norm_ (a' := ?_) ?_ ?_
      rotate_left
      · show Act.put _ (some 99) _ = _
        simp only [Act.put, List.setIfInBounds_toArray, List.set_cons_zero, List.set_cons_succ, i64_w, i32_w]
        rfl
      refine one_ (i := 36) (N := some 100) #[true, true, true, true, true, true, true, true, true, true, true, true, true, true, true, true, true, true, true, true, true, true, true, true, true, true, true, true, true, true, true, true, true, true, true, true, true, true, true, false, false] rfl rfl (one_of HT_.out (by kernel_rfl)) (by decide) (fun K hK => ?_)
      refine value_ (by rfl) rfl (v := .string s5) (w1 := w9) ?_ ?_
      · have hcv := Row.conv (c := s5.size) HQ9.out rfl (by have := HS5.out; omega)
        go_simp
      refine hK.out _ _ ⟨(blk_cell HC6.out 0).trans rfl, (blk_cell HC6.out 1).trans rfl⟩ (fun hHeld => ?_)
      clear hK K
      refine norm_ (a' := ?_) ?_ ?_
      rotate_left
      · show Act.put _ (some 100) _ = _
        simp only [Act.put, List.setIfInBounds_toArray, List.set_cons_zero, List.set_cons_succ, i64_w, i32_w]
        rfl
      refine pure_ (i := 39) (N := some 103) (v := ?_) (a' := ?_) #[true, true, true, true, true, true, true, true, true, true, true, true, true, true, true, true, true, true, true, true, true, true, true, true, true, true, true, true, true, true, true, true, true, true, true, true, true, true, true, true, false] rfl rfl (any_of HT_.out (by kernel_rfl)) (fun _ _ _ h => h) (Or.inl ⟨by rfl, ?_⟩) ?_ ?_
      rotate_left
      · intro w'
        go_simp
        with_reducible rfl
      rotate_left
      · simp only [Act.put, List.setIfInBounds_toArray, List.set_cons_zero, List.set_cons_succ, i64_w, i32_w]
        rfl
      refine pure_ (i := 40) (N := some 104) (v := ?_) (a' := ?_) #[true, true, true, true, true, true, true, true, true, true, true, true, true, true, true, true, true, true, true, true, true, true, true, true, true, true, true, true, true, true, true, true, true, true, true, true, true, true, true, true, true] rfl rfl (any_of HT_.out (by kernel_rfl)) (fun _ _ _ h => h) (Or.inl ⟨by rfl, ?_⟩) ?_ ?_
      rotate_left
      · intro w'
        go_simp
        with_reducible rfl
      rotate_left
      · simp only [Act.put, List.setIfInBounds_toArray, List.set_cons_zero, List.set_cons_succ, i64_w, i32_w]
        rfl
      refine done_ (done_of HT_.out (by kernel_rfl)) ?_
      go_wp2_with fail
      have hL := HLEN.out
      rw [wrap_inc k (by omega)]
      refine ⟨⟨k + 1, by omega, rfl, b6, s5, hb6, hbq6, by omega, ⟨HT6.out⟩, ⟨HB6.out⟩, ⟨HC6.out⟩⟩, ?_⟩
      simp only [intOf]
      omega
    · obtain rfl : k = l.length := by omega
      go_wp2_with fail
      refine (alive_calls _).mono ?_
      rintro e w3 ⟨rfl, hb3⟩
      go_wp2_with fail
      go_ret
      refine ⟨rfl, ?_⟩
      rw [hs00]
      exact HB.out.trans (hb3.mono (by have := HT.out.lt; omega))
end Go.Proofs.Ytbplfoanhfmheaa.Hand
