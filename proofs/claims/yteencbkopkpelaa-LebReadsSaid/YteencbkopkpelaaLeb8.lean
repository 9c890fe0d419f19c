/- The document's reader: Do. -/
import Derived.Test.YteencbkopkpelaaLeb3
namespace Go.Proofs.Yteencbkopkpelaa.Hand
open Go.RowKit Go.Proofs.YteencbkopkpelaaW.PrintWords Go.Proofs.YteencbkopkpelaaW.PrintLast Go.Proofs.YteencbkopkpelaaW.PrintMore Go.Proofs.Yteencbkopkpelaa.PLebReads
set_option linter.unusedVariables false
set_option linter.unusedSimpArgs false
theorem alloc3 (w : World) (A B C : Obj) : (((w.alloc A).alloc B).alloc C).heap[w.heap.size]? = some A ∧ (((w.alloc A).alloc B).alloc C).heap[w.heap.size + 1]? = some B ∧ (((w.alloc A).alloc B).alloc C).heap[w.heap.size + 1 + 1]? = some C ∧ Below w.heap.size w (((w.alloc A).alloc B).alloc C) := by
  have e1 := alloc_size w A
  have e2 := alloc_size (w.alloc A) B
  have b2 := below_alloc (Below.refl (w.alloc A).heap.size (w.alloc A)) B
  have b3 := below_alloc (Below.refl ((w.alloc A).alloc B).heap.size ((w.alloc A).alloc B)) C
  refine ⟨(b3.block _ (by omega)).trans ((b2.block _ (by omega)).trans (blk_new w A)), ?_, ?_, below_alloc (below_alloc (below_alloc (Below.refl _ _) _) _) _⟩
  · refine (b3.block _ (by omega)).trans ?_
    rw [e1]
    exact blk_new _ _
  · rw [e1, e2]
    exact blk_new _ _
set_option maxHeartbeats 2000000 in
theorem do4_bad (s : ByteArray) (at_ : Nat) (most : Int) (kind : Int) (w : World) (hat : at_ ≤ s.size) (hs : s.size ≤ 1000000) : Calls Try.prog 10 #[.agg #[.string s, .int .i64 at_, .bool true], .agg #[.int .i64 kind, .int .i64 most]] w fun e w' => e = .returned (.tuple #[.agg #[.string s, .int .i64 at_, .bool true], .int .i64 0, .string ⟨#[]⟩]) ∧ Below w.heap.size w w' := by
  go_enter Try.func10, Try.ntmps10
  go_wp2_with fail
  obtain ⟨hA, hB, hC, hb⟩ := alloc3 w (.cells #[.string s, .int .i64 at_, .bool true] 28) (.cells #[.int .i64 kind, .int .i64 most] 30) (.cells #[.string s, .int .i64 at_, .bool true] 28)
  refine bodyPost_ret (results_ctt rfl _ _ (w.heap.size + 1 + 1) 28 #[.string s, .int .i64 at_, .bool true] (0, 0) _ rfl hC Try.underlying28 rfl (by kernel_rfl)) rfl ?_
  exact ⟨rfl, hb⟩
set_option maxHeartbeats 2000000 in
theorem do4_neg (s : ByteArray) (at_ : Nat) (most : Int) (kind : Int) (hk : kind < 0) (w : World) (hat : at_ ≤ s.size) (hs : s.size ≤ 1000000) : Calls Try.prog 10 #[.agg #[.string s, .int .i64 at_, .bool false], .agg #[.int .i64 kind, .int .i64 most]] w fun e w' => e = .returned (.tuple #[.agg #[.string s, .int .i64 at_, .bool false], .int .i64 0, .string ⟨#[]⟩]) ∧ Below w.heap.size w w' := by
  go_enter Try.func10, Try.ntmps10
  go_wp2_with fail
  obtain ⟨hA, hB, hC, hb⟩ := alloc3 w (.cells #[.string s, .int .i64 at_, .bool false] 28) (.cells #[.int .i64 kind, .int .i64 most] 30) (.cells #[.string s, .int .i64 at_, .bool false] 28)
  refine bodyPost_ret (results_ctt rfl _ _ (w.heap.size + 1 + 1) 28 #[.string s, .int .i64 at_, .bool false] (0, 0) _ rfl hC Try.underlying28 rfl (by kernel_rfl)) rfl ?_
  exact ⟨rfl, hb⟩
set_option maxHeartbeats 2000000 in
theorem do4_big (s : ByteArray) (at_ : Nat) (most : Int) (kind : Int) (hk : 2 < kind) (w : World) (hat : at_ ≤ s.size) (hs : s.size ≤ 1000000) : Calls Try.prog 10 #[.agg #[.string s, .int .i64 at_, .bool false], .agg #[.int .i64 kind, .int .i64 most]] w fun e w' => e = .returned (.tuple #[.agg #[.string s, .int .i64 at_, .bool false], .int .i64 0, .string ⟨#[]⟩]) ∧ Below w.heap.size w w' := by
  go_enter Try.func10, Try.ntmps10
  go_wp2_with fail
  obtain ⟨hA, hB, hC, hb⟩ := alloc3 w (.cells #[.string s, .int .i64 at_, .bool false] 28) (.cells #[.int .i64 kind, .int .i64 most] 30) (.cells #[.string s, .int .i64 at_, .bool false] 28)
  refine bodyPost_ret (results_ctt rfl _ _ (w.heap.size + 1 + 1) 28 #[.string s, .int .i64 at_, .bool false] (0, 0) _ rfl hC Try.underlying28 rfl (by kernel_rfl)) rfl ?_
  exact ⟨rfl, hb⟩
set_option maxHeartbeats 2000000 in
theorem do4_byte0 (s : ByteArray) (at_ : Nat) (most : Int) (h0 : at_ = s.size) (w : World) (hat : at_ ≤ s.size) (hs : s.size ≤ 1000000) : Calls Try.prog 10 #[.agg #[.string s, .int .i64 at_, .bool false], .agg #[.int .i64 1, .int .i64 most]] w fun e w' => e = .returned (.tuple #[.agg #[.string s, .int .i64 at_, .bool true], .int .i64 0, .string ⟨#[]⟩]) ∧ Below w.heap.size w w' := by
  have hx : (s.extract at_ s.size).size = 0 := by rw [ByteArray.size_extract]; omega
  clear h0
  go_enter Try.func10, Try.ntmps10
  go_wp2_with fail
  obtain ⟨hA, hB, hC, hb⟩ := alloc3 w (.cells #[.string s, .int .i64 at_, .bool true] 28) (.cells #[.int .i64 1, .int .i64 most] 30) (.cells #[.string s, .int .i64 at_, .bool true] 28)
  refine bodyPost_ret (results_ctt rfl _ _ (w.heap.size + 1 + 1) 28 #[.string s, .int .i64 at_, .bool true] (0, 0) _ rfl hC Try.underlying28 rfl (by kernel_rfl)) rfl ?_
  exact ⟨rfl, hb⟩
set_option maxHeartbeats 2000000 in
theorem do4_byte_no (s : ByteArray) (at_ : Nat) (most : Int) (c : Int) (h0 : at_ < s.size) (hc : (bs s)[at_]'(by rw [bs_len]; exact h0) = c) (hm : most < c) (w : World) (hat : at_ ≤ s.size) (hs : s.size ≤ 1000000) : Calls Try.prog 10 #[.agg #[.string s, .int .i64 at_, .bool false], .agg #[.int .i64 1, .int .i64 most]] w fun e w' => e = .returned (.tuple #[.agg #[.string s, .int .i64 at_, .bool true], .int .i64 0, .string ⟨#[]⟩]) ∧ Below w.heap.size w w' := by
  have hcb : 0 ≤ c ∧ c < 256 := hc ▸ bs_bytes s _ (List.getElem_mem _)
  have hx : (s.extract at_ s.size).size = s.size - at_ := by rw [ByteArray.size_extract]; omega
  have hx1 : 0 < (s.extract at_ s.size).size := by rw [hx]; omega
  have hget : (((s.extract at_ s.size)[0]'hx1).toNat : Int) = c := by
    rw [← hc]
    have e := bt_bs (s := s) h0
    rw [← e, bt, dif_pos (by rw [Int.toNat_natCast]; exact h0)]
    simp [ByteArray.getElem_extract]
  go_enter Try.func10, Try.ntmps10
  go_wp2_with fail
  obtain ⟨hA, hB, hC, hb⟩ := alloc3 w (.cells #[.string s, .int .i64 at_, .bool true] 28) (.cells #[.int .i64 1, .int .i64 most] 30) (.cells #[.string s, .int .i64 at_, .bool true] 28)
  refine bodyPost_ret (results_ctt rfl _ _ (w.heap.size + 1 + 1) 28 #[.string s, .int .i64 at_, .bool true] (0, 0) _ rfl hC Try.underlying28 rfl (by kernel_rfl)) rfl ?_
  exact ⟨rfl, hb⟩
set_option maxHeartbeats 2000000 in
theorem do4_byte_ok (s : ByteArray) (at_ : Nat) (most : Int) (c : Int) (h0 : at_ < s.size) (hc : (bs s)[at_]'(by rw [bs_len]; exact h0) = c) (hm : ¬ most < c) (w : World) (hat : at_ ≤ s.size) (hs : s.size ≤ 1000000) : Calls Try.prog 10 #[.agg #[.string s, .int .i64 at_, .bool false], .agg #[.int .i64 1, .int .i64 most]] w fun e w' => e = .returned (.tuple #[.agg #[.string s, .int .i64 ((at_ : Int) + 1), .bool false], .int .i64 c, .string ⟨#[]⟩]) ∧ Below w.heap.size w w' := by
  have hcb : 0 ≤ c ∧ c < 256 := hc ▸ bs_bytes s _ (List.getElem_mem _)
  have hx : (s.extract at_ s.size).size = s.size - at_ := by rw [ByteArray.size_extract]; omega
  have hx1 : 0 < (s.extract at_ s.size).size := by rw [hx]; omega
  have hget : (((s.extract at_ s.size)[0]'hx1).toNat : Int) = c := by
    rw [← hc]
    have e := bt_bs (s := s) h0
    rw [← e, bt, dif_pos (by rw [Int.toNat_natCast]; exact h0)]
    simp [ByteArray.getElem_extract]
  go_enter Try.func10, Try.ntmps10
  go_wp2_with fail
  obtain ⟨hA, hB, hC, hb⟩ := alloc3 w (.cells #[.string s, .int .i64 ((at_ : Int) + 1), .bool false] 28) (.cells #[.int .i64 1, .int .i64 most] 30) (.cells #[.string s, .int .i64 ((at_ : Int) + 1), .bool false] 28)
  refine bodyPost_ret (results_ctt rfl _ _ (w.heap.size + 1 + 1) 28 #[.string s, .int .i64 ((at_ : Int) + 1), .bool false] (0, 0) _ rfl hC Try.underlying28 rfl (by kernel_rfl)) rfl ?_
  exact ⟨rfl, hb⟩
set_option maxHeartbeats 2000000 in
theorem do4_int_none (s : ByteArray) (at_ : Nat) (most : Int) (n : Int) (k : Nat) (hg : getP ((bs s).drop at_) = (n, k)) (hk : k = 0) (w : World) (hat : at_ ≤ s.size) (hs : s.size ≤ 1000000) : Calls Try.prog 10 #[.agg #[.string s, .int .i64 at_, .bool false], .agg #[.int .i64 0, .int .i64 most]] w fun e w' => e = .returned (.tuple #[.agg #[.string s, .int .i64 at_, .bool true], .int .i64 0, .string ⟨#[]⟩]) ∧ Below w.heap.size w w' := by
  have hgi := refGet_is (s.extract at_ s.size) (by rw [ByteArray.size_extract]; omega)
  rw [← bs_drop, hg] at hgi
  have hfc := getP_facts hg
  rw [List.length_drop, bs_len] at hfc
  have HG := Lib.hid hgi
  clear hgi hg
  go_enter Try.func10, Try.ntmps10
  go_wp2_with fail
  obtain ⟨hA, hB, hC, hb⟩ := alloc3 w (.cells #[.string s, .int .i64 at_, .bool false] 28) (.cells #[.int .i64 0, .int .i64 most] 30) (.cells #[.string ⟨#[]⟩, .int .i64 0, .bool false] 28)
  obtain ⟨q2, hq2⟩ : ∃ q, w.heap.size = q := ⟨_, rfl⟩
  obtain ⟨q3, hq3⟩ : ∃ q, q2 + 1 = q := ⟨_, rfl⟩
  obtain ⟨q4, hq4⟩ : ∃ q, q3 + 1 = q := ⟨_, rfl⟩
  simp only [hq2, hq3, hq4] at hA hB hC ⊢
  generalize World.alloc (World.alloc (World.alloc w _) _) _ = wa at hA hB hC hb ⊢
  refine (chicaneref04_Get.calls 50 (s.extract at_ s.size) n (k : Int) wa HG.out).mono ?_
  rintro e w4 ⟨rfl, hb4⟩
  have hA5 := (hb4.block q2 (blk_lt hA)).trans hA
  have hB5 := (hb4.block q3 (blk_lt hB)).trans hB
  have hC5 := (hb4.block q4 (blk_lt hC)).trans hC
  have hc0 : w4.cell? ⟨q2, 0, none⟩ = some (.string s) := (blk_cell hA5 0).trans rfl
  have hc1 : w4.cell? ⟨q2, 1, none⟩ = some (.int .i64 at_) := (blk_cell hA5 1).trans rfl
  have hc2 : w4.cell? ⟨q2, 2, none⟩ = some (.bool false) := (blk_cell hA5 2).trans rfl
  have hd0 : w4.cell? ⟨q3, 0, none⟩ = some (.int .i64 0) := (blk_cell hB5 0).trans rfl
  have hd1 : w4.cell? ⟨q3, 1, none⟩ = some (.int .i64 most) := (blk_cell hB5 1).trans rfl
  have hz1 : w4.frozen? ⟨q2, 1, none⟩ = false := blk_frozen hA5 1
  have hz2 : w4.frozen? ⟨q2, 2, none⟩ = false := blk_frozen hA5 2
  have hz4 : w4.frozen? ⟨q4, 0, none⟩ = false := blk_frozen hC5 0
  have hz5 : w4.frozen? ⟨q4, 1, none⟩ = false := blk_frozen hC5 1
  have hz6 : w4.frozen? ⟨q4, 2, none⟩ = false := blk_frozen hC5 2
  have hC6 := (Below.heap_setCell w4 ⟨q2, 2, none⟩ (.bool true) q4 (show q4 ≠ q2 by omega)).trans hC5
  have he0 : (w4.setCell ⟨q2, 2, none⟩ (.bool true)).cell? ⟨q4, 0, none⟩ = some (.string ⟨#[]⟩) := (blk_cell hC6 0).trans rfl
  have he1 : (w4.setCell ⟨q2, 2, none⟩ (.bool true)).cell? ⟨q4, 1, none⟩ = some (.int .i64 0) := (blk_cell hC6 1).trans rfl
  have he2 : (w4.setCell ⟨q2, 2, none⟩ (.bool true)).cell? ⟨q4, 2, none⟩ = some (.bool false) := (blk_cell hC6 2).trans rfl
  have hn24 : q2 ≠ q4 := by omega
  have hn42 : q4 ≠ q2 := by omega
  have hE := blk_put (blk_put (blk_put hC6 0 (.string s) rfl) 1 (.int .i64 at_) rfl) 2 (.bool true) rfl
  have hbb : Below w.heap.size w w4 := hb.trans (hb4.mono hb.size)
  clear hb4 hA hB hC
  subst hk
  go_wp2_with fail
  refine bodyPost_ret (results_ctt rfl _ _ q4 28 #[.string s, .int .i64 at_, .bool true] (0, 0) _ rfl hE Try.underlying28 rfl (by kernel_rfl)) rfl ?_
  refine ⟨rfl, ?_⟩
  exact Below.setCell (Below.setCell (Below.setCell (Below.setCell hbb (show w.heap.size ≤ q2 by omega) _) (show w.heap.size ≤ q4 by omega) _) (show w.heap.size ≤ q4 by omega) _) (show w.heap.size ≤ q4 by omega) _
set_option maxHeartbeats 2000000 in
theorem do4_int_no (s : ByteArray) (at_ : Nat) (most : Int) (n : Int) (k : Nat) (hg : getP ((bs s).drop at_) = (n, k)) (hk : k ≠ 0) (hm : most < n) (w : World) (hat : at_ ≤ s.size) (hs : s.size ≤ 1000000) : Calls Try.prog 10 #[.agg #[.string s, .int .i64 at_, .bool false], .agg #[.int .i64 0, .int .i64 most]] w fun e w' => e = .returned (.tuple #[.agg #[.string s, .int .i64 at_, .bool true], .int .i64 0, .string ⟨#[]⟩]) ∧ Below w.heap.size w w' := by
  have hgi := refGet_is (s.extract at_ s.size) (by rw [ByteArray.size_extract]; omega)
  rw [← bs_drop, hg] at hgi
  have hfc := getP_facts hg
  rw [List.length_drop, bs_len] at hfc
  have HG := Lib.hid hgi
  clear hgi hg
  go_enter Try.func10, Try.ntmps10
  go_wp2_with fail
  obtain ⟨hA, hB, hC, hb⟩ := alloc3 w (.cells #[.string s, .int .i64 at_, .bool false] 28) (.cells #[.int .i64 0, .int .i64 most] 30) (.cells #[.string ⟨#[]⟩, .int .i64 0, .bool false] 28)
  obtain ⟨q2, hq2⟩ : ∃ q, w.heap.size = q := ⟨_, rfl⟩
  obtain ⟨q3, hq3⟩ : ∃ q, q2 + 1 = q := ⟨_, rfl⟩
  obtain ⟨q4, hq4⟩ : ∃ q, q3 + 1 = q := ⟨_, rfl⟩
  simp only [hq2, hq3, hq4] at hA hB hC ⊢
  generalize World.alloc (World.alloc (World.alloc w _) _) _ = wa at hA hB hC hb ⊢
  refine (chicaneref04_Get.calls 50 (s.extract at_ s.size) n (k : Int) wa HG.out).mono ?_
  rintro e w4 ⟨rfl, hb4⟩
  have hA5 := (hb4.block q2 (blk_lt hA)).trans hA
  have hB5 := (hb4.block q3 (blk_lt hB)).trans hB
  have hC5 := (hb4.block q4 (blk_lt hC)).trans hC
  have hc0 : w4.cell? ⟨q2, 0, none⟩ = some (.string s) := (blk_cell hA5 0).trans rfl
  have hc1 : w4.cell? ⟨q2, 1, none⟩ = some (.int .i64 at_) := (blk_cell hA5 1).trans rfl
  have hc2 : w4.cell? ⟨q2, 2, none⟩ = some (.bool false) := (blk_cell hA5 2).trans rfl
  have hd0 : w4.cell? ⟨q3, 0, none⟩ = some (.int .i64 0) := (blk_cell hB5 0).trans rfl
  have hd1 : w4.cell? ⟨q3, 1, none⟩ = some (.int .i64 most) := (blk_cell hB5 1).trans rfl
  have hz1 : w4.frozen? ⟨q2, 1, none⟩ = false := blk_frozen hA5 1
  have hz2 : w4.frozen? ⟨q2, 2, none⟩ = false := blk_frozen hA5 2
  have hz4 : w4.frozen? ⟨q4, 0, none⟩ = false := blk_frozen hC5 0
  have hz5 : w4.frozen? ⟨q4, 1, none⟩ = false := blk_frozen hC5 1
  have hz6 : w4.frozen? ⟨q4, 2, none⟩ = false := blk_frozen hC5 2
  have hC6 := (Below.heap_setCell w4 ⟨q2, 2, none⟩ (.bool true) q4 (show q4 ≠ q2 by omega)).trans hC5
  have he0 : (w4.setCell ⟨q2, 2, none⟩ (.bool true)).cell? ⟨q4, 0, none⟩ = some (.string ⟨#[]⟩) := (blk_cell hC6 0).trans rfl
  have he1 : (w4.setCell ⟨q2, 2, none⟩ (.bool true)).cell? ⟨q4, 1, none⟩ = some (.int .i64 0) := (blk_cell hC6 1).trans rfl
  have he2 : (w4.setCell ⟨q2, 2, none⟩ (.bool true)).cell? ⟨q4, 2, none⟩ = some (.bool false) := (blk_cell hC6 2).trans rfl
  have hn24 : q2 ≠ q4 := by omega
  have hn42 : q4 ≠ q2 := by omega
  have hE := blk_put (blk_put (blk_put hC6 0 (.string s) rfl) 1 (.int .i64 at_) rfl) 2 (.bool true) rfl
  have hbb : Below w.heap.size w w4 := hb.trans (hb4.mono hb.size)
  clear hb4 hA hB hC
  have hkz : ((k : Int) == 0) = false := beq_eq_false_iff_ne.mpr (by omega)
  go_wp2_with fail
  refine bodyPost_ret (results_ctt rfl _ _ q4 28 #[.string s, .int .i64 at_, .bool true] (0, 0) _ rfl hE Try.underlying28 rfl (by kernel_rfl)) rfl ?_
  refine ⟨rfl, ?_⟩
  exact Below.setCell (Below.setCell (Below.setCell (Below.setCell hbb (show w.heap.size ≤ q2 by omega) _) (show w.heap.size ≤ q4 by omega) _) (show w.heap.size ≤ q4 by omega) _) (show w.heap.size ≤ q4 by omega) _
set_option maxHeartbeats 2000000 in
theorem do4_int_ok (s : ByteArray) (at_ : Nat) (most : Int) (n : Int) (k : Nat) (hg : getP ((bs s).drop at_) = (n, k)) (hk : k ≠ 0) (hm : ¬ most < n) (w : World) (hat : at_ ≤ s.size) (hs : s.size ≤ 1000000) : Calls Try.prog 10 #[.agg #[.string s, .int .i64 at_, .bool false], .agg #[.int .i64 0, .int .i64 most]] w fun e w' => e = .returned (.tuple #[.agg #[.string s, .int .i64 ((at_ : Int) + (k : Int)), .bool false], .int .i64 n, .string ⟨#[]⟩]) ∧ Below w.heap.size w w' := by
  have hgi := refGet_is (s.extract at_ s.size) (by rw [ByteArray.size_extract]; omega)
  rw [← bs_drop, hg] at hgi
  have hfc := getP_facts hg
  rw [List.length_drop, bs_len] at hfc
  have HG := Lib.hid hgi
  clear hgi hg
  go_enter Try.func10, Try.ntmps10
  go_wp2_with fail
  obtain ⟨hA, hB, hC, hb⟩ := alloc3 w (.cells #[.string s, .int .i64 at_, .bool false] 28) (.cells #[.int .i64 0, .int .i64 most] 30) (.cells #[.string ⟨#[]⟩, .int .i64 0, .bool false] 28)
  obtain ⟨q2, hq2⟩ : ∃ q, w.heap.size = q := ⟨_, rfl⟩
  obtain ⟨q3, hq3⟩ : ∃ q, q2 + 1 = q := ⟨_, rfl⟩
  obtain ⟨q4, hq4⟩ : ∃ q, q3 + 1 = q := ⟨_, rfl⟩
  simp only [hq2, hq3, hq4] at hA hB hC ⊢
  generalize World.alloc (World.alloc (World.alloc w _) _) _ = wa at hA hB hC hb ⊢
  refine (chicaneref04_Get.calls 50 (s.extract at_ s.size) n (k : Int) wa HG.out).mono ?_
  rintro e w4 ⟨rfl, hb4⟩
  have hA5 := (hb4.block q2 (blk_lt hA)).trans hA
  have hB5 := (hb4.block q3 (blk_lt hB)).trans hB
  have hC5 := (hb4.block q4 (blk_lt hC)).trans hC
  have hc0 : w4.cell? ⟨q2, 0, none⟩ = some (.string s) := (blk_cell hA5 0).trans rfl
  have hc1 : w4.cell? ⟨q2, 1, none⟩ = some (.int .i64 at_) := (blk_cell hA5 1).trans rfl
  have hc2 : w4.cell? ⟨q2, 2, none⟩ = some (.bool false) := (blk_cell hA5 2).trans rfl
  have hd0 : w4.cell? ⟨q3, 0, none⟩ = some (.int .i64 0) := (blk_cell hB5 0).trans rfl
  have hd1 : w4.cell? ⟨q3, 1, none⟩ = some (.int .i64 most) := (blk_cell hB5 1).trans rfl
  have hz1 : w4.frozen? ⟨q2, 1, none⟩ = false := blk_frozen hA5 1
  have hz2 : w4.frozen? ⟨q2, 2, none⟩ = false := blk_frozen hA5 2
  have hz4 : w4.frozen? ⟨q4, 0, none⟩ = false := blk_frozen hC5 0
  have hz5 : w4.frozen? ⟨q4, 1, none⟩ = false := blk_frozen hC5 1
  have hz6 : w4.frozen? ⟨q4, 2, none⟩ = false := blk_frozen hC5 2
  have hC6 := (Below.heap_setCell w4 ⟨q2, 1, none⟩ (.int .i64 ((at_ : Int) + (k : Int))) q4 (show q4 ≠ q2 by omega)).trans hC5
  have he0 : (w4.setCell ⟨q2, 1, none⟩ (.int .i64 ((at_ : Int) + (k : Int)))).cell? ⟨q4, 0, none⟩ = some (.string ⟨#[]⟩) := (blk_cell hC6 0).trans rfl
  have he1 : (w4.setCell ⟨q2, 1, none⟩ (.int .i64 ((at_ : Int) + (k : Int)))).cell? ⟨q4, 1, none⟩ = some (.int .i64 0) := (blk_cell hC6 1).trans rfl
  have he2 : (w4.setCell ⟨q2, 1, none⟩ (.int .i64 ((at_ : Int) + (k : Int)))).cell? ⟨q4, 2, none⟩ = some (.bool false) := (blk_cell hC6 2).trans rfl
  have hn24 : q2 ≠ q4 := by omega
  have hn42 : q4 ≠ q2 := by omega
  have hE := blk_put (blk_put (blk_put hC6 0 (.string s) rfl) 1 (.int .i64 ((at_ : Int) + (k : Int))) rfl) 2 (.bool false) rfl
  have hbb : Below w.heap.size w w4 := hb.trans (hb4.mono hb.size)
  clear hb4 hA hB hC
  have hkz : ((k : Int) == 0) = false := beq_eq_false_iff_ne.mpr (by omega)
  go_wp2_with fail
  refine bodyPost_ret (results_ctt rfl _ _ q4 28 #[.string s, .int .i64 ((at_ : Int) + (k : Int)), .bool false] (0, 0) _ rfl hE Try.underlying28 rfl (by kernel_rfl)) rfl ?_
  refine ⟨rfl, ?_⟩
  exact Below.setCell (Below.setCell (Below.setCell (Below.setCell hbb (show w.heap.size ≤ q2 by omega) _) (show w.heap.size ≤ q4 by omega) _) (show w.heap.size ≤ q4 by omega) _) (show w.heap.size ≤ q4 by omega) _
set_option maxHeartbeats 2000000 in
theorem do4_str_none (s : ByteArray) (at_ : Nat) (most : Int) (t : List Int) (k : Nat) (hg : getS ((bs s).drop at_) most = (t, k)) (hk : k = 0) (w : World) (hat : at_ ≤ s.size) (hs : s.size ≤ 1000000) : Calls Try.prog 10 #[.agg #[.string s, .int .i64 at_, .bool false], .agg #[.int .i64 2, .int .i64 most]] w fun e w' => e = .returned (.tuple #[.agg #[.string s, .int .i64 at_, .bool true], .int .i64 0, .string ⟨#[]⟩]) ∧ Below w.heap.size w w' := by
  have hgi := refGetStr_is (s.extract at_ s.size) most (by rw [ByteArray.size_extract]; omega)
  rw [← bs_drop, hg] at hgi
  have hfc := getS_facts hg
  rw [List.length_drop, bs_len] at hfc
  have HG := Lib.hid hgi
  clear hgi hg
  go_enter Try.func10, Try.ntmps10
  go_wp2_with fail
  obtain ⟨hA, hB, hC, hb⟩ := alloc3 w (.cells #[.string s, .int .i64 at_, .bool false] 28) (.cells #[.int .i64 2, .int .i64 most] 30) (.cells #[.string ⟨#[]⟩, .int .i64 0, .bool false] 28)
  obtain ⟨q2, hq2⟩ : ∃ q, w.heap.size = q := ⟨_, rfl⟩
  obtain ⟨q3, hq3⟩ : ∃ q, q2 + 1 = q := ⟨_, rfl⟩
  obtain ⟨q4, hq4⟩ : ∃ q, q3 + 1 = q := ⟨_, rfl⟩
  simp only [hq2, hq3, hq4] at hA hB hC ⊢
  generalize World.alloc (World.alloc (World.alloc w _) _) _ = wa at hA hB hC hb ⊢
  refine (chicaneref04_GetStr.calls 50 (s.extract at_ s.size) most (strOfNums t) (k : Int) wa HG.out).mono ?_
  rintro e w4 ⟨rfl, hb4⟩
  have hA5 := (hb4.block q2 (blk_lt hA)).trans hA
  have hB5 := (hb4.block q3 (blk_lt hB)).trans hB
  have hC5 := (hb4.block q4 (blk_lt hC)).trans hC
  have hc0 : w4.cell? ⟨q2, 0, none⟩ = some (.string s) := (blk_cell hA5 0).trans rfl
  have hc1 : w4.cell? ⟨q2, 1, none⟩ = some (.int .i64 at_) := (blk_cell hA5 1).trans rfl
  have hc2 : w4.cell? ⟨q2, 2, none⟩ = some (.bool false) := (blk_cell hA5 2).trans rfl
  have hd0 : w4.cell? ⟨q3, 0, none⟩ = some (.int .i64 2) := (blk_cell hB5 0).trans rfl
  have hd1 : w4.cell? ⟨q3, 1, none⟩ = some (.int .i64 most) := (blk_cell hB5 1).trans rfl
  have hz1 : w4.frozen? ⟨q2, 1, none⟩ = false := blk_frozen hA5 1
  have hz2 : w4.frozen? ⟨q2, 2, none⟩ = false := blk_frozen hA5 2
  have hz4 : w4.frozen? ⟨q4, 0, none⟩ = false := blk_frozen hC5 0
  have hz5 : w4.frozen? ⟨q4, 1, none⟩ = false := blk_frozen hC5 1
  have hz6 : w4.frozen? ⟨q4, 2, none⟩ = false := blk_frozen hC5 2
  have hC6 := (Below.heap_setCell w4 ⟨q2, 2, none⟩ (.bool true) q4 (show q4 ≠ q2 by omega)).trans hC5
  have he0 : (w4.setCell ⟨q2, 2, none⟩ (.bool true)).cell? ⟨q4, 0, none⟩ = some (.string ⟨#[]⟩) := (blk_cell hC6 0).trans rfl
  have he1 : (w4.setCell ⟨q2, 2, none⟩ (.bool true)).cell? ⟨q4, 1, none⟩ = some (.int .i64 0) := (blk_cell hC6 1).trans rfl
  have he2 : (w4.setCell ⟨q2, 2, none⟩ (.bool true)).cell? ⟨q4, 2, none⟩ = some (.bool false) := (blk_cell hC6 2).trans rfl
  have hn24 : q2 ≠ q4 := by omega
  have hn42 : q4 ≠ q2 := by omega
  have hE := blk_put (blk_put (blk_put hC6 0 (.string s) rfl) 1 (.int .i64 at_) rfl) 2 (.bool true) rfl
  have hbb : Below w.heap.size w w4 := hb.trans (hb4.mono hb.size)
  clear hb4 hA hB hC
  subst hk
  go_wp2_with fail
  refine bodyPost_ret (results_ctt rfl _ _ q4 28 #[.string s, .int .i64 at_, .bool true] (0, 0) _ rfl hE Try.underlying28 rfl (by kernel_rfl)) rfl ?_
  refine ⟨rfl, ?_⟩
  exact Below.setCell (Below.setCell (Below.setCell (Below.setCell hbb (show w.heap.size ≤ q2 by omega) _) (show w.heap.size ≤ q4 by omega) _) (show w.heap.size ≤ q4 by omega) _) (show w.heap.size ≤ q4 by omega) _
set_option maxHeartbeats 2000000 in
theorem do4_str_ok (s : ByteArray) (at_ : Nat) (most : Int) (t : List Int) (k : Nat) (hg : getS ((bs s).drop at_) most = (t, k)) (hk : k ≠ 0) (w : World) (hat : at_ ≤ s.size) (hs : s.size ≤ 1000000) : Calls Try.prog 10 #[.agg #[.string s, .int .i64 at_, .bool false], .agg #[.int .i64 2, .int .i64 most]] w fun e w' => e = .returned (.tuple #[.agg #[.string s, .int .i64 ((at_ : Int) + (k : Int)), .bool false], .int .i64 0, .string (strOfNums t)]) ∧ Below w.heap.size w w' := by
  have hgi := refGetStr_is (s.extract at_ s.size) most (by rw [ByteArray.size_extract]; omega)
  rw [← bs_drop, hg] at hgi
  have hfc := getS_facts hg
  rw [List.length_drop, bs_len] at hfc
  have HG := Lib.hid hgi
  clear hgi hg
  go_enter Try.func10, Try.ntmps10
  go_wp2_with fail
  obtain ⟨hA, hB, hC, hb⟩ := alloc3 w (.cells #[.string s, .int .i64 at_, .bool false] 28) (.cells #[.int .i64 2, .int .i64 most] 30) (.cells #[.string ⟨#[]⟩, .int .i64 0, .bool false] 28)
  obtain ⟨q2, hq2⟩ : ∃ q, w.heap.size = q := ⟨_, rfl⟩
  obtain ⟨q3, hq3⟩ : ∃ q, q2 + 1 = q := ⟨_, rfl⟩
  obtain ⟨q4, hq4⟩ : ∃ q, q3 + 1 = q := ⟨_, rfl⟩
  simp only [hq2, hq3, hq4] at hA hB hC ⊢
  generalize World.alloc (World.alloc (World.alloc w _) _) _ = wa at hA hB hC hb ⊢
  refine (chicaneref04_GetStr.calls 50 (s.extract at_ s.size) most (strOfNums t) (k : Int) wa HG.out).mono ?_
  rintro e w4 ⟨rfl, hb4⟩
  have hA5 := (hb4.block q2 (blk_lt hA)).trans hA
  have hB5 := (hb4.block q3 (blk_lt hB)).trans hB
  have hC5 := (hb4.block q4 (blk_lt hC)).trans hC
  have hc0 : w4.cell? ⟨q2, 0, none⟩ = some (.string s) := (blk_cell hA5 0).trans rfl
  have hc1 : w4.cell? ⟨q2, 1, none⟩ = some (.int .i64 at_) := (blk_cell hA5 1).trans rfl
  have hc2 : w4.cell? ⟨q2, 2, none⟩ = some (.bool false) := (blk_cell hA5 2).trans rfl
  have hd0 : w4.cell? ⟨q3, 0, none⟩ = some (.int .i64 2) := (blk_cell hB5 0).trans rfl
  have hd1 : w4.cell? ⟨q3, 1, none⟩ = some (.int .i64 most) := (blk_cell hB5 1).trans rfl
  have hz1 : w4.frozen? ⟨q2, 1, none⟩ = false := blk_frozen hA5 1
  have hz2 : w4.frozen? ⟨q2, 2, none⟩ = false := blk_frozen hA5 2
  have hz4 : w4.frozen? ⟨q4, 0, none⟩ = false := blk_frozen hC5 0
  have hz5 : w4.frozen? ⟨q4, 1, none⟩ = false := blk_frozen hC5 1
  have hz6 : w4.frozen? ⟨q4, 2, none⟩ = false := blk_frozen hC5 2
  have hC6 := (Below.heap_setCell w4 ⟨q2, 1, none⟩ (.int .i64 ((at_ : Int) + (k : Int))) q4 (show q4 ≠ q2 by omega)).trans hC5
  have he0 : (w4.setCell ⟨q2, 1, none⟩ (.int .i64 ((at_ : Int) + (k : Int)))).cell? ⟨q4, 0, none⟩ = some (.string ⟨#[]⟩) := (blk_cell hC6 0).trans rfl
  have he1 : (w4.setCell ⟨q2, 1, none⟩ (.int .i64 ((at_ : Int) + (k : Int)))).cell? ⟨q4, 1, none⟩ = some (.int .i64 0) := (blk_cell hC6 1).trans rfl
  have he2 : (w4.setCell ⟨q2, 1, none⟩ (.int .i64 ((at_ : Int) + (k : Int)))).cell? ⟨q4, 2, none⟩ = some (.bool false) := (blk_cell hC6 2).trans rfl
  have hn24 : q2 ≠ q4 := by omega
  have hn42 : q4 ≠ q2 := by omega
  have hE := blk_put (blk_put (blk_put hC6 0 (.string s) rfl) 1 (.int .i64 ((at_ : Int) + (k : Int))) rfl) 2 (.bool false) rfl
  have hbb : Below w.heap.size w w4 := hb.trans (hb4.mono hb.size)
  clear hb4 hA hB hC
  have hkz : ((k : Int) == 0) = false := beq_eq_false_iff_ne.mpr (by omega)
  go_wp2_with fail
  refine bodyPost_ret (results_ctt rfl _ _ q4 28 #[.string s, .int .i64 ((at_ : Int) + (k : Int)), .bool false] (0, 0) _ rfl hE Try.underlying28 rfl (by kernel_rfl)) rfl ?_
  refine ⟨rfl, ?_⟩
  exact Below.setCell (Below.setCell (Below.setCell (Below.setCell hbb (show w.heap.size ≤ q2 by omega) _) (show w.heap.size ≤ q4 by omega) _) (show w.heap.size ≤ q4 by omega) _) (show w.heap.size ≤ q4 by omega) _
/-- A call of a reader: where it stands behind it, whether it is bad, a number, a text. -/
def doL (l : List Int) (at_ : Nat) (bad : Bool) (kind most : Int) : Nat × Bool × Int × List Int :=
  if kind = 0 then ((rI l at_ bad most).2.1, (rI l at_ bad most).2.2, (rI l at_ bad most).1, [])
  else if kind = 1 then ((rB l at_ bad most).2.1, (rB l at_ bad most).2.2, (rB l at_ bad most).1, [])
  else if kind = 2 then ((rS l at_ bad most).2.1, (rS l at_ bad most).2.2, 0, (rS l at_ bad most).1)
  else (at_, bad, 0, [])
theorem do4_calls (s : ByteArray) (at_ : Nat) (bad : Bool) (kind most : Int) (w : World) (hat : at_ ≤ s.size) (hs : s.size ≤ 1000000) : Calls Try.prog 10 #[.agg #[.string s, .int .i64 at_, .bool bad], .agg #[.int .i64 kind, .int .i64 most]] w fun e w' => e = .returned (.tuple #[.agg #[.string s, .int .i64 ((doL (bs s) at_ bad kind most).1 : Int), .bool (doL (bs s) at_ bad kind most).2.1], .int .i64 (doL (bs s) at_ bad kind most).2.2.1, .string (strOfNums (doL (bs s) at_ bad kind most).2.2.2)]) ∧ Below w.heap.size w w' := by
  cases bad with
  | true =>
    have e : doL (bs s) at_ true kind most = (at_, true, 0, []) := by
      unfold doL rI rB rS
      simp
    rw [e]
    exact do4_bad s at_ most kind w hat hs
  | false =>
    by_cases hn : kind < 0
    · have e : doL (bs s) at_ false kind most = (at_, false, 0, []) := by
        unfold doL
        rw [if_neg (by omega), if_neg (by omega), if_neg (by omega)]
      rw [e]
      exact do4_neg s at_ most kind hn w hat hs
    by_cases hb : 2 < kind
    · have e : doL (bs s) at_ false kind most = (at_, false, 0, []) := by
        unfold doL
        rw [if_neg (by omega), if_neg (by omega), if_neg (by omega)]
      rw [e]
      exact do4_big s at_ most kind hb w hat hs
    rcases (show kind = 0 ∨ kind = 1 ∨ kind = 2 by omega) with rfl | rfl | rfl
    · obtain ⟨n, k, hg⟩ : ∃ n k, getP ((bs s).drop at_) = (n, k) := ⟨_, _, rfl⟩
      unfold doL
      rw [if_pos rfl]
      unfold rI
      rw [hg]
      simp only
      by_cases hk : k = 0
      · rw [if_pos (.inr (.inl hk))]
        exact do4_int_none s at_ most n k hg hk w hat hs
      by_cases hm : most < n
      · rw [if_pos (.inr (.inr (decide_eq_false (by omega))))]
        exact do4_int_no s at_ most n k hg hk hm w hat hs
      · rw [if_neg (by
          rintro (h | h | h)
          · cases h
          · exact hk h
          · have := of_decide_eq_false h; omega)]
        have := do4_int_ok s at_ most n k hg hk hm w hat hs
        rw [show ((at_ + k : Nat) : Int) = (at_ : Int) + (k : Int) from by omega]
        exact this
    · unfold doL
      rw [if_neg (by omega), if_pos rfl]
      by_cases h0 : at_ = s.size
      · have e : rB (bs s) at_ false most = (0, at_, true) := by
          unfold rB
          rw [List.drop_eq_nil_of_le (by rw [bs_len]; omega), if_pos (.inr (.inl rfl))]
        rw [e]
        exact do4_byte0 s at_ most h0 w hat hs
      have hlt : at_ < s.size := by omega
      have hlt' : at_ < (bs s).length := by rw [bs_len]; exact hlt
      have hd : (bs s).drop at_ = (bs s)[at_] :: (bs s).drop (at_ + 1) := List.drop_eq_getElem_cons hlt'
      obtain ⟨c, hc⟩ : ∃ c, (bs s)[at_] = c := ⟨_, rfl⟩
      rw [hc] at hd
      by_cases hm : most < c
      · have e : rB (bs s) at_ false most = (0, at_, true) := by
          unfold rB
          rw [hd, if_pos (.inr (.inr (decide_eq_false (show ¬ c ≤ most by omega))))]
        rw [e]
        exact do4_byte_no s at_ most c hlt hc hm w hat hs
      · have e : rB (bs s) at_ false most = (c, at_ + 1, false) := by
          unfold rB
          rw [hd, if_neg (by
            rintro (h | h | h)
            · cases h
            · cases h
            · have := of_decide_eq_false h
              exact this (show c ≤ most by omega))]
          rfl
        rw [e]
        exact do4_byte_ok s at_ most c hlt hc hm w hat hs
    · obtain ⟨t, k, hg⟩ : ∃ t k, getS ((bs s).drop at_) most = (t, k) := ⟨_, _, rfl⟩
      unfold doL
      rw [if_neg (by omega), if_neg (by omega), if_pos rfl]
      unfold rS
      rw [hg]
      simp only
      by_cases hk : k = 0
      · rw [if_pos (.inr (.inl hk))]
        exact do4_str_none s at_ most t k hg hk w hat hs
      · rw [if_neg (by
          rintro (h | h | h)
          · cases h
          · exact hk h
          · cases h)]
        have := do4_str_ok s at_ most t k hg hk w hat hs
        rw [show ((at_ + k : Nat) : Int) = (at_ : Int) + (k : Int) from by omega]
        exact this
/-- A script of a reader's calls, in memory. -/
def OpsC (w : World) (A : Option Addr) (l : List (Int × Int)) : Prop := l.length ≤ 9223372036854775807 ∧ (0 < l.length → ∃ ad, A = some ad ∧ ∀ j p, l[j]? = some p → w.cell? (ad.add (j * 2)) = some (.int .i64 p.1) ∧ w.cell? ⟨(ad.add (j * 2)).block, (ad.add (j * 2)).off + 1, none⟩ = some (.int .i64 p.2))
theorem OpsC.below {w w' : World} {A : Option Addr} {l : List (Int × Int)} (h : OpsC w A l) (hb : Below w.heap.size w w') : OpsC w' A l :=
  ⟨h.1, fun h0 => by
    obtain ⟨ad, e, hc⟩ := h.2 h0
    exact ⟨ad, e, fun j p hj => ⟨pw_cell_below hb (hc j p hj).1, pw_cell_below hb (hc j p hj).2⟩⟩⟩
end Go.Proofs.Yteencbkopkpelaa.Hand
