/- The document's answers: Free, first, Right, Do. -/
import Derived.Test.YtbplfoanhfmheaaRing13
namespace Go.Proofs.Ytbplfoanhfmheaa.Hand
open Go.RowKit Go.Proofs.YtbplfoanhfmheaaW.PrintWords Go.Proofs.YtbplfoanhfmheaaW.PrintLast Go.Proofs.YtbplfoanhfmheaaW.PrintMore
set_option linter.unusedVariables false
set_option linter.unusedSimpArgs false
theorem refFree_calls (s : ByteArray) (room : Int) (w : World) (h0 : 0 ≤ room) (h1 : room ≤ 1000000) : Calls Try.prog 24 #[.agg #[.string s, .int .i64 room]] w fun e w' => e = .returned (.int .i64 (freeT room s.size)) ∧ Below w.heap.size w w' := by
  by_cases h : room < s.size
  · have e : (freeT room s.size : Int) = 0 := by unfold freeT; omega
    rw [e]
    go_enter Try.func24, Try.ntmps24
    go_wp2_with fail
    go_ret
    exact ⟨rfl, below_alloc (Below.refl _ _) _⟩
  · have e : (freeT room s.size : Int) = room - s.size := by unfold freeT; omega
    rw [e]
    go_enter Try.func24, Try.ntmps24
    go_wp2_with fail
    go_ret
    exact ⟨rfl, below_alloc (Below.refl _ _) _⟩
theorem first_calls (s : ByteArray) (n : Int) (w : World) : Calls Try.prog 28 #[.string s, .int .i64 n] w fun e w' => e = .returned (.string (s.extract 0 (cutN n s.size))) ∧ Below w.heap.size w w' := by
  by_cases h : n < 0
  · have e : s.extract 0 (cutN n s.size) = ⟨#[]⟩ := by
      have : cutN n s.size = 0 := by unfold cutN; omega
      rw [this]
      exact bs_inj (by rw [← bs_take]; rfl)
    rw [e]
    go_enter Try.func28, Try.ntmps28
    go_wp2_with fail
    go_ret
    exact ⟨rfl, Below.refl _ _⟩
  by_cases h2 : (s.size : Int) < n
  · have e : s.extract 0 (cutN n s.size) = s := by
      have : cutN n s.size = s.size := by unfold cutN; omega
      rw [this]
      exact ba_self s
    rw [e]
    go_enter Try.func28, Try.ntmps28
    go_wp2_with fail
    go_ret
    exact ⟨rfl, Below.refl _ _⟩
  · obtain ⟨m, rfl⟩ : ∃ m : Nat, n = m := ⟨n.toNat, by omega⟩
    have e : cutN (m : Int) s.size = m := by unfold cutN; omega
    rw [e]
    go_enter Try.func28, Try.ntmps28
    go_wp2_with fail
    go_ret
    exact ⟨rfl, Below.refl _ _⟩
theorem right_calls (n : Int) (w : World) : Calls Try.prog 21 #[.int .i64 n] w fun e w' => e = .returned (.bool (decide (0 ≤ n ∧ n ≤ 4096))) ∧ w = w' := by
  by_cases h : 0 ≤ n
  · go_enter Try.func21, Try.ntmps21
    go_wp2_with fail
    go_ret
    exact ⟨by simp [h], rfl⟩
  · have e : decide (0 ≤ n ∧ n ≤ 4096) = false := decide_eq_false (by omega)
    rw [e]
    go_enter Try.func21, Try.ntmps21
    go_wp2_with fail
    go_ret
    exact ⟨rfl, rfl⟩
theorem alloc3 (w : World) (A B C : Obj) : (((w.alloc A).alloc B).alloc C).heap[w.heap.size]? = some A ∧ (((w.alloc A).alloc B).alloc C).heap[w.heap.size + 1]? = some B ∧ (((w.alloc A).alloc B).alloc C).heap[w.heap.size + 1 + 1]? = some C ∧ Below w.heap.size w (((w.alloc A).alloc B).alloc C) := by
  have e1 := alloc_size w A
  have e2 := alloc_size (w.alloc A) B
  have b2 := below_alloc (Below.refl (w.alloc A).heap.size (w.alloc A)) B
  have b3 := below_alloc (Below.refl ((w.alloc A).alloc B).heap.size ((w.alloc A).alloc B)) C
  refine ⟨(b3.block _ (by omega)).trans ((b2.block _ (by omega)).trans (blk_new w A)), ?_, ?_, below_alloc (below_alloc (below_alloc (Below.refl _ _) _) _) _⟩
  · refine (b3.block _ (by omega)).trans ?_
    rw [e1]
    exact blk_new _ _
  · rw [e1, e2]
    exact blk_new _ _
def TDoW : Bool × List (List Nat × List Nat) := (true, [([], []), ([0], [0]), ([], []), ([2], [2]), ([1, 3, 3], [1, 3]), ([4, 4, 0, 1, 2, 3, 4], [4])])
def BDoW : List Nat := [0, 1, 0, 4, 15, 31]
theorem tabDoW : rtab .any (opsOf Try.f22 3) = TDoW := by kernel_rfl
theorem bitsDoW : waitsOk TDoW.2 BDoW = true := by kernel_rfl
def TDoP : Bool × List (List Nat × List Nat) := (true, [([], []), ([], []), ([1], [1]), ([], []), ([3], [3]), ([2, 4], [2, 4]), ([0, 5, 0], [0]), ([6, 0, 6], []), ([5, 7, 0, 1, 2, 3, 4, 5, 6, 7], [5])])
def BDoP : List Nat := [0, 0, 2, 0, 8, 30, 63, 127, 255]
theorem tabDoP : rtab .any (opsOf Try.f22 13) = TDoP := by kernel_rfl
theorem bitsDoP : waitsOk TDoP.2 BDoP = true := by kernel_rfl
set_option maxHeartbeats 2000000 in
theorem do_write (s t : ByteArray) (room n : Int) (w : World) (h0 : 0 ≤ room) (h1 : room ≤ 1000000) (hk : s.size + t.size ≤ 1000000) : Calls Try.prog 22 #[.agg #[.string s, .int .i64 room], .agg #[.int .i64 0, .int .i64 n, .string t]] w fun e w' => e = .returned (.tuple #[.agg #[.string (s ++ t.extract 0 (wrT room s t)), .int .i64 room], .int .i64 (wrT room s t), .string ⟨#[]⟩]) ∧ Below w.heap.size w w' := by
  go_enter Try.func22, Try.ntmps22
  go_wp2_with fail
  obtain ⟨hA, hB, hC, hb⟩ := alloc3 w (.cells #[.string s, .int .i64 room] 46) (.cells #[.int .i64 0, .int .i64 n, .string t] 30) (.cells #[.string ⟨#[]⟩, .int .i64 0] 46)
  obtain ⟨q2, hq2⟩ : ∃ q, w.heap.size = q := ⟨_, rfl⟩
  obtain ⟨q3, hq3⟩ : ∃ q, q2 + 1 = q := ⟨_, rfl⟩
  obtain ⟨q4, hq4⟩ : ∃ q, q3 + 1 = q := ⟨_, rfl⟩
  simp only [hq2, hq3, hq4] at hA hB hC ⊢
  generalize World.alloc (World.alloc (World.alloc w _) _) _ = wa at hA hB hC hb ⊢
  have C0 : Aside0 (wa.drew.cell? ⟨q2, 0, none⟩ = some (.string s)) := ⟨(blk_cell (w := wa) hA 0).trans rfl⟩
  have C1 : Aside0 (wa.drew.cell? ⟨q2, 1, none⟩ = some (.int .i64 room)) := ⟨(blk_cell (w := wa) hA 1).trans rfl⟩
  have C2 : Aside0 (wa.drew.cell? ⟨q3, 2, none⟩ = some (.string t)) := ⟨(blk_cell (w := wa) hB 2).trans rfl⟩
  have HBD : Aside0 (Below wa.heap.size wa wa.drew) := ⟨below_drew1 (Below.refl _ _)⟩
  refine start_ (n := 6) (S := fun w' => w'.cell? ⟨q2, 0, none⟩ = some (.string s) ∧ w'.cell? ⟨q2, 1, none⟩ = some (.int .i64 room) ∧ w'.cell? ⟨q3, 2, none⟩ = some (.string t)) (ds := []) #[false, false, false, false, false, false] (by kernel_rfl) rfl rfl ⟨C0.out, C1.out, C2.out⟩ (fun hHeld => ?_); refine with_tabW tabDoW bitsDoW (fun HT_ HW_ => ?_)
  generalize wa.drew = wd at C0 C1 C2 HBD hHeld ⊢
  refine pure_ (i := 0) (N := some 15) (v := ?_) (a' := ?_) #[true, false, false, false, false, false] rfl rfl (any_of HT_.out (by kernel_rfl)) (fun _ _ _ h => h) (Or.inl ⟨by rfl, ?_⟩) ?_ ?_
  rotate_left
  · intro w'
    go_simp
    with_reducible rfl
  rotate_left
  · simp only [Act.put, List.setIfInBounds_toArray, List.set_cons_zero, List.set_cons_succ, i64_w, i32_w]
    rfl
  refine take_ (i := 1) (N := some 16) (v := ?_) (a' := ?_) #[true, true, false, false, false, false] rfl rfl (take_ofW HT_.out HW_.out (by kernel_rfl)) (fun _ _ _ h => h) (Or.inl ⟨by rfl, ?_⟩) hHeld ?_ ?_
  rotate_left
  · rintro w' ⟨s0_, s1_, s2_⟩
    go_simp
    with_reducible rfl
  rotate_left
  · simp only [Act.put, List.setIfInBounds_toArray, List.set_cons_zero, List.set_cons_succ, i64_w, i32_w]
    rfl
  refine take_ (i := 2) (N := some 17) (v := ?_) (a' := ?_) #[true, true, true, false, false, false] rfl rfl (take_ofW HT_.out HW_.out (by kernel_rfl)) (fun _ _ _ h => h) (Or.inl ⟨by rfl, ?_⟩) hHeld ?_ ?_
  rotate_left
  · rintro w' ⟨s0_, s1_, s2_⟩
    go_simp
    with_reducible rfl
  rotate_left
  · simp only [Act.put, List.setIfInBounds_toArray, List.set_cons_zero, List.set_cons_succ, i64_w, i32_w]
    rfl
  refine one_ (i := 3) (N := some 18) #[true, true, true, true, false, false] rfl rfl (one_of HT_.out (by kernel_rfl)) (by decide) (fun K hK => ?_)
  refine goes_ Try.func24 (by kernel_rfl) rfl #[.agg #[.string s, .int .i64 room]] (by rfl) rfl rfl (by (try simp only [List.map_toArray, List.map_cons, List.map_nil]); first | done | rfl) ?_
  refine (refFree_calls s room _ h0 h1).mono ?_
  rintro e w4 ⟨rfl, hb4⟩
  have n0_ : Aside0 (w4.cell? ⟨q2, 0, none⟩ = some (.string s)) := Aside0.mk (pw_cell_below hb4 C0.out); clear C0; have C0 := n0_; clear n0_
  have n0_ : Aside0 (w4.cell? ⟨q2, 1, none⟩ = some (.int .i64 room)) := Aside0.mk (pw_cell_below hb4 C1.out); clear C1; have C1 := n0_; clear n0_
  have n0_ : Aside0 (w4.cell? ⟨q3, 2, none⟩ = some (.string t)) := Aside0.mk (pw_cell_below hb4 C2.out); clear C2; have C2 := n0_; clear n0_
  have n0_ : Aside0 (Below wa.heap.size wa w4) := Aside0.mk (below_step HBD.out hb4); clear HBD; have HBD := n0_; clear n0_
  refine ⟨_, rfl, ?_⟩
  refine hK.out _ _ ⟨C0.out, C1.out, C2.out⟩ (fun hHeld => ?_)
  clear hK K
  refine norm_ (a' := ?_) ?_ ?_
  rotate_left
  · show Act.put _ (some 18) _ = _
    simp only [Act.put, List.setIfInBounds_toArray, List.set_cons_zero, List.set_cons_succ, i64_w, i32_w]
    rfl
  refine one_ (i := 4) (N := some 19) #[true, true, true, true, true, false] rfl rfl (one_of HT_.out (by kernel_rfl)) (by decide) (fun K hK => ?_)
  refine goes_ Try.func28 (by kernel_rfl) rfl #[.string t, .int .i64 (freeT room s.size)] (by rfl) rfl rfl (by (try simp only [List.map_toArray, List.map_cons, List.map_nil]); first | done | rfl) ?_
  refine (first_calls t (freeT room s.size) _).mono ?_
  rintro e w5 ⟨rfl, hb5⟩
  have n0_ : Aside0 (w5.cell? ⟨q2, 0, none⟩ = some (.string s)) := Aside0.mk (pw_cell_below hb5 C0.out); clear C0; have C0 := n0_; clear n0_
  have n0_ : Aside0 (w5.cell? ⟨q2, 1, none⟩ = some (.int .i64 room)) := Aside0.mk (pw_cell_below hb5 C1.out); clear C1; have C1 := n0_; clear n0_
  have n0_ : Aside0 (w5.cell? ⟨q3, 2, none⟩ = some (.string t)) := Aside0.mk (pw_cell_below hb5 C2.out); clear C2; have C2 := n0_; clear n0_
  have n0_ : Aside0 (Below wa.heap.size wa w5) := Aside0.mk (below_step HBD.out hb5); clear HBD; have HBD := n0_; clear n0_
  refine ⟨_, rfl, ?_⟩
  refine hK.out _ _ ⟨C0.out, C1.out, C2.out⟩ (fun hHeld => ?_)
  clear hK K
  refine norm_ (a' := ?_) ?_ ?_
  rotate_left
  · show Act.put _ (some 19) _ = _
    simp only [Act.put, List.setIfInBounds_toArray, List.set_cons_zero, List.set_cons_succ, i64_w, i32_w]
    rfl
  refine pure_ (i := 5) (N := some 7) (v := ?_) (a' := ?_) #[true, true, true, true, true, true] rfl rfl (any_of HT_.out (by kernel_rfl)) (fun _ _ _ h => h) (Or.inl ⟨by rfl, ?_⟩) ?_ ?_
  rotate_left
  · intro w'
    go_simp
    with_reducible rfl
  rotate_left
  · simp only [Act.put, List.setIfInBounds_toArray, List.set_cons_zero, List.set_cons_succ, i64_w, i32_w]
    rfl
  refine done_ (done_of HT_.out (by kernel_rfl)) ?_
  have hA5 := (HBD.out.block q2 (blk_lt hA)).trans hA
  have hB5 := (HBD.out.block q3 (blk_lt hB)).trans hB
  have hC5 := (HBD.out.block q4 (blk_lt hC)).trans hC
  have hc0 : w5.cell? ⟨q2, 0, none⟩ = some (.string s) := C0.out
  have hc1 : w5.cell? ⟨q2, 1, none⟩ = some (.int .i64 room) := C1.out
  have hc2 : w5.cell? ⟨q3, 2, none⟩ = some (.string t) := C2.out
  have hz0 : w5.frozen? ⟨q2, 0, none⟩ = false := blk_frozen hA5 0
  have hz1 : w5.frozen? ⟨q2, 1, none⟩ = false := blk_frozen hA5 1
  have hz4 : w5.frozen? ⟨q4, 0, none⟩ = false := blk_frozen hC5 0
  have hz5 : w5.frozen? ⟨q4, 1, none⟩ = false := blk_frozen hC5 1
  have hfs : s.size + (t.extract 0 (cutN (freeT room s.size) t.size)).size ≤ 9223372036854775807 := by
    rw [cut_size]; have := cutN_le (freeT room s.size) t.size; omega
  obtain ⟨x, hx⟩ : ∃ x, t.extract 0 (cutN (freeT room s.size) t.size) = x := ⟨_, rfl⟩
  simp only [hx] at hfs ⊢
  have hB6 := blk_put hA5 0 (.string (s ++ x)) rfl
  have hC6 := (Below.heap_setCell w5 ⟨q2, 0, none⟩ (.string (s ++ x)) q4 (show q4 ≠ q2 by omega)).trans hC5
  have he0 : (w5.setCell ⟨q2, 0, none⟩ (.string (s ++ x))).cell? ⟨q4, 0, none⟩ = some (.string ⟨#[]⟩) := (blk_cell hC6 0).trans rfl
  have he1 : (w5.setCell ⟨q2, 0, none⟩ (.string (s ++ x))).cell? ⟨q4, 1, none⟩ = some (.int .i64 0) := (blk_cell hC6 1).trans rfl
  have hn24 : q2 ≠ q4 := by omega
  have hn42 : q4 ≠ q2 := by omega
  go_wp2_with fail
  have hsz : x.size = wrT room s t := by
    rw [← hx, cut_size]
    unfold cutN wrT
    omega
  have hE := blk_put (blk_put hC6 0 (.string (s ++ x)) rfl) 1 (.int .i64 room) rfl
  refine bodyPost_ret (results_ctt rfl _ _ q4 46 #[.string (s ++ x), .int .i64 room] (0, 0) _ rfl hE Try.underlying46 rfl (by kernel_rfl)) rfl ?_
  have hcw : cutN (freeT room s.size) t.size = wrT room s t := by unfold cutN wrT; omega
  have hxx : t.extract 0 (wrT room s t) = x := by rw [← hcw]; exact hx
  refine ⟨by rw [hxx, ← hsz]; rfl, ?_⟩
  have hbb : Below w.heap.size w w5 := hb.trans (HBD.out.mono hb.size)
  exact Below.setCell (Below.setCell (Below.setCell hbb (show w.heap.size ≤ q2 by omega) _) (show w.heap.size ≤ q4 by omega) _) (show w.heap.size ≤ q4 by omega) _
set_option maxHeartbeats 2000000 in
theorem do_force (s t : ByteArray) (room n : Int) (w : World) (hk : s.size + t.size ≤ 1000000) : Calls Try.prog 22 #[.agg #[.string s, .int .i64 room], .agg #[.int .i64 1, .int .i64 n, .string t]] w fun e w' => e = .returned (.tuple #[.agg #[.string (s ++ t), .int .i64 room], .int .i64 0, .string ⟨#[]⟩]) ∧ Below w.heap.size w w' := by
  go_enter Try.func22, Try.ntmps22
  go_wp2_with fail
  obtain ⟨hA, hB, hC, hb⟩ := alloc3 w (.cells #[.string (s ++ t), .int .i64 room] 46) (.cells #[.int .i64 1, .int .i64 n, .string t] 30) (.cells #[.string (s ++ t), .int .i64 room] 46)
  refine bodyPost_ret (results_ctt rfl _ _ (w.heap.size + 1 + 1) 46 #[.string (s ++ t), .int .i64 room] (0, 0) _ rfl hC Try.underlying46 rfl (by kernel_rfl)) rfl ?_
  exact ⟨rfl, hb⟩
set_option maxHeartbeats 2000000 in
theorem do_clear (s t : ByteArray) (room n : Int) (w : World) (hk : s.size + t.size ≤ 1000000) : Calls Try.prog 22 #[.agg #[.string s, .int .i64 room], .agg #[.int .i64 5, .int .i64 n, .string t]] w fun e w' => e = .returned (.tuple #[.agg #[.string ⟨#[]⟩, .int .i64 room], .int .i64 (s.size : Int), .string ⟨#[]⟩]) ∧ Below w.heap.size w w' := by
  go_enter Try.func22, Try.ntmps22
  go_wp2_with fail
  obtain ⟨hA, hB, hC, hb⟩ := alloc3 w (.cells #[.string ⟨#[]⟩, .int .i64 room] 46) (.cells #[.int .i64 5, .int .i64 n, .string t] 30) (.cells #[.string ⟨#[]⟩, .int .i64 room] 46)
  refine bodyPost_ret (results_ctt rfl _ _ (w.heap.size + 1 + 1) 46 #[.string ⟨#[]⟩, .int .i64 room] (0, 0) _ rfl hC Try.underlying46 rfl (by kernel_rfl)) rfl ?_
  exact ⟨rfl, hb⟩
set_option maxHeartbeats 2000000 in
theorem do_none (s t : ByteArray) (room k n : Int) (w : World) (hk0 : k ≠ 0) (hk1 : k ≠ 1) (hk2 : k ≠ 2) (hk3 : k ≠ 3) (hk4 : k ≠ 4) (hk5 : k ≠ 5) (hk : s.size + t.size ≤ 1000000) : Calls Try.prog 22 #[.agg #[.string s, .int .i64 room], .agg #[.int .i64 k, .int .i64 n, .string t]] w fun e w' => e = .returned (.tuple #[.agg #[.string s, .int .i64 room], .int .i64 0, .string ⟨#[]⟩]) ∧ Below w.heap.size w w' := by
  go_enter Try.func22, Try.ntmps22
  go_wp2_with fail
  obtain ⟨hA, hB, hC, hb⟩ := alloc3 w (.cells #[.string s, .int .i64 room] 46) (.cells #[.int .i64 k, .int .i64 n, .string t] 30) (.cells #[.string s, .int .i64 room] 46)
  refine bodyPost_ret (results_ctt rfl _ _ (w.heap.size + 1 + 1) 46 #[.string s, .int .i64 room] (0, 0) _ rfl hC Try.underlying46 rfl (by kernel_rfl)) rfl ?_
  exact ⟨rfl, hb⟩
set_option maxHeartbeats 2000000 in
theorem do_peek (s t : ByteArray) (room n : Int) (w : World) (hk : s.size + t.size ≤ 1000000) : Calls Try.prog 22 #[.agg #[.string s, .int .i64 room], .agg #[.int .i64 3, .int .i64 n, .string t]] w fun e w' => e = .returned (.tuple #[.agg #[.string s, .int .i64 room], .int .i64 0, .string (s.extract 0 (cutN n s.size))]) ∧ Below w.heap.size w w' := by
  go_enter Try.func22, Try.ntmps22
  go_wp2_with fail
  obtain ⟨hA, hB, hC, hb⟩ := alloc3 w (.cells #[.string s, .int .i64 room] 46) (.cells #[.int .i64 3, .int .i64 n, .string t] 30) (.cells #[.string ⟨#[]⟩, .int .i64 0] 46)
  obtain ⟨q2, hq2⟩ : ∃ q, w.heap.size = q := ⟨_, rfl⟩
  obtain ⟨q3, hq3⟩ : ∃ q, q2 + 1 = q := ⟨_, rfl⟩
  obtain ⟨q4, hq4⟩ : ∃ q, q3 + 1 = q := ⟨_, rfl⟩
  simp only [hq2, hq3, hq4] at hA hB hC ⊢
  generalize World.alloc (World.alloc (World.alloc w _) _) _ = wa at hA hB hC hb ⊢
  have C0 : Aside0 (wa.drew.cell? ⟨q2, 0, none⟩ = some (.string s)) := ⟨(blk_cell (w := wa) hA 0).trans rfl⟩
  have C1 : Aside0 (wa.drew.cell? ⟨q2, 1, none⟩ = some (.int .i64 room)) := ⟨(blk_cell (w := wa) hA 1).trans rfl⟩
  have C2 : Aside0 (wa.drew.cell? ⟨q3, 1, none⟩ = some (.int .i64 n)) := ⟨(blk_cell (w := wa) hB 1).trans rfl⟩
  have HBD : Aside0 (Below wa.heap.size wa wa.drew) := ⟨below_drew1 (Below.refl _ _)⟩
  refine start_ (n := 9) (S := fun w' => w'.cell? ⟨q2, 0, none⟩ = some (.string s) ∧ w'.cell? ⟨q2, 1, none⟩ = some (.int .i64 room) ∧ w'.cell? ⟨q3, 1, none⟩ = some (.int .i64 n)) (ds := []) #[false, false, false, false, false, false, false, false, false] (by kernel_rfl) rfl rfl ⟨C0.out, C1.out, C2.out⟩ (fun hHeld => ?_); refine with_tabW tabDoP bitsDoP (fun HT_ HW_ => ?_)
  generalize wa.drew = wd at C0 C1 C2 HBD hHeld ⊢
  refine pure_ (i := 1) (N := some 54) (v := ?_) (a' := ?_) #[false, true, false, false, false, false, false, false, false] rfl rfl (any_of HT_.out (by kernel_rfl)) (fun _ _ _ h => h) (Or.inl ⟨by rfl, ?_⟩) ?_ ?_
  rotate_left
  · intro w'
    go_simp
    with_reducible rfl
  rotate_left
  · simp only [Act.put, List.setIfInBounds_toArray, List.set_cons_zero, List.set_cons_succ, i64_w, i32_w]
    rfl
  refine pure_ (i := 3) (N := some 56) (v := ?_) (a' := ?_) #[false, true, false, true, false, false, false, false, false] rfl rfl (any_of HT_.out (by kernel_rfl)) (fun _ _ _ h => h) (Or.inl ⟨by rfl, ?_⟩) ?_ ?_
  rotate_left
  · intro w'
    go_simp
    with_reducible rfl
  rotate_left
  · simp only [Act.put, List.setIfInBounds_toArray, List.set_cons_zero, List.set_cons_succ, i64_w, i32_w]
    rfl
  refine take_ (i := 0) (N := some 53) (v := ?_) (a' := ?_) #[true, true, false, true, false, false, false, false, false] rfl rfl (take_ofW HT_.out HW_.out (by kernel_rfl)) (fun _ _ _ h => h) (Or.inl ⟨by rfl, ?_⟩) hHeld ?_ ?_
  rotate_left
  · rintro w' ⟨s0_, s1_, s2_⟩
    go_simp
    with_reducible rfl
  rotate_left
  · simp only [Act.put, List.setIfInBounds_toArray, List.set_cons_zero, List.set_cons_succ, i64_w, i32_w]
    rfl
  refine take_ (i := 2) (N := some 55) (v := ?_) (a' := ?_) #[true, true, true, true, false, false, false, false, false] rfl rfl (take_ofW HT_.out HW_.out (by kernel_rfl)) (fun _ _ _ h => h) (Or.inl ⟨by rfl, ?_⟩) hHeld ?_ ?_
  rotate_left
  · rintro w' ⟨s0_, s1_, s2_⟩
    go_simp
    with_reducible rfl
  rotate_left
  · simp only [Act.put, List.setIfInBounds_toArray, List.set_cons_zero, List.set_cons_succ, i64_w, i32_w]
    rfl
  refine take_ (i := 4) (N := some 57) (v := ?_) (a' := ?_) #[true, true, true, true, true, false, false, false, false] rfl rfl (take_ofW HT_.out HW_.out (by kernel_rfl)) (fun _ _ _ h => h) (Or.inl ⟨by rfl, ?_⟩) hHeld ?_ ?_
  rotate_left
  · rintro w' ⟨s0_, s1_, s2_⟩
    go_simp
    with_reducible rfl
  rotate_left
  · simp only [Act.put, List.setIfInBounds_toArray, List.set_cons_zero, List.set_cons_succ, i64_w, i32_w]
    rfl
  refine one_ (i := 5) (N := some 58) #[true, true, true, true, true, true, false, false, false] rfl rfl (one_of HT_.out (by kernel_rfl)) (by decide) (fun K hK => ?_)
  refine goes_ Try.func28 (by kernel_rfl) rfl #[.string s, .int .i64 n] (by rfl) rfl rfl (by (try simp only [List.map_toArray, List.map_cons, List.map_nil]); first | done | rfl) ?_
  refine (first_calls s n _).mono ?_
  rintro e w4 ⟨rfl, hb4⟩
  have n0_ : Aside0 (w4.cell? ⟨q2, 0, none⟩ = some (.string s)) := Aside0.mk (pw_cell_below hb4 C0.out); clear C0; have C0 := n0_; clear n0_
  have n0_ : Aside0 (w4.cell? ⟨q2, 1, none⟩ = some (.int .i64 room)) := Aside0.mk (pw_cell_below hb4 C1.out); clear C1; have C1 := n0_; clear n0_
  have n0_ : Aside0 (w4.cell? ⟨q3, 1, none⟩ = some (.int .i64 n)) := Aside0.mk (pw_cell_below hb4 C2.out); clear C2; have C2 := n0_; clear n0_
  have n0_ : Aside0 (Below wa.heap.size wa w4) := Aside0.mk (below_step HBD.out hb4); clear HBD; have HBD := n0_; clear n0_
  refine ⟨_, rfl, ?_⟩
  refine hK.out _ _ ⟨C0.out, C1.out, C2.out⟩ (fun hHeld => ?_)
  clear hK K
  refine norm_ (a' := ?_) ?_ ?_
  rotate_left
  · show Act.put _ (some 58) _ = _
    simp only [Act.put, List.setIfInBounds_toArray, List.set_cons_zero, List.set_cons_succ, i64_w, i32_w]
    rfl
  have hA5 := (HBD.out.block q2 (blk_lt hA)).trans hA
  have hC5 := (HBD.out.block q4 (blk_lt hC)).trans hC
  have hd0 : w4.cell? ⟨q4, 0, none⟩ = some (.string ⟨#[]⟩) := (blk_cell hC5 0).trans rfl
  have hd1 : w4.cell? ⟨q4, 1, none⟩ = some (.int .i64 0) := (blk_cell hC5 1).trans rfl
  have hz4 : w4.frozen? ⟨q4, 0, none⟩ = false := blk_frozen hC5 0
  have hz5 : w4.frozen? ⟨q4, 1, none⟩ = false := blk_frozen hC5 1
  refine one_ (i := 6) (N := none) #[true, true, true, true, true, true, true, false, false] rfl rfl (one_of HT_.out (by kernel_rfl)) (by decide) (fun K hK => ?_)
  refine skip_ (w1 := ?_) (by rfl) rfl ?_ ?_
  rotate_left
  · go_simp
    rfl
  have hfar := fun (i : Nat) (x y : Value) (g : Nat) (hg : g ≠ q4) => (Below.heap_setCell (w4.setCell ⟨q4, 0, none⟩ x) ⟨q4, 1, none⟩ y g hg).trans (Below.heap_setCell w4 ⟨q4, 0, none⟩ x g hg)
  have hA6 := (hfar 0 (.string s) (.int .i64 room) q2 (by omega)).trans hA5
  have hB6 := (hfar 0 (.string s) (.int .i64 room) q3 (by omega)).trans ((HBD.out.block q3 (blk_lt hB)).trans hB)
  have hE := blk_put (blk_put hC5 0 (.string s) rfl) 1 (.int .i64 room) rfl
  refine hK.out _ _ ⟨(blk_cell hA6 0).trans rfl, (blk_cell hA6 1).trans rfl, (blk_cell hB6 1).trans rfl⟩ (fun hHeld => ?_)
  clear hK K
  refine pure_ (i := 7) (N := some 5) (v := ?_) (a' := ?_) #[true, true, true, true, true, true, true, true, false] rfl rfl (any_of HT_.out (by kernel_rfl)) (fun _ _ _ h => h) (Or.inl ⟨by rfl, ?_⟩) ?_ ?_
  rotate_left
  · intro w'
    go_simp
    with_reducible rfl
  rotate_left
  · simp only [Act.put, List.setIfInBounds_toArray, List.set_cons_zero, List.set_cons_succ, i64_w, i32_w]
    rfl
  refine pure_ (i := 8) (N := some 6) (v := ?_) (a' := ?_) #[true, true, true, true, true, true, true, true, true] rfl rfl (any_of HT_.out (by kernel_rfl)) (fun _ _ _ h => h) (Or.inl ⟨by rfl, ?_⟩) ?_ ?_
  rotate_left
  · intro w'
    go_simp
    with_reducible rfl
  rotate_left
  · simp only [Act.put, List.setIfInBounds_toArray, List.set_cons_zero, List.set_cons_succ, i64_w, i32_w]
    rfl
  refine done_ (done_of HT_.out (by kernel_rfl)) ?_
  go_wp2_with fail
  refine bodyPost_ret (results_ctt rfl _ _ q4 46 #[.string s, .int .i64 room] (0, 0) _ rfl hE Try.underlying46 rfl (by kernel_rfl)) rfl ?_
  refine ⟨rfl, ?_⟩
  have hbb : Below w.heap.size w w4 := hb.trans (HBD.out.mono hb.size)
  exact Below.setCell (Below.setCell hbb (show w.heap.size ≤ q4 by omega) _) (show w.heap.size ≤ q4 by omega) _
set_option maxHeartbeats 2000000 in
theorem do_read (s t : ByteArray) (room n : Int) (w : World) (hk : s.size + t.size ≤ 1000000) : Calls Try.prog 22 #[.agg #[.string s, .int .i64 room], .agg #[.int .i64 2, .int .i64 n, .string t]] w fun e w' => e = .returned (.tuple #[.agg #[.string (s.extract (cutN n s.size) s.size), .int .i64 room], .int .i64 0, .string (s.extract 0 (cutN n s.size))]) ∧ Below w.heap.size w w' := by
  go_enter Try.func22, Try.ntmps22
  go_wp2_with fail
  obtain ⟨hA, hB, hC, hb⟩ := alloc3 w (.cells #[.string s, .int .i64 room] 46) (.cells #[.int .i64 2, .int .i64 n, .string t] 30) (.cells #[.string ⟨#[]⟩, .int .i64 0] 46)
  obtain ⟨q2, hq2⟩ : ∃ q, w.heap.size = q := ⟨_, rfl⟩
  obtain ⟨q3, hq3⟩ : ∃ q, q2 + 1 = q := ⟨_, rfl⟩
  obtain ⟨q4, hq4⟩ : ∃ q, q3 + 1 = q := ⟨_, rfl⟩
  simp only [hq2, hq3, hq4] at hA hB hC ⊢
  generalize World.alloc (World.alloc (World.alloc w _) _) _ = wa at hA hB hC hb ⊢
  refine (first_calls s n _).mono ?_
  rintro e w4 ⟨rfl, hb4⟩
  have hA5 := (hb4.block q2 (blk_lt hA)).trans hA
  have hC5 := (hb4.block q4 (blk_lt hC)).trans hC
  have hcut := cutN_le n s.size
  have hcs := cut_size n s
  obtain ⟨x, hx⟩ : ∃ x, s.extract 0 (cutN n s.size) = x := ⟨_, rfl⟩
  rw [hx] at hcs ⊢
  obtain ⟨cu, hcu⟩ : ∃ cu, cutN n s.size = cu := ⟨_, rfl⟩
  rw [hcu] at hcut hcs
  have HX := Lib.hid hx
  have HCU := Lib.hid hcu
  clear hx hcu
  have hc0 : w4.cell? ⟨q2, 0, none⟩ = some (.string s) := (blk_cell hA5 0).trans rfl
  have hc1 : w4.cell? ⟨q2, 1, none⟩ = some (.int .i64 room) := (blk_cell hA5 1).trans rfl
  have hz0 : w4.frozen? ⟨q2, 0, none⟩ = false := blk_frozen hA5 0
  have hz4 : w4.frozen? ⟨q4, 0, none⟩ = false := blk_frozen hC5 0
  have hz5 : w4.frozen? ⟨q4, 1, none⟩ = false := blk_frozen hC5 1
  have hC6 := (Below.heap_setCell w4 ⟨q2, 0, none⟩ (.string (s.extract cu s.size)) q4 (show q4 ≠ q2 by omega)).trans hC5
  have he0 : (w4.setCell ⟨q2, 0, none⟩ (.string (s.extract cu s.size))).cell? ⟨q4, 0, none⟩ = some (.string ⟨#[]⟩) := (blk_cell hC6 0).trans rfl
  have he1 : (w4.setCell ⟨q2, 0, none⟩ (.string (s.extract cu s.size))).cell? ⟨q4, 1, none⟩ = some (.int .i64 0) := (blk_cell hC6 1).trans rfl
  have hn24 : q2 ≠ q4 := by omega
  have hn42 : q4 ≠ q2 := by omega
  have hE := blk_put (blk_put hC6 0 (.string (s.extract cu s.size)) rfl) 1 (.int .i64 room) rfl
  have hbb : Below w.heap.size w w4 := hb.trans (hb4.mono hb.size)
  clear hb4 hA hB hC
  go_wp2_with fail
  refine bodyPost_ret (results_ctt rfl _ _ q4 46 #[.string (s.extract cu s.size), .int .i64 room] (0, 0) _ rfl hE Try.underlying46 rfl (by kernel_rfl)) rfl ?_
  have hx := HX.out
  have hcu := HCU.out
  subst hcu hx
  refine ⟨rfl, ?_⟩
  exact Below.setCell (Below.setCell (Below.setCell hbb (show w.heap.size ≤ q2 by omega) _) (show w.heap.size ≤ q4 by omega) _) (show w.heap.size ≤ q4 by omega) _
set_option maxHeartbeats 2000000 in
theorem do_drop (s t : ByteArray) (room n : Int) (w : World) (hk : s.size + t.size ≤ 1000000) : Calls Try.prog 22 #[.agg #[.string s, .int .i64 room], .agg #[.int .i64 4, .int .i64 n, .string t]] w fun e w' => e = .returned (.tuple #[.agg #[.string (s.extract (cutN n s.size) s.size), .int .i64 room], .int .i64 (cutN n s.size : Int), .string ⟨#[]⟩]) ∧ Below w.heap.size w w' := by
  go_enter Try.func22, Try.ntmps22
  go_wp2_with fail
  obtain ⟨hA, hB, hC, hb⟩ := alloc3 w (.cells #[.string s, .int .i64 room] 46) (.cells #[.int .i64 4, .int .i64 n, .string t] 30) (.cells #[.string ⟨#[]⟩, .int .i64 0] 46)
  obtain ⟨q2, hq2⟩ : ∃ q, w.heap.size = q := ⟨_, rfl⟩
  obtain ⟨q3, hq3⟩ : ∃ q, q2 + 1 = q := ⟨_, rfl⟩
  obtain ⟨q4, hq4⟩ : ∃ q, q3 + 1 = q := ⟨_, rfl⟩
  simp only [hq2, hq3, hq4] at hA hB hC ⊢
  generalize World.alloc (World.alloc (World.alloc w _) _) _ = wa at hA hB hC hb ⊢
  refine (first_calls s n _).mono ?_
  rintro e w4 ⟨rfl, hb4⟩
  have hA5 := (hb4.block q2 (blk_lt hA)).trans hA
  have hC5 := (hb4.block q4 (blk_lt hC)).trans hC
  have hcut := cutN_le n s.size
  have hcs := cut_size n s
  obtain ⟨x, hx⟩ : ∃ x, s.extract 0 (cutN n s.size) = x := ⟨_, rfl⟩
  rw [hx] at hcs ⊢
  obtain ⟨cu, hcu⟩ : ∃ cu, cutN n s.size = cu := ⟨_, rfl⟩
  rw [hcu] at hcut hcs
  have HX := Lib.hid hx
  have HCU := Lib.hid hcu
  clear hx hcu
  have hc0 : w4.cell? ⟨q2, 0, none⟩ = some (.string s) := (blk_cell hA5 0).trans rfl
  have hc1 : w4.cell? ⟨q2, 1, none⟩ = some (.int .i64 room) := (blk_cell hA5 1).trans rfl
  have hz0 : w4.frozen? ⟨q2, 0, none⟩ = false := blk_frozen hA5 0
  have hz4 : w4.frozen? ⟨q4, 0, none⟩ = false := blk_frozen hC5 0
  have hz5 : w4.frozen? ⟨q4, 1, none⟩ = false := blk_frozen hC5 1
  have hC6 := (Below.heap_setCell w4 ⟨q2, 0, none⟩ (.string (s.extract cu s.size)) q4 (show q4 ≠ q2 by omega)).trans hC5
  have he0 : (w4.setCell ⟨q2, 0, none⟩ (.string (s.extract cu s.size))).cell? ⟨q4, 0, none⟩ = some (.string ⟨#[]⟩) := (blk_cell hC6 0).trans rfl
  have he1 : (w4.setCell ⟨q2, 0, none⟩ (.string (s.extract cu s.size))).cell? ⟨q4, 1, none⟩ = some (.int .i64 0) := (blk_cell hC6 1).trans rfl
  have hn24 : q2 ≠ q4 := by omega
  have hn42 : q4 ≠ q2 := by omega
  have hE := blk_put (blk_put hC6 0 (.string (s.extract cu s.size)) rfl) 1 (.int .i64 room) rfl
  have hbb : Below w.heap.size w w4 := hb.trans (hb4.mono hb.size)
  clear hb4 hA hB hC
  go_wp2_with fail
  refine bodyPost_ret (results_ctt rfl _ _ q4 46 #[.string (s.extract cu s.size), .int .i64 room] (0, 0) _ rfl hE Try.underlying46 rfl (by kernel_rfl)) rfl ?_
  have hx := HX.out
  have hcu := HCU.out
  subst hcu hx
  refine ⟨rfl, ?_⟩
  exact Below.setCell (Below.setCell (Below.setCell hbb (show w.heap.size ≤ q2 by omega) _) (show w.heap.size ≤ q4 by omega) _) (show w.heap.size ≤ q4 by omega) _
theorem do_calls (s t : ByteArray) (room k n : Int) (w : World) (h0 : 0 ≤ room) (h1 : room ≤ 1000000) (hk : s.size + t.size ≤ 1000000) : Calls Try.prog 22 #[.agg #[.string s, .int .i64 room], .agg #[.int .i64 k, .int .i64 n, .string t]] w fun e w' => e = .returned (.tuple #[.agg #[.string (doT room s k n t).1, .int .i64 room], .int .i64 (doT room s k n t).2.1, .string (doT room s k n t).2.2]) ∧ Below w.heap.size w w' := by
  unfold doT
  by_cases k0 : k = 0
  · subst k0; exact do_write s t room n w h0 h1 hk
  rw [if_neg k0]
  by_cases k1 : k = 1
  · subst k1; exact do_force s t room n w hk
  rw [if_neg k1]
  by_cases k2 : k = 2
  · subst k2; exact do_read s t room n w hk
  rw [if_neg k2]
  by_cases k3 : k = 3
  · subst k3; exact do_peek s t room n w hk
  rw [if_neg k3]
  by_cases k4 : k = 4
  · subst k4; exact do_drop s t room n w hk
  rw [if_neg k4]
  by_cases k5 : k = 5
  · subst k5; exact do_clear s t room n w hk
  rw [if_neg k5]
  exact do_none s t room k n w k0 k1 k2 k3 k4 k5 hk
end Go.Proofs.Ytbplfoanhfmheaa.Hand
