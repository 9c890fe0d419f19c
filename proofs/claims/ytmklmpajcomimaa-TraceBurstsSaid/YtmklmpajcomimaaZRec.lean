import Derived.Test.YtmklmpajcomimaaZCrc
section
/- A record in memory: its numbers, whether it is right. -/
namespace Go.Proofs.Ytmklmpajcomimaa.Hand
open Go.RowKit Go.Proofs.YtmklmpajcomimaaW.PrintWords Go.Proofs.YtmklmpajcomimaaW.PrintLast Go.Proofs.YtmklmpajcomimaaW.PrintMore Go.Proofs.Ytmklmpajcomimaa.PTraceWrites Go.Proofs.Ytmklmpajcomimaa.CrcMath
set_option linter.unusedVariables false
set_option linter.unusedSimpArgs false
def TNums : Bool × List (List Nat × List Nat) := (true, [([], []), ([0], [0]), ([1], [1]), ([], []), ([3], [3]), ([4], [4]), ([], []), ([6], [6]), ([7], [7]), ([], []), ([9], [9]), ([10], [10]), ([], []), ([12], [12]), ([13], [13]), ([2, 5, 8, 11, 14], [2, 5, 8, 11, 14]), ([15, 0, 1, 2, 3, 4, 5, 6, 7, 8, 9, 10, 11, 12, 13, 14, 15], [15])])
def BNums : List Nat := [0, 1, 3, 0, 8, 24, 0, 64, 192, 0, 512, 1536, 0, 4096, 12288, 32767, 65535]
theorem tabNums : rtab .any (opsOf Try.f33 1) = TNums := by kernel_rfl
theorem bitsNums : waitsOk TNums.2 BNums = true := by kernel_rfl
/-- The five pointers. -/
def ptrs (g : Nat) : Array Value := #[.pointer (some ⟨g, 1, none⟩), .pointer (some ⟨g, 2, none⟩), .pointer (some ⟨g, 3, none⟩), .pointer (some ⟨g, 4, none⟩), .pointer (some ⟨g, 5, none⟩)]
set_option maxHeartbeats 8000000 in
set_option maxRecDepth 100000 in
theorem numbers_calls (g : Nat) (w : World) : Calls Try.prog 33 #[.pointer (some ⟨g, 0, none⟩)] w fun e w' => e = .returned (.slice (some ⟨w.heap.size, 0, none⟩) 5 5) ∧ (∃ T, w'.heap[w.heap.size]? = some (.cells (ptrs g) T (0, 0))) ∧ Below w.heap.size w w' := by
  have HB := Lib.hid (Below.refl w.heap.size w)
  go_enter Try.func33, Try.ntmps33
  go_wp2_with fail
  have n0_ := Aside0.mk (below_drew1 HB.out); clear HB; have HB := n0_; clear n0_
  have hsz : w.drew.heap.size = w.heap.size := rfl
  refine start_ (n := 17) (S := fun w' => True) (ds := []) #[false, false, false, false, false, false, false, false, false, false, false, false, false, false, false, false, false] (by kernel_rfl) rfl rfl trivial (fun hHeld => ?_); refine with_tabW tabNums bitsNums (fun HT_ HW_ => ?_)
  generalize w.drew = wd at HB hHeld hsz ⊢
  refine pure_ (i := 0) (N := some 3) (v := ?_) (a' := ?_) #[true, false, false, false, false, false, false, false, false, false, false, false, false, false, false, false, false] rfl rfl (any_of HT_.out (by kernel_rfl)) (fun _ _ _ h => h) (Or.inl ⟨by rfl, ?_⟩) ?_ ?_
  rotate_left
  · intro w'
    go_simp
    with_reducible rfl
  rotate_left
  · simp only [Act.put, List.setIfInBounds_toArray, List.set_cons_zero, List.set_cons_succ, i64_w, i32_w]
    rfl
  refine pure_ (i := 1) (N := some 4) (v := ?_) (a' := ?_) #[true, true, false, false, false, false, false, false, false, false, false, false, false, false, false, false, false] rfl rfl (any_of HT_.out (by kernel_rfl)) (fun _ _ _ h => h) (Or.inl ⟨by rfl, ?_⟩) ?_ ?_
  rotate_left
  · intro w'
    go_simp
    with_reducible rfl
  rotate_left
  · simp only [Act.put, List.setIfInBounds_toArray, List.set_cons_zero, List.set_cons_succ, i64_w, i32_w]
    rfl
  refine pure_ (i := 2) (N := some 5) (v := ?_) (a' := ?_) #[true, true, true, false, false, false, false, false, false, false, false, false, false, false, false, false, false] rfl rfl (any_of HT_.out (by kernel_rfl)) (fun _ _ _ h => h) (Or.inl ⟨by rfl, ?_⟩) ?_ ?_
  rotate_left
  · intro w'
    go_simp
    with_reducible rfl
  rotate_left
  · simp only [Act.put, List.setIfInBounds_toArray, List.set_cons_zero, List.set_cons_succ, i64_w, i32_w]
    rfl
  refine pure_ (i := 3) (N := some 6) (v := ?_) (a' := ?_) #[true, true, true, true, false, false, false, false, false, false, false, false, false, false, false, false, false] rfl rfl (any_of HT_.out (by kernel_rfl)) (fun _ _ _ h => h) (Or.inl ⟨by rfl, ?_⟩) ?_ ?_
  rotate_left
  · intro w'
    go_simp
    with_reducible rfl
  rotate_left
  · simp only [Act.put, List.setIfInBounds_toArray, List.set_cons_zero, List.set_cons_succ, i64_w, i32_w]
    rfl
  refine pure_ (i := 4) (N := some 7) (v := ?_) (a' := ?_) #[true, true, true, true, true, false, false, false, false, false, false, false, false, false, false, false, false] rfl rfl (any_of HT_.out (by kernel_rfl)) (fun _ _ _ h => h) (Or.inl ⟨by rfl, ?_⟩) ?_ ?_
  rotate_left
  · intro w'
    go_simp
    with_reducible rfl
  rotate_left
  · simp only [Act.put, List.setIfInBounds_toArray, List.set_cons_zero, List.set_cons_succ, i64_w, i32_w]
    rfl
  refine pure_ (i := 5) (N := some 8) (v := ?_) (a' := ?_) #[true, true, true, true, true, true, false, false, false, false, false, false, false, false, false, false, false] rfl rfl (any_of HT_.out (by kernel_rfl)) (fun _ _ _ h => h) (Or.inl ⟨by rfl, ?_⟩) ?_ ?_
  rotate_left
  · intro w'
    go_simp
    with_reducible rfl
  rotate_left
  · simp only [Act.put, List.setIfInBounds_toArray, List.set_cons_zero, List.set_cons_succ, i64_w, i32_w]
    rfl
  refine pure_ (i := 6) (N := some 9) (v := ?_) (a' := ?_) #[true, true, true, true, true, true, true, false, false, false, false, false, false, false, false, false, false] rfl rfl (any_of HT_.out (by kernel_rfl)) (fun _ _ _ h => h) (Or.inl ⟨by rfl, ?_⟩) ?_ ?_
  rotate_left
  · intro w'
    go_simp
    with_reducible rfl
  rotate_left
  · simp only [Act.put, List.setIfInBounds_toArray, List.set_cons_zero, List.set_cons_succ, i64_w, i32_w]
    rfl
  refine pure_ (i := 7) (N := some 10) (v := ?_) (a' := ?_) #[true, true, true, true, true, true, true, true, false, false, false, false, false, false, false, false, false] rfl rfl (any_of HT_.out (by kernel_rfl)) (fun _ _ _ h => h) (Or.inl ⟨by rfl, ?_⟩) ?_ ?_
  rotate_left
  · intro w'
    go_simp
    with_reducible rfl
  rotate_left
  · simp only [Act.put, List.setIfInBounds_toArray, List.set_cons_zero, List.set_cons_succ, i64_w, i32_w]
    rfl
  refine pure_ (i := 8) (N := some 11) (v := ?_) (a' := ?_) #[true, true, true, true, true, true, true, true, true, false, false, false, false, false, false, false, false] rfl rfl (any_of HT_.out (by kernel_rfl)) (fun _ _ _ h => h) (Or.inl ⟨by rfl, ?_⟩) ?_ ?_
  rotate_left
  · intro w'
    go_simp
    with_reducible rfl
  rotate_left
  · simp only [Act.put, List.setIfInBounds_toArray, List.set_cons_zero, List.set_cons_succ, i64_w, i32_w]
    rfl
  refine pure_ (i := 9) (N := some 12) (v := ?_) (a' := ?_) #[true, true, true, true, true, true, true, true, true, true, false, false, false, false, false, false, false] rfl rfl (any_of HT_.out (by kernel_rfl)) (fun _ _ _ h => h) (Or.inl ⟨by rfl, ?_⟩) ?_ ?_
  rotate_left
  · intro w'
    go_simp
    with_reducible rfl
  rotate_left
  · simp only [Act.put, List.setIfInBounds_toArray, List.set_cons_zero, List.set_cons_succ, i64_w, i32_w]
    rfl
  refine pure_ (i := 10) (N := some 13) (v := ?_) (a' := ?_) #[true, true, true, true, true, true, true, true, true, true, true, false, false, false, false, false, false] rfl rfl (any_of HT_.out (by kernel_rfl)) (fun _ _ _ h => h) (Or.inl ⟨by rfl, ?_⟩) ?_ ?_
  rotate_left
  · intro w'
    go_simp
    with_reducible rfl
  rotate_left
  · simp only [Act.put, List.setIfInBounds_toArray, List.set_cons_zero, List.set_cons_succ, i64_w, i32_w]
    rfl
  refine pure_ (i := 11) (N := some 14) (v := ?_) (a' := ?_) #[true, true, true, true, true, true, true, true, true, true, true, true, false, false, false, false, false] rfl rfl (any_of HT_.out (by kernel_rfl)) (fun _ _ _ h => h) (Or.inl ⟨by rfl, ?_⟩) ?_ ?_
  rotate_left
  · intro w'
    go_simp
    with_reducible rfl
  rotate_left
  · simp only [Act.put, List.setIfInBounds_toArray, List.set_cons_zero, List.set_cons_succ, i64_w, i32_w]
    rfl
  refine pure_ (i := 12) (N := some 15) (v := ?_) (a' := ?_) #[true, true, true, true, true, true, true, true, true, true, true, true, true, false, false, false, false] rfl rfl (any_of HT_.out (by kernel_rfl)) (fun _ _ _ h => h) (Or.inl ⟨by rfl, ?_⟩) ?_ ?_
  rotate_left
  · intro w'
    go_simp
    with_reducible rfl
  rotate_left
  · simp only [Act.put, List.setIfInBounds_toArray, List.set_cons_zero, List.set_cons_succ, i64_w, i32_w]
    rfl
  refine pure_ (i := 13) (N := some 16) (v := ?_) (a' := ?_) #[true, true, true, true, true, true, true, true, true, true, true, true, true, true, false, false, false] rfl rfl (any_of HT_.out (by kernel_rfl)) (fun _ _ _ h => h) (Or.inl ⟨by rfl, ?_⟩) ?_ ?_
  rotate_left
  · intro w'
    go_simp
    with_reducible rfl
  rotate_left
  · simp only [Act.put, List.setIfInBounds_toArray, List.set_cons_zero, List.set_cons_succ, i64_w, i32_w]
    rfl
  refine pure_ (i := 14) (N := some 17) (v := ?_) (a' := ?_) #[true, true, true, true, true, true, true, true, true, true, true, true, true, true, true, false, false] rfl rfl (any_of HT_.out (by kernel_rfl)) (fun _ _ _ h => h) (Or.inl ⟨by rfl, ?_⟩) ?_ ?_
  rotate_left
  · intro w'
    go_simp
    with_reducible rfl
  rotate_left
  · simp only [Act.put, List.setIfInBounds_toArray, List.set_cons_zero, List.set_cons_succ, i64_w, i32_w]
    rfl
  refine one_ (i := 15) (N := some 18) #[true, true, true, true, true, true, true, true, true, true, true, true, true, true, true, true, false] rfl rfl (one_of HT_.out (by kernel_rfl)) (by decide) (fun K hK => ?_)
  refine value_ (by rfl) rfl (v := ?_) (w1 := ?_) ?_ ?_
  rotate_left 2
  · go_simp
    refine ⟨?_, ?_⟩ <;> with_reducible rfl
  refine hK.out _ _ trivial (fun hHeld => ?_)
  clear hK K
  refine norm_ (a' := ?_) ?_ ?_
  rotate_left
  · show Act.put _ (some 18) _ = _
    simp only [Act.put, List.setIfInBounds_toArray, List.set_cons_zero, List.set_cons_succ, i64_w, i32_w]
    rfl
  refine pure_ (i := 16) (N := some 2) (v := ?_) (a' := ?_) #[true, true, true, true, true, true, true, true, true, true, true, true, true, true, true, true, true] rfl rfl (any_of HT_.out (by kernel_rfl)) (fun _ _ _ h => h) (Or.inl ⟨by rfl, ?_⟩) ?_ ?_
  rotate_left
  · intro w'
    go_simp
    with_reducible rfl
  rotate_left
  · simp only [Act.put, List.setIfInBounds_toArray, List.set_cons_zero, List.set_cons_succ, i64_w, i32_w]
    rfl
  refine done_ (done_of HT_.out (by kernel_rfl)) ?_
  go_wp2_with fail
  go_ret
  have hnew := blk_new wd (.cells #[.pointer (some ⟨g, 1, none⟩), .pointer (some ⟨g, 2, none⟩), .pointer (some ⟨g, 3, none⟩), .pointer (some ⟨g, 4, none⟩), .pointer (some ⟨g, 5, none⟩)] 67)
  rw [hsz] at hnew
  exact ⟨rfl, ⟨_, hnew⟩, below_alloc HB.out _⟩
/-- A record as it is handed. -/
def recV (r : S39) : Value := .agg #[.int .i64 r.f0, .int .i64 r.f1, .int .i64 r.f2, .int .i64 r.f3, .int .i64 r.f4, .int .i64 r.f5, .string r.f6]
def recC (r : S39) : Array Value := #[.int .i64 r.f0, .int .i64 r.f1, .int .i64 r.f2, .int .i64 r.f3, .int .i64 r.f4, .int .i64 r.f5, .string r.f6]
/-- The numbers. -/
def fld (r : S39) : List Int := [r.f1, r.f2, r.f3, r.f4, r.f5]
theorem ptr_cell {w : World} {q g : Nat} {T : TypeId} (h : w.heap[q]? = some (.cells (ptrs g) T (0, 0))) (i : Nat) (hi : i < 5) : w.cell? ⟨q, i, none⟩ = some (.pointer (some ⟨g, i + 1, none⟩)) := by
  refine (blk_cell h i).trans ?_
  match i, hi with
  | 0, _ => rfl
  | 1, _ => rfl
  | 2, _ => rfl
  | 3, _ => rfl
  | 4, _ => rfl
theorem fld_cell {w : World} {g : Nat} {r : S39} {T : TypeId} (h : w.heap[g]? = some (.cells (recC r) T (0, 0))) (i : Nat) (hi : i < 5) : w.cell? ⟨g, i + 1, none⟩ = some (.int .i64 (rd (fld r) (i : Int))) := by
  refine (blk_cell h (i + 1)).trans ?_
  match i, hi with
  | 0, _ => rfl
  | 1, _ => rfl
  | 2, _ => rfl
  | 3, _ => rfl
  | 4, _ => rfl
def inNum (n : Int) : Bool := decide (0 ≤ n ∧ n ≤ 2199023255552)
def rightP (r : S39) : Bool := (fld r).all inNum && (decide (1 ≤ r.f0 ∧ r.f0 ≤ 6) || decide (11 ≤ r.f0 ∧ r.f0 ≤ 14)) && decide (r.f6.size ≤ 65536)
theorem fld_rd (r : S39) (i : Nat) (hi : i < 5) : rd (fld r) (i : Int) ∈ fld r := by
  rw [rd_at (fld r) i hi]
  exact List.getElem_mem ..
theorem right_no {r : S39} {k : Nat} (hk : k < 5) (h : inNum (rd (fld r) (k : Int)) = false) : rightP r = false := by
  have : (fld r).all inNum = false := by
    rw [← Bool.not_eq_true, List.all_eq_true]
    intro ha
    rw [ha _ (fld_rd r k hk)] at h
    cases h
  unfold rightP
  rw [this, Bool.false_and, Bool.false_and]
theorem right_yes {r : S39} (h : ∀ i : Nat, i < 5 → inNum (rd (fld r) (i : Int)) = true) : rightP r = ((decide (1 ≤ r.f0 ∧ r.f0 ≤ 6) || decide (11 ≤ r.f0 ∧ r.f0 ≤ 14)) && decide (r.f6.size ≤ 65536)) := by
  have h0 : inNum r.f1 = true := h 0 (by omega)
  have h1 : inNum r.f2 = true := h 1 (by omega)
  have h2 : inNum r.f3 = true := h 2 (by omega)
  have h3 : inNum r.f4 = true := h 3 (by omega)
  have h4 : inNum r.f5 = true := h 4 (by omega)
  have : (fld r).all inNum = true := by simp [fld, h0, h1, h2, h3, h4]
  unfold rightP
  rw [this, Bool.true_and]
theorem Input_is (k : Int) : trace_Input.f k = some (decide (1 ≤ k ∧ k ≤ 6)) := by
  unfold trace_Input.f
  by_cases h : k ≥ 1
  · rw [if_pos h]; simp [show (1 : Int) ≤ k from h]
  · rw [if_neg h, decide_eq_false (fun e => h e.1)]
set_option maxHeartbeats 8000000 in
set_option maxRecDepth 100000 in
theorem right_calls (r : S39) (w : World) : Calls Try.prog 14 #[recV r] w fun e w' => e = .returned (.bool (rightP r)) ∧ Below w.heap.size w w' := by
  unfold recV
  go_enter Try.func14, Try.ntmps14
  go_wp2_with fail
  have hg1 := blk_new w (.cells (recC r) 41 (0, 0))
  have hb1 := below_alloc (Below.refl w.heap.size w) (.cells (recC r) 41 (0, 0))
  have hsz1 := alloc_size w (.cells (recC r) 41 (0, 0))
  unfold recC at hg1 hb1 hsz1
  generalize w.alloc _ = w1 at hg1 hb1 hsz1 ⊢
  have HB1 := Lib.hid hb1
  clear hb1
  obtain ⟨g, hgg⟩ : ∃ g, w.heap.size = g := ⟨_, rfl⟩
  rw [hgg] at hg1 hsz1 ⊢
  refine (numbers_calls g w1).mono ?_
  rintro e w2 ⟨rfl, ⟨T2, hp2⟩, hb2⟩
  have hg2 : w2.heap[g]? = some (.cells (recC r) 41 (0, 0)) := (hb2.block g (by omega)).trans hg1
  obtain ⟨q, hq⟩ : ∃ q, w1.heap.size = q := ⟨_, rfl⟩
  rw [hq] at hp2 ⊢
  have HB2 := Lib.hid (HB1.out.trans (hb2.mono (by omega)))
  rw [hgg] at HB2
  have HP := Lib.hid (fun i hi => ptr_cell hp2 i hi)
  have HF := Lib.hid (fun i hi => fld_cell hg2 i hi)
  have hk0 : w2.cell? ⟨g, 0, none⟩ = some (.int .i64 r.f0) := (blk_cell hg2 0).trans rfl
  have hk6 : w2.cell? ⟨g, 6, none⟩ = some (.string r.f6) := (blk_cell hg2 6).trans rfl
  have HGB := Lib.hid hg2
  clear hp2 hg2 hb2 hg1 HB1 hsz1 hq
  go_wp2_with fail
  go_loop [4, 7] (fun u4 u7 => ∃ k : Nat, k ≤ 5 ∧ u7 = .int .i64 k ∧ Hid (∀ i : Nat, i < k → inNum (rd (fld r) (i : Int)) = true)) (fun _ u7 => 5 - (intOf u7).toNat)
  case atStart => exact ⟨0, by omega, rfl, Lib.hid (fun i hi => absurd hi (Nat.not_lt_zero i))⟩
  case round =>
    obtain ⟨k, hk, rfl, hall⟩ := hrel
    by_cases hlt : k < 5
    · have hpk := HP.out k hlt
      have hfk := HF.out k hlt
      by_cases h1 : rd (fld r) (k : Int) < 0
      · have hno : rightP r = false := right_no hlt (by simp [inNum]; omega)
        go_wp2_with fail
        go_ret
        exact ⟨rfl, HB2.out⟩
      · by_cases h2 : 2199023255552 < rd (fld r) (k : Int)
        · have hno : rightP r = false := right_no hlt (by simp [inNum]; omega)
          go_wp2_with fail
          go_ret
          exact ⟨rfl, HB2.out⟩
        · have hin : inNum (rd (fld r) (k : Int)) = true := decide_eq_true ⟨by omega, by omega⟩
          have HIN := Lib.hid hin
          clear hin
          go_wp2_with fail
          go_round
          case rel =>
            refine ⟨k + 1, by omega, by go_num, Lib.hid (fun i hi => ?_)⟩
            by_cases e : i = k
            · subst e; exact HIN.out
            · exact hall.out i (by omega)
          case measure => simp [intOf]; omega
    · obtain rfl : k = 5 := by omega
      have hyes := right_yes hall.out
      clear hall
      have HY := Lib.hid hyes
      clear hyes
      obtain ⟨b, hb⟩ : ∃ b, decide (1 ≤ r.f0 ∧ r.f0 ≤ 6) = b := ⟨_, rfl⟩
      have hip := Input_is r.f0
      rw [hb] at hip
      have HIP := Lib.hid hip
      have HBB := Lib.hid hb
      clear hip hb
      go_wp2_with fail
      refine (trace_Input.calls r.f0 b w2 HIP.out).mono ?_
      rintro e w3 ⟨rfl, hd3⟩
      have hlt2 := blk_lt HGB.out
      have hg3 := (hd3.below.block g hlt2).trans HGB.out
      have HB3 := Lib.hid (HB2.out.trans (hd3.below.mono (show g ≤ w2.heap.size by omega)))
      clear hk0 hk6
      have hk0 : w3.cell? ⟨g, 0, none⟩ = some (.int .i64 r.f0) := (blk_cell hg3 0).trans rfl
      have hk6 : w3.cell? ⟨g, 6, none⟩ = some (.string r.f6) := (blk_cell hg3 6).trans rfl
      clear hd3 hg3 HB2 HGB HP HF hlt2
      cases b with
      | true =>
        by_cases h6 : (r.f6.size : Int) ≤ 65536
        · skip
          go_wp2_with fail
          go_ret
          refine ⟨?_, by first | exact HB3.out | (rw [hgg]; exact HB3.out)⟩
          rw [HY.out, HBB.out]
          simp [show r.f6.size ≤ 65536 by omega]
        · skip
          go_wp2_with fail
          go_ret
          refine ⟨?_, by first | exact HB3.out | (rw [hgg]; exact HB3.out)⟩
          rw [HY.out, HBB.out]
          simp [show ¬ r.f6.size ≤ 65536 by omega]; omega
      | false =>
        by_cases h11 : 11 ≤ r.f0
        · by_cases h14 : r.f0 ≤ 14
          · by_cases h6 : (r.f6.size : Int) ≤ 65536
            · skip
              go_wp2_with fail
              go_ret
              refine ⟨?_, by first | exact HB3.out | (rw [hgg]; exact HB3.out)⟩
              rw [HY.out, HBB.out]
              simp [h11, h14, show r.f6.size ≤ 65536 by omega]
            · skip
              go_wp2_with fail
              go_ret
              refine ⟨?_, by first | exact HB3.out | (rw [hgg]; exact HB3.out)⟩
              rw [HY.out, HBB.out]
              simp [h11, h14, show ¬ r.f6.size ≤ 65536 by omega]; omega
          · skip
            go_wp2_with fail
            go_ret
            refine ⟨?_, by first | exact HB3.out | (rw [hgg]; exact HB3.out)⟩
            rw [HY.out, HBB.out]
            simp [h11, h14]; intros; omega
        · skip
          go_wp2_with fail
          go_ret
          refine ⟨?_, by first | exact HB3.out | (rw [hgg]; exact HB3.out)⟩
          rw [HY.out, HBB.out]
          simp [h11]; intros; omega
end Go.Proofs.Ytmklmpajcomimaa.Hand
end

section
/- A record's bytes. -/
namespace Go.Proofs.Ytmklmpajcomimaa.Hand
open Go.RowKit Go.Proofs.YtmklmpajcomimaaW.PrintWords Go.Proofs.YtmklmpajcomimaaW.PrintLast Go.Proofs.YtmklmpajcomimaaW.PrintMore Go.Proofs.Ytmklmpajcomimaa.PTraceWrites Go.Proofs.Ytmklmpajcomimaa.CrcMath
set_option linter.unusedVariables false
set_option linter.unusedSimpArgs false
/-- All blocks but two. -/
def NQ (g q : Nat) : Nat → Prop := fun k => k ≠ g ∧ k ≠ q
theorem put_keeps {w0 w : World} {g q : Nat} (hB : Below w0.heap.size w0 w) (v : Value) (l0 : List Int) (n : Int) (ho : Kd.R (Kd.int .u8) 5 w w0.heap.size (NQ g q) v l0) (hn : n < 9223372036854775808) (hx : l0.length ≤ 140737488355000) (hg : g < w.heap.size) (hq : q < w.heap.size) :
    Calls Try.prog 25 #[v, .int .i64 n] w fun e w' => ∃ v0 : Value, e = .returned v0 ∧ Kd.R (Kd.int .u8) 5 w' w0.heap.size (NQ g q) v0 (l0 ++ num n) ∧ Below w0.heap.size w0 w' ∧ w'.heap[g]? = w.heap[g]? ∧ w'.heap[q]? = w.heap[q]? :=
  (leb_Put.calls 20 (NQ g q) v l0 n (l0 ++ num n) w0 w hB ho (put_is l0 n hn hx)).mono fun e w' ⟨v0, he, hr, hb, hk⟩ => by
    refine ⟨v0, he, Kd.R_mono hr (fun k h => h.elim id (fun h => ⟨by omega, by omega⟩)), hb, ?_, ?_⟩
    · exact hk.2 g hg (fun h => h.1 rfl)
    · exact hk.2 q hq (fun h => h.2 rfl)
/-- The numbers' bytes. -/
def numsP : List Int → List Int
  | [] => []
  | n :: l => num n ++ numsP l
theorem numsP_snoc : ∀ (l : List Int) (n : Int), numsP (l ++ [n]) = numsP l ++ num n
  | [], n => by simp [numsP]
  | a :: l, n => by simp [numsP, numsP_snoc l n]
theorem numsP_len : ∀ l : List Int, (numsP l).length ≤ 9 * l.length
  | [] => by simp [numsP]
  | a :: l => by have := numsP_len l; have := num_len a; simp [numsP]; omega
def bytesP (r : S39) : List Int := (r.f0 % 256) :: (numsP (fld r) ++ num r.f6.size ++ bs r.f6)
theorem right_num {r : S39} (h : rightP r = true) (k : Nat) (hk : k < 5) : 0 ≤ rd (fld r) (k : Int) ∧ rd (fld r) (k : Int) ≤ 2199023255552 := by
  by_cases hn : inNum (rd (fld r) (k : Int)) = true
  · exact of_decide_eq_true hn
  · rw [right_no hk (by simpa using hn)] at h
    cases h
theorem right_size {r : S39} (h : rightP r = true) : r.f6.size ≤ 65536 := by
  unfold rightP at h
  rw [Bool.and_eq_true] at h
  exact of_decide_eq_true h.2
set_option maxHeartbeats 8000000 in
set_option maxRecDepth 100000 in
theorem bytes_calls (r : S39) (w : World) (hr : rightP r = true) : Calls Try.prog 27 #[recV r] w fun e w' => ∃ v : Value, e = .returned v ∧ Kd.R (Kd.int .u8) 5 w' w.heap.size (fun _ => True) v (bytesP r) ∧ Below w.heap.size w w' := by
  unfold recV
  obtain ⟨g, hgg⟩ : ∃ g, w.heap.size = g := ⟨_, rfl⟩
  have hg1 := blk_new w (.cells (recC r) 41 (0, 0))
  have hb1 := below_alloc (Below.refl w.heap.size w) (.cells (recC r) 41 (0, 0))
  have hsz1 := alloc_size w (.cells (recC r) 41 (0, 0))
  obtain ⟨w1, hw1⟩ : ∃ w1, w.alloc (.cells (recC r) 41 (0, 0)) = w1 := ⟨_, rfl⟩
  rw [hw1, hgg] at hg1 hb1 hsz1
  have HG1 := Lib.hid hg1
  have HB1 := Lib.hid hb1
  have hk0 : w1.cell? ⟨g, 0, none⟩ = some (.int .i64 r.f0) := (blk_cell hg1 0).trans rfl
  clear hg1 hb1
  unfold recC at hw1
  go_enter Try.func27, Try.ntmps27
  go_wp2_with ((with_reducible refine gate_dst (N := 9) rfl ?_); refine Kd.R_lit (Kd.int .u8) (w0 := w) w.heap.size 5 ?hg (N := 9) ?hd (xs := ([r.f0 % 256] : List Int)) (inner := [.int .u8 (r.f0 % 256)]) (ok := fun k => k ≠ g) (okp := fun k => k ≠ g) ?hr ?hp (fun _ hk => hk) ?hf ?hB ?hS (by simp) ?_; (case hd => rfl); (case hg => rfl); (case hr => first | (go_simp; done) | (go_simp; rfl)); (case hp => exact (Reps.one (show Kd.M (Kd.int .u8) _ _ _ (r.f0 % 256) [.int .u8 (r.f0 % 256)] from rfl) (Reps.none _ _))); (case hf => (try rw [hw1]); omega); (case hB => (try rw [hw1]); rw [hgg]; exact HB1.out); (case hS => (try rw [hw1]); omega); intro v2 w2 ho2 hb2 hg2 hn2; (try rw [hw1] at hg2 hn2))
  have hk2 := Kept.of_grown hg2 (Kept.refl w1 (fun _ => False)) (fun k h => by cases h)
  have hgb2 : w2.heap[g]? = some (.cells (recC r) 41 (0, 0)) := (hk2.2 g (by omega) id).trans HG1.out
  have hsz2 := hk2.1
  clear hg2 hn2 hk2 hk0
  refine (numbers_calls g w2).mono ?_
  rintro e w3 ⟨rfl, ⟨T3, hp3⟩, hb3⟩
  have hg3 : w3.heap[g]? = some (.cells (recC r) 41 (0, 0)) := (hb3.block g (by omega)).trans hgb2
  obtain ⟨q, hq⟩ : ∃ q, w2.heap.size = q := ⟨_, rfl⟩
  have hr3 : Kd.R (Kd.int .u8) 5 w3 w.heap.size (NQ g q) v2 [r.f0 % 256] := Kd.R_below (Kd.R_mono (Kd.R_bound ho2) (fun k h => ⟨h.1, by omega⟩)) hb3
  rw [hq] at hp3 ⊢
  have hbb3 : Below w.heap.size w w3 := hb2.trans (hb3.mono (by omega))
  have HI : Aside0 (Kd.R (Kd.int .u8) 5 w3 w.heap.size (NQ g q) v2 ((r.f0 % 256) :: numsP ((fld r).take 0))) := Aside0.mk hr3
  have HBB := Aside0.mk hbb3
  have HGB := Aside0.mk hg3
  have HPB := Aside0.mk hp3
  clear hr3 hbb3 hg3 hp3 hb3 hb2 ho2 hgb2 hsz2 hq hsz1
  go_wp2_with fail
  go_loopw [3, 5, 12] (fun u3 u5 u12 wr => ∃ k : Nat, k ≤ 5 ∧ u12 = .int .i64 k ∧ Aside0 (Kd.R (Kd.int .u8) 5 wr w.heap.size (NQ g q) u3 ((r.f0 % 256) :: numsP ((fld r).take k))) ∧ Aside0 (Below w.heap.size w wr) ∧ Aside0 (wr.heap[g]? = some (.cells (recC r) 41 (0, 0))) ∧ Aside0 (wr.heap[q]? = some (.cells (ptrs g) T3 (0, 0)))) (fun _ _ u12 _ => 5 - (intOf u12).toNat)
  case atStart => exact ⟨0, by omega, rfl, HI, HBB, HGB, HPB⟩
  case round =>
    obtain ⟨k, hk, rfl, HR, HB, HG, HP⟩ := hrel
    clear HI HBB HGB HPB
    by_cases hlt : k < 5
    · have hpk := ptr_cell HP.out k hlt
      have hfk := fld_cell HG.out k hlt
      have hgl := blk_lt HG.out
      have hql := blk_lt HP.out
      have hlen : ((r.f0 % 256) :: numsP ((fld r).take k)).length ≤ 140737488355000 := by
        have := numsP_len ((fld r).take k)
        have h5 : ((fld r).take k).length ≤ 5 := by rw [List.length_take]; omega
        rw [List.length_cons]
        omega
      have hmax : rd (fld r) (k : Int) < 9223372036854775808 := by
        have := right_num hr k hlt
        omega
      have hsn : numsP ((fld r).take (k + 1)) = numsP ((fld r).take k) ++ num (rd (fld r) (k : Int)) := by
        rw [List.take_succ_eq_append_getElem (show k < (fld r).length from hlt), numsP_snoc, rd_at (fld r) k hlt]
        rfl
      have hput := fun W hB v ho hg hq => put_keeps (w0 := w) (w := W) (g := g) (q := q) hB v _ _ ho hmax hlen hg hq
      have HPUT := Lib.hid hput
      have HSN := Lib.hid hsn
      clear hput hsn hlen hmax
      go_wp2_with fail
      refine (HPUT.out wr HB.out u3 HR.out hgl hql).mono ?_
      rintro e w5 ⟨v5, rfl, hr5, hb5, hg5, hq5⟩
      rw [List.cons_append, ← HSN.out] at hr5
      have HR5 := Aside0.mk hr5
      have HB5 := Aside0.mk hb5
      have HG5 := Aside0.mk (hg5.trans HG.out)
      have HP5 := Aside0.mk (hq5.trans HP.out)
      clear hr5 hb5 hg5 hq5 HPUT HSN
      go_wp2_with fail
      go_round
      case rel => exact ⟨k + 1, by omega, by go_num, HR5, HB5, HG5, HP5⟩
      case measure => simp [intOf]; omega
    · obtain rfl : k = 5 := by omega
      have htk : (fld r).take 5 = fld r := rfl
      have hr0 := HR.out
      rw [htk] at hr0
      have hsz := right_size hr
      have hlen : ((r.f0 % 256) :: numsP (fld r)).length ≤ 100000000 := by
        have := numsP_len (fld r)
        have h5 : (fld r).length = 5 := rfl
        rw [List.length_cons]
        omega
      have hstr := strput_calls HB.out u3 _ r.f6 (Kd.R_mono hr0 (fun _ _ => trivial)) (by omega) hlen
      have HSTR := Lib.hid hstr
      have hk6 : wr.cell? ⟨g, 6, none⟩ = some (.string r.f6) := (blk_cell HG.out 6).trans rfl
      clear hstr hlen hsz hr0 htk
      go_wp2_with fail
      refine HSTR.out.mono ?_
      rintro e w6 ⟨v6, rfl, hr6, hb6⟩
      go_wp2_with fail
      go_ret
      exact ⟨_, rfl, hr6, hb6⟩
end Go.Proofs.Ytmklmpajcomimaa.Hand
end

section
/- Whether one of the records is wrong. -/
namespace Go.Proofs.Ytmklmpajcomimaa.Hand
open Go.RowKit Go.Proofs.YtmklmpajcomimaaW.PrintWords Go.Proofs.YtmklmpajcomimaaW.PrintLast Go.Proofs.YtmklmpajcomimaaW.PrintMore Go.Proofs.Ytmklmpajcomimaa.PTraceWrites Go.Proofs.Ytmklmpajcomimaa.CrcMath
set_option linter.unusedVariables false
set_option linter.unusedSimpArgs false
set_option maxHeartbeats 8000000 in
set_option maxRecDepth 100000 in
theorem wrong_calls (r : S39) (w : World) : Calls Try.prog 22 #[recV r] w fun e w' => e = .returned (.bool (!rightP r)) ∧ Below w.heap.size w w' := by
  have hri := fun W => right_calls r W
  unfold recV at hri ⊢
  have HRI := Lib.hid hri
  have hb1 := below_alloc (Below.refl w.heap.size w) (.cells (recC r) 41 (0, 0))
  unfold recC at hb1
  clear hri
  go_enter Try.func22, Try.ntmps22
  go_wp2_with fail
  generalize w.alloc _ = w1 at hb1 ⊢
  refine (HRI.out w1).mono ?_
  rintro e w2 ⟨rfl, hb2⟩
  have HB2 := Lib.hid (below_step hb1 hb2)
  go_wp2_with fail
  go_ret
  exact ⟨rfl, HB2.out⟩
theorem rd39_at (l : List S39) (k : Nat) (h : k < l.length) : rd_T39 l (k : Int) = l[k] := by
  unfold rd_T39
  rw [Int.toNat_natCast, List.getD_eq_getElem?_getD, List.getElem?_eq_getElem h]
  rfl
theorem all_no {l : List S39} {k : Nat} (hk : k < l.length) (h : rightP (rd_T39 l (k : Int)) = false) : l.all rightP = false := by
  rw [← Bool.not_eq_true, List.all_eq_true]
  intro ha
  rw [rd39_at l k hk, ha _ (List.getElem_mem hk)] at h
  cases h
theorem all_yes {l : List S39} (h : ∀ i : Nat, i < l.length → rightP (rd_T39 l (i : Int)) = true) : l.all rightP = true := by
  rw [List.all_eq_true]
  intro x hx
  obtain ⟨i, hi, rfl⟩ := List.getElem_of_mem hx
  rw [← rd39_at l i hi]
  exact h i hi
set_option maxHeartbeats 8000000 in
set_option maxRecDepth 100000 in
theorem index_calls (A : Option Addr) (c : Nat) (l : List S39) (w : World) (hr : Kd.C k39 w A l.length l) (hc : l.length ≤ c) (hl : l.length ≤ 100000000) : Calls Try.prog 36 #[.slice A l.length c, .func (.func 22) #[] #[]] w fun e w' => ∃ i : Int, e = .returned (.int .i64 i) ∧ (i ≥ 0 ↔ l.all rightP = false) ∧ Below w.heap.size w w' := by
  have HR := Lib.hid hr
  clear hr
  go_enter Try.func36, Try.ntmps36
  go_wp2_with fail
  go_loopw [5, 8] (fun u5 u8 wr => ∃ k : Nat, k ≤ l.length ∧ u8 = .int .i64 k ∧ Aside0 (∀ i : Nat, i < k → rightP (rd_T39 l (i : Int)) = true) ∧ Aside0 (Below w.heap.size w wr)) (fun _ u8 _ => l.length - (intOf u8).toNat)
  case atStart => exact ⟨0, Nat.zero_le _, rfl, Aside0.mk (fun i hi => absurd hi (Nat.not_lt_zero i)), Aside0.mk (Below.refl _ _)⟩
  case round =>
    obtain ⟨k, hk, rfl, hall, HB⟩ := hrel
    by_cases hlt : k < l.length
    · obtain ⟨ad, rfl, h0, h1, h2, h3, h4, h5, h6⟩ := at_T39 (Kd.C_below HR.out HB.out) (k : Int) (by omega) (by omega)
      simp only [Int.toNat_natCast] at h0 h1 h2 h3 h4 h5 h6
      obtain ⟨r, hrr⟩ : ∃ r, rd_T39 l (k : Int) = r := ⟨_, rfl⟩
      rw [hrr] at h0 h1 h2 h3 h4 h5 h6
      have hwr := wrong_calls r
      unfold recV at hwr
      cases hq : rightP r with
      | false =>
        rw [hq] at hwr
        have HWR := Lib.hid hwr
        have hno := all_no hlt (by rw [hrr]; exact hq)
        have HNO := Lib.hid hno
        clear hwr hq hno hrr
        go_wp2_with fail
        refine (HWR.out wr).mono ?_
        rintro e w2 ⟨rfl, hb2⟩
        have HB2 := Lib.hid (below_step HB.out hb2)
        clear hb2
        go_wp2_with fail
        go_ret
        exact ⟨(k : Int), rfl, ⟨fun _ => HNO.out, fun _ => Int.natCast_nonneg k⟩, HB2.out⟩
      | true =>
        rw [hq] at hwr
        have HWR := Lib.hid hwr
        have hal : Aside0 (∀ i : Nat, i < k + 1 → rightP (rd_T39 l (i : Int)) = true) := Aside0.mk (fun i hi => by
          by_cases e : i = k
          · subst e; rw [hrr]; exact hq
          · exact hall.out i (by omega))
        clear hwr hq hrr hall
        go_wp2_with fail
        refine (HWR.out wr).mono ?_
        rintro e w2 ⟨rfl, hb2⟩
        have HB2 := Aside0.mk (below_step HB.out hb2)
        clear hb2
        go_wp2_with fail
        go_round
        case rel => exact ⟨k + 1, by omega, by go_num, hal, HB2⟩
        case measure => simp [intOf]; omega
    · obtain rfl : k = l.length := by omega
      have hyes := all_yes hall.out
      have HY := Lib.hid hyes
      clear hyes hall
      go_wp2_with fail
      go_ret
      exact ⟨_, rfl, ⟨fun h => absurd h (by decide), fun h => by rw [HY.out] at h; cases h⟩, HB.out⟩
theorem contains_calls (A : Option Addr) (c : Nat) (l : List S39) (w : World) (hr : Kd.C k39 w A l.length l) (hc : l.length ≤ c) (hl : l.length ≤ 100000000) : Calls Try.prog 21 #[.slice A l.length c, .func (.func 22) #[] #[]] w fun e w' => e = .returned (.bool (!l.all rightP)) ∧ Below w.heap.size w w' := by
  have hix := index_calls A c l w hr hc hl
  have HIX := Lib.hid hix
  clear hix hr
  go_enter Try.func21, Try.ntmps21
  go_wp2_with fail
  refine HIX.out.mono ?_
  rintro e w2 ⟨i, rfl, hi, hb2⟩
  cases hal : l.all rightP with
  | true =>
    have hd : decide (i ≥ 0) = false := decide_eq_false (fun h => by rw [hi.1 h] at hal; cases hal)
    have HB2 := Lib.hid hb2
    clear hi hb2
    go_wp2_with fail
    go_ret
    rw [hal]
    exact ⟨by simp [hd], HB2.out⟩
  | false =>
    have hd : decide (i ≥ 0) = true := decide_eq_true (hi.2 hal)
    have HB2 := Lib.hid hb2
    clear hi hb2
    go_wp2_with fail
    go_ret
    rw [hal]
    exact ⟨by simp [hd], HB2.out⟩
end Go.Proofs.Ytmklmpajcomimaa.Hand
end
