/- The walks of LebOne and LebSizes. -/
import Derived.Test.YteencbkopkpelaaLeb4
namespace Go.Proofs.Yteencbkopkpelaa.Hand
open Go.RowKit Go.Proofs.YteencbkopkpelaaW.PrintWords Go.Proofs.YteencbkopkpelaaW.PrintLast Go.Proofs.YteencbkopkpelaaW.PrintMore Go.Proofs.Yteencbkopkpelaa.PLebReads
set_option linter.unusedVariables false
set_option linter.unusedSimpArgs false
def TOne : Bool × List (List Nat × List Nat) := (true, [([], []), ([0, 0], [0]), ([1], [1]), ([1], [1]), ([3, 1], [1, 3]), ([2, 4, 1], [1, 2, 4]), ([1, 5], [1, 5]), ([6, 1], [6]), ([7], [7]), ([8, 7], [7, 8]), ([7, 9], [7, 9]), ([10, 7], [10]), ([11], [11]), ([12, 11], [11, 12]), ([11, 13], [11, 13]), ([14, 11], [14]), ([15], [15]), ([16, 15, 15], [15, 16]), ([17, 15], [15, 17]), ([15], [15]), ([15], [15]), ([19, 20, 15], [15, 19, 20]), ([21, 15], [15, 21]), ([18, 22, 15], [15, 18, 22]), ([15, 23], [15, 23]), ([24, 17, 0, 1, 2, 3, 4, 5, 6, 7, 8, 9, 10, 11, 12, 13, 14, 15, 16, 17, 18, 19, 20, 21, 22, 23, 24], [24])])
def BOne : List Nat := [0, 1, 3, 3, 11, 31, 63, 127, 255, 511, 1023, 2047, 4095, 8191, 16383, 32767, 65535, 131071, 262143, 65535, 65535, 1638399, 3735551, 8388607, 16777215, 33554431]
theorem tabOne : rtab .any (opsOf Try.f4 4) = TOne := by kernel_rfl
theorem bitsOne : waitsOk TOne.2 BOne = true := by kernel_rfl
theorem numL_mono : ∀ (k : Nat) (a b : Int), 0 ≤ a → a ≤ b → (numL k a).length ≤ (numL k b).length
  | 0, a, b, h0, h1 => by simp [numL]
  | k + 1, a, b, h0, h1 => by
    have h2 := (numL_len (k + 1) b).1
    have ih := numL_mono k (a / 128) (b / 128) (by omega) (by omega)
    rw [numL]
    by_cases ha : a < 128
    · rw [if_pos ha]; exact h2
    · rw [if_neg ha, numL, if_neg (by omega)]; simpa using ih
theorem numL_fuel : ∀ (k : Nat) (b : Int), 0 ≤ b → b < 128 ^ (k + 1) → numL (k + 1) b = numL k b
  | 0, b, h0, h1 => by
    have h1' : b < 128 := h1
    simp [numL, h1']
  | k + 1, b, h0, h1 => by
    have hp : (128 : Int) ^ (k + 1 + 1) = 128 ^ (k + 1) * 128 := Int.pow_succ ..
    have ih := numL_fuel k (b / 128) (by omega) (by rw [hp] at h1; omega)
    rw [numL]
    conv => rhs; rw [numL]
    by_cases hb : b < 128
    · rw [if_pos hb, if_pos hb]
    · rw [if_neg hb, if_neg hb, ih]
theorem num_lens (a b : Int) (h0 : 0 ≤ a) (h1 : a ≤ b) : 1 ≤ (num a).length ∧ (num a).length ≤ (num b).length ∧ (num b).length ≤ 9 := by
  have e1 : num a = numL 8 a := if_neg (by omega)
  have e2 : num b = numL 8 b := if_neg (by omega)
  have := num_len b
  rw [e2] at this ⊢
  rw [e1]
  exact ⟨(numL_len 8 a).1, numL_mono 8 a b h0 h1, this⟩
theorem num_shift (b : Int) (h0 : 0 < b) (h1 : b ≤ 36028797018963968) : (num (b * 128)).length = (num b).length + 1 := by
  have hp : (128 : Int) ^ 8 = 72057594037927936 := by decide
  have e1 : num (b * 128) = numL 8 (b * 128) := if_neg (by omega)
  have e2 : num b = numL 8 b := if_neg (by omega)
  rw [e1, e2, numL_fuel 7 b (by omega) (by rw [hp]; omega), numL, if_neg (by omega), show b * 128 / 128 = b by omega]
  rfl
theorem putnil (w : World) (n : Int) (hn : n < 9223372036854775808) : Calls Try.prog 19 #[.slice none 0 0, .int .i64 n] w fun e w' => ∃ A c, e = .returned (.slice A (num n).length c) ∧ (num n).length ≤ c ∧ Kd.C (Kd.int .u8) w' A (num n).length (num n) ∧ Below w.heap.size w w' := by
  refine (put_calls (Below.refl w.heap.size w) (.slice none 0 0) [] n (Kd.R_nil _ _ _ _ _) hn (by simp)).mono ?_
  rintro e w8 ⟨v8, rfl, hr8, hb8⟩
  rw [List.nil_append] at hr8
  obtain ⟨A8, c8, rfl, hl8, hC8⟩ := Kd.R_reads hr8
  exact ⟨A8, c8, rfl, hl8, hC8, hb8⟩
theorem one_none (A : Option Addr) (c : Nat) (l : List Int) (w : World) (hr : Kd.C (Kd.int .u8) w A l.length l) (hc : l.length ≤ c) (hb : Bytes l) (hl : l.length ≤ 140737488355000) (h : (getP l).2 = 0) : Calls Try.prog 4 #[.slice A l.length c] w fun e w' => e = .returned (.bool true) ∧ Below w.heap.size w w' := by
  obtain ⟨n, k, hg⟩ : ∃ n k, getP l = (n, k) := ⟨_, _, rfl⟩
  have hf := getP_facts hg
  have hgi := get_is l hb hl
  rw [hg] at hgi h
  simp only at h
  subst h
  obtain rfl := hf.2.2.2.2.2 rfl
  have HR := Lib.hid hr
  have HG := Lib.hid hgi
  clear hr hgi hf hg
  go_enter Try.func4, Try.ntmps4
  go_wp2_with fail
  refine (leb_Get.calls 50 A c l 0 ((0 : Nat) : Int) w HR.out hc HG.out).mono ?_
  rintro e w1 ⟨rfl, hb1⟩
  have HB := Lib.hid hb1
  clear hb1
  go_wp2_with fail
  refine (alive_calls _).mono ?_
  rintro e w2 ⟨rfl, hb2⟩
  go_wp2_with fail
  go_ret
  exact ⟨rfl, below_step HB.out hb2⟩
set_option maxHeartbeats 4000000 in
set_option maxRecDepth 100000 in
theorem one_some (A : Option Addr) (c : Nat) (l : List Int) (w : World) (hr : Kd.C (Kd.int .u8) w A l.length l) (hc : l.length ≤ c) (hb : Bytes l) (hl : l.length ≤ 140737488355000) (h : (getP l).2 ≠ 0) : Calls Try.prog 4 #[.slice A l.length c] w fun e w' => e = .returned (.bool true) ∧ Below w.heap.size w w' := by
  obtain ⟨n, k, hg⟩ : ∃ n k, getP l = (n, k) := ⟨_, _, rfl⟩
  have hf := getP_facts hg
  have hgi := get_is l hb hl
  rw [hg] at hgi h
  simp only at h
  obtain ⟨hk1, hk2, hn0, hn1, hnum, _⟩ := hf
  have hnum := hnum h
  have hkz : ((k : Int) == 0) = false := beq_eq_false_iff_ne.mpr (by omega)
  have hcv : ∀ W, Below w.heap.size w W → (convert 22 9 (.slice A k c)).run Try.prog W = .ok (.string (strOfNums (l.take k))) W := fun W hW => by
    have := Kd.C_string (P := Try.prog) (src := 22) (dst := 9) (c := c) Try.underlying22 Try.underlying5 Try.underlying9 (Kd.C_below (Kd.C_take hr hk1) hW)
    rw [List.length_take, Nat.min_eq_left hk1] at this
    exact this
  have HCV := Lib.hid hcv
  have HN := Lib.hid hnum
  have HLK : Hid ((l.take k).length = k) := Lib.hid (by rw [List.length_take]; omega)
  have HR := Lib.hid hr
  have HG := Lib.hid hgi
  obtain ⟨s0, hs0⟩ : ∃ s0, w.heap.size = s0 := ⟨_, rfl⟩
  have HS := Lib.hid hs0
  clear hr hgi hg hcv hnum h hs0
  go_enter Try.func4, Try.ntmps4
  go_wp2_with fail
  refine (leb_Get.calls 50 A c l n (k : Int) w HR.out hc HG.out).mono ?_
  rintro e w1 ⟨rfl, hb1⟩
  have HB := Lib.hid hb1
  clear hb1
  go_wp2_with fail
  have HBD : Aside0 (Below w.heap.size w w1.drew) := ⟨below_drew1 HB.out⟩
  obtain ⟨X, hX⟩ : ∃ X, strOfNums (l.take k) = X := ⟨_, rfl⟩
  have HX := Lib.hid hX
  clear hX
  have hkc : k ≤ c := by omega
  have d1 : decide (k ≤ l.length) = true := decide_eq_true hk1
  have d1' : decide ((k : Int) ≤ (l.length : Int)) = true := decide_eq_true (by omega)
  have d2 : decide ((k : Int) ≤ 9) = true := decide_eq_true (by omega)
  have d2' : decide (k ≤ 9) = true := decide_eq_true hk2
  have d3 : decide (0 ≤ n) = true := decide_eq_true hn0
  refine start_ (n := 26) (S := fun w' => (convert 22 9 (.slice A k c)).run Try.prog w' = .ok (.string X) w') (ds := []) #[false, false, false, false, false, false, false, false, false, false, false, false, false, false, false, false, false, false, false, false, false, false, false, false, false, false] (by kernel_rfl) rfl rfl (by rw [← HX.out]; exact HCV.out _ HBD.out) (fun hHeld => ?_); refine with_tabW tabOne bitsOne (fun HT_ HW_ => ?_)
  generalize w1.drew = wd at HBD hHeld ⊢
  refine one_ (i := 0) (N := some 17) #[true, false, false, false, false, false, false, false, false, false, false, false, false, false, false, false, false, false, false, false, false, false, false, false, false, false] rfl rfl (one_of HT_.out (by kernel_rfl)) (by decide) (fun K hK => ?_)
  refine goes_ Try.func8 (by kernel_rfl) rfl #[] (by rfl) rfl rfl (by (try simp only [List.map_toArray, List.map_cons, List.map_nil]); first | done | rfl) ?_
  refine (alive_calls _).mono ?_
  rintro e w2 ⟨rfl, hb2⟩
  have n0_ := Aside0.mk (below_step HBD.out hb2); clear HBD; have HBD := n0_; clear n0_ hb2
  refine ⟨_, rfl, ?_⟩
  refine hK.out _ _ (by rw [← HX.out]; exact HCV.out _ HBD.out) (fun hHeld => ?_)
  clear hK K
  refine norm_ (a' := ?_) ?_ ?_
  rotate_left
  · show Act.put _ (some 17) _ = _
    simp only [Act.put, List.setIfInBounds_toArray, List.set_cons_zero, List.set_cons_succ, i64_w, i32_w]
    rfl
  refine pure_ (i := 1) (N := some 18) (v := ?_) (a' := ?_) #[true, true, false, false, false, false, false, false, false, false, false, false, false, false, false, false, false, false, false, false, false, false, false, false, false, false] rfl rfl (any_of HT_.out (by kernel_rfl)) (fun _ _ _ h => h) (Or.inl ⟨by rfl, ?_⟩) ?_ ?_
  rotate_left
  · intro w'
    go_simp
    with_reducible rfl
  rotate_left
  · simp only [Act.put, List.setIfInBounds_toArray, List.set_cons_zero, List.set_cons_succ, i64_w, i32_w]
    rfl
  refine pure_ (i := 2) (N := some 19) (v := ?_) (a' := ?_) #[true, true, true, false, false, false, false, false, false, false, false, false, false, false, false, false, false, false, false, false, false, false, false, false, false, false] rfl rfl (any_of HT_.out (by kernel_rfl)) (fun _ _ _ h => h) (Or.inl ⟨by rfl, ?_⟩) ?_ ?_
  rotate_left
  · intro w'
    go_simp
    with_reducible rfl
  rotate_left
  · simp only [Act.put, List.setIfInBounds_toArray, List.set_cons_zero, List.set_cons_succ, i64_w, i32_w]
    rfl
  refine pure_ (i := 3) (N := some 20) (v := ?_) (a' := ?_) #[true, true, true, true, false, false, false, false, false, false, false, false, false, false, false, false, false, false, false, false, false, false, false, false, false, false] rfl rfl (any_of HT_.out (by kernel_rfl)) (fun _ _ _ h => h) (Or.inl ⟨by rfl, ?_⟩) ?_ ?_
  rotate_left
  · intro w'
    go_simp
    with_reducible rfl
  rotate_left
  · simp only [Act.put, List.setIfInBounds_toArray, List.set_cons_zero, List.set_cons_succ, i64_w, i32_w]
    rfl
  refine pure_ (i := 4) (N := some 21) (v := ?_) (a' := ?_) #[true, true, true, true, true, false, false, false, false, false, false, false, false, false, false, false, false, false, false, false, false, false, false, false, false, false] rfl rfl (any_of HT_.out (by kernel_rfl)) (fun _ _ _ h => h) (Or.inl ⟨by rfl, ?_⟩) ?_ ?_
  rotate_left
  · intro w'
    go_simp
    with_reducible rfl
  rotate_left
  · simp only [Act.put, List.setIfInBounds_toArray, List.set_cons_zero, List.set_cons_succ, i64_w, i32_w]
    rfl
  refine pure_ (i := 5) (N := some 22) (v := ?_) (a' := ?_) #[true, true, true, true, true, true, false, false, false, false, false, false, false, false, false, false, false, false, false, false, false, false, false, false, false, false] rfl rfl (any_of HT_.out (by kernel_rfl)) (fun _ _ _ h => h) (Or.inl ⟨by rfl, ?_⟩) ?_ ?_
  rotate_left
  · intro w'
    go_simp
    with_reducible rfl
  rotate_left
  · simp only [Act.put, List.setIfInBounds_toArray, List.set_cons_zero, List.set_cons_succ, i64_w, i32_w]
    rfl
  refine pure_ (i := 6) (N := some 23) (v := ?_) (a' := ?_) #[true, true, true, true, true, true, true, false, false, false, false, false, false, false, false, false, false, false, false, false, false, false, false, false, false, false] rfl rfl (any_of HT_.out (by kernel_rfl)) (fun _ _ _ h => h) (Or.inl ⟨by rfl, ?_⟩) ?_ ?_
  rotate_left
  · intro w'
    go_simp
    with_reducible rfl
  rotate_left
  · simp only [Act.put, List.setIfInBounds_toArray, List.set_cons_zero, List.set_cons_succ, i64_w, i32_w]
    rfl
  refine pure_ (i := 7) (N := some 24) (v := ?_) (a' := ?_) #[true, true, true, true, true, true, true, true, false, false, false, false, false, false, false, false, false, false, false, false, false, false, false, false, false, false] rfl rfl (any_of HT_.out (by kernel_rfl)) (fun _ _ _ h => h) (Or.inl ⟨by rfl, ?_⟩) ?_ ?_
  rotate_left
  · intro w'
    go_simp
    with_reducible rfl
  rotate_left
  · simp only [Act.put, List.setIfInBounds_toArray, List.set_cons_zero, List.set_cons_succ, i64_w, i32_w]
    rfl
  refine pure_ (i := 8) (N := some 25) (v := ?_) (a' := ?_) #[true, true, true, true, true, true, true, true, true, false, false, false, false, false, false, false, false, false, false, false, false, false, false, false, false, false] rfl rfl (any_of HT_.out (by kernel_rfl)) (fun _ _ _ h => h) (Or.inl ⟨by rfl, ?_⟩) ?_ ?_
  rotate_left
  · intro w'
    go_simp
    with_reducible rfl
  rotate_left
  · simp only [Act.put, List.setIfInBounds_toArray, List.set_cons_zero, List.set_cons_succ, i64_w, i32_w]
    rfl
  refine pure_ (i := 9) (N := some 26) (v := ?_) (a' := ?_) #[true, true, true, true, true, true, true, true, true, true, false, false, false, false, false, false, false, false, false, false, false, false, false, false, false, false] rfl rfl (any_of HT_.out (by kernel_rfl)) (fun _ _ _ h => h) (Or.inl ⟨by rfl, ?_⟩) ?_ ?_
  rotate_left
  · intro w'
    go_simp
    with_reducible rfl
  rotate_left
  · simp only [Act.put, List.setIfInBounds_toArray, List.set_cons_zero, List.set_cons_succ, i64_w, i32_w]
    rfl
  refine pure_ (i := 10) (N := some 27) (v := ?_) (a' := ?_) #[true, true, true, true, true, true, true, true, true, true, true, false, false, false, false, false, false, false, false, false, false, false, false, false, false, false] rfl rfl (any_of HT_.out (by kernel_rfl)) (fun _ _ _ h => h) (Or.inl ⟨by rfl, ?_⟩) ?_ ?_
  rotate_left
  · intro w'
    go_simp
    with_reducible rfl
  rotate_left
  · simp only [Act.put, List.setIfInBounds_toArray, List.set_cons_zero, List.set_cons_succ, i64_w, i32_w]
    rfl
  refine pure_ (i := 11) (N := some 28) (v := ?_) (a' := ?_) #[true, true, true, true, true, true, true, true, true, true, true, true, false, false, false, false, false, false, false, false, false, false, false, false, false, false] rfl rfl (any_of HT_.out (by kernel_rfl)) (fun _ _ _ h => h) (Or.inl ⟨by rfl, ?_⟩) ?_ ?_
  rotate_left
  · intro w'
    go_simp
    with_reducible rfl
  rotate_left
  · simp only [Act.put, List.setIfInBounds_toArray, List.set_cons_zero, List.set_cons_succ, i64_w, i32_w]
    rfl
  refine pure_ (i := 12) (N := some 29) (v := ?_) (a' := ?_) #[true, true, true, true, true, true, true, true, true, true, true, true, true, false, false, false, false, false, false, false, false, false, false, false, false, false] rfl rfl (any_of HT_.out (by kernel_rfl)) (fun _ _ _ h => h) (Or.inl ⟨by rfl, ?_⟩) ?_ ?_
  rotate_left
  · intro w'
    go_simp
    with_reducible rfl
  rotate_left
  · simp only [Act.put, List.setIfInBounds_toArray, List.set_cons_zero, List.set_cons_succ, i64_w, i32_w]
    rfl
  refine pure_ (i := 13) (N := some 30) (v := ?_) (a' := ?_) #[true, true, true, true, true, true, true, true, true, true, true, true, true, true, false, false, false, false, false, false, false, false, false, false, false, false] rfl rfl (any_of HT_.out (by kernel_rfl)) (fun _ _ _ h => h) (Or.inl ⟨by rfl, ?_⟩) ?_ ?_
  rotate_left
  · intro w'
    go_simp
    with_reducible rfl
  rotate_left
  · simp only [Act.put, List.setIfInBounds_toArray, List.set_cons_zero, List.set_cons_succ, i64_w, i32_w]
    rfl
  refine pure_ (i := 14) (N := some 31) (v := ?_) (a' := ?_) #[true, true, true, true, true, true, true, true, true, true, true, true, true, true, true, false, false, false, false, false, false, false, false, false, false, false] rfl rfl (any_of HT_.out (by kernel_rfl)) (fun _ _ _ h => h) (Or.inl ⟨by rfl, ?_⟩) ?_ ?_
  rotate_left
  · intro w'
    go_simp
    with_reducible rfl
  rotate_left
  · simp only [Act.put, List.setIfInBounds_toArray, List.set_cons_zero, List.set_cons_succ, i64_w, i32_w]
    rfl
  refine pure_ (i := 15) (N := some 32) (v := ?_) (a' := ?_) #[true, true, true, true, true, true, true, true, true, true, true, true, true, true, true, true, false, false, false, false, false, false, false, false, false, false] rfl rfl (any_of HT_.out (by kernel_rfl)) (fun _ _ _ h => h) (Or.inl ⟨by rfl, ?_⟩) ?_ ?_
  rotate_left
  · intro w'
    go_simp
    with_reducible rfl
  rotate_left
  · simp only [Act.put, List.setIfInBounds_toArray, List.set_cons_zero, List.set_cons_succ, i64_w, i32_w]
    rfl
  refine pure_ (i := 16) (N := some 33) (v := ?_) (a' := ?_) #[true, true, true, true, true, true, true, true, true, true, true, true, true, true, true, true, true, false, false, false, false, false, false, false, false, false] rfl rfl (any_of HT_.out (by kernel_rfl)) (fun _ _ _ h => h) (Or.inl ⟨by rfl, ?_⟩) ?_ ?_
  rotate_left
  · intro w'
    go_simp
    with_reducible rfl
  rotate_left
  · simp only [Act.put, List.setIfInBounds_toArray, List.set_cons_zero, List.set_cons_succ, i64_w, i32_w]
    rfl
  refine pure_ (i := 19) (N := some 36) (v := ?_) (a' := ?_) #[true, true, true, true, true, true, true, true, true, true, true, true, true, true, true, true, true, false, false, true, false, false, false, false, false, false] rfl rfl (any_of HT_.out (by kernel_rfl)) (fun _ _ _ h => h) (Or.inl ⟨by rfl, ?_⟩) ?_ ?_
  rotate_left
  · intro w'
    go_simp
    with_reducible rfl
  rotate_left
  · simp only [Act.put, List.setIfInBounds_toArray, List.set_cons_zero, List.set_cons_succ, i64_w, i32_w]
    rfl
  refine pure_ (i := 20) (N := some 37) (v := ?_) (a' := ?_) #[true, true, true, true, true, true, true, true, true, true, true, true, true, true, true, true, true, false, false, true, true, false, false, false, false, false] rfl rfl (any_of HT_.out (by kernel_rfl)) (fun _ _ _ h => h) (Or.inl ⟨by rfl, ?_⟩) ?_ ?_
  rotate_left
  · intro w'
    go_simp
    with_reducible rfl
  rotate_left
  · simp only [Act.put, List.setIfInBounds_toArray, List.set_cons_zero, List.set_cons_succ, i64_w, i32_w]
    rfl
  refine pure_ (i := 21) (N := some 38) (v := ?_) (a' := ?_) #[true, true, true, true, true, true, true, true, true, true, true, true, true, true, true, true, true, false, false, true, true, true, false, false, false, false] rfl rfl (any_of HT_.out (by kernel_rfl)) (fun _ _ _ h => h) (Or.inl ⟨by rfl, ?_⟩) ?_ ?_
  rotate_left
  · intro w'
    go_simp
    with_reducible rfl
  rotate_left
  · simp only [Act.put, List.setIfInBounds_toArray, List.set_cons_zero, List.set_cons_succ, i64_w, i32_w]
    rfl
  refine take_ (i := 22) (N := some 39) (v := ?_) (a' := ?_) #[true, true, true, true, true, true, true, true, true, true, true, true, true, true, true, true, true, false, false, true, true, true, true, false, false, false] rfl rfl (take_ofW HT_.out HW_.out (by kernel_rfl)) (fun _ _ _ h => h) (Or.inl ⟨by rfl, ?_⟩) hHeld ?_ ?_
  rotate_left
  · rintro w' s0_
    go_simp
    with_reducible rfl
  rotate_left
  · simp only [Act.put, List.setIfInBounds_toArray, List.set_cons_zero, List.set_cons_succ, i64_w, i32_w]
    rfl
  refine one_ (i := 17) (N := some 34) #[true, true, true, true, true, true, true, true, true, true, true, true, true, true, true, true, true, true, false, true, true, true, true, false, false, false] rfl rfl (one_of HT_.out (by kernel_rfl)) (by decide) (fun K hK => ?_)
  refine goes_ Try.func19 (by kernel_rfl) rfl #[.slice none 0 0, .int .i64 n] (by rfl) rfl rfl (by (try simp only [List.map_toArray, List.map_cons, List.map_nil]); first | done | rfl) ?_
  refine (putnil _ n hn1).mono ?_
  rw [HN.out, HLK.out]
  rintro e w3 ⟨A3, c3, rfl, hc3, hC3, hb3⟩
  have hcv3 : (convert 22 9 (.slice A3 k c3)).run Try.prog w3 = .ok (.string X) w3 := by rw [← HX.out]; exact Kd.C_string (P := Try.prog) Try.underlying22 Try.underlying5 Try.underlying9 hC3
  have HCV3 := Lib.hid hcv3
  clear hcv3 hC3
  have n0_ := Aside0.mk (below_step HBD.out hb3); clear HBD; have HBD := n0_; clear n0_ hb3
  refine ⟨_, rfl, ?_⟩
  refine hK.out _ _ (by rw [← HX.out]; exact HCV.out _ HBD.out) (fun hHeld => ?_)
  clear hK K
  refine norm_ (a' := ?_) ?_ ?_
  rotate_left
  · show Act.put _ (some 34) _ = _
    simp only [Act.put, List.setIfInBounds_toArray, List.set_cons_zero, List.set_cons_succ, i64_w, i32_w]
    rfl
  refine one_ (i := 18) (N := some 35) #[true, true, true, true, true, true, true, true, true, true, true, true, true, true, true, true, true, true, true, true, true, true, true, false, false, false] rfl rfl (one_of HT_.out (by kernel_rfl)) (by decide) (fun K hK => ?_)
  refine value_ (by rfl) rfl (v := .string X) (w1 := w3) ?_ ?_
  · have hcv := HCV3.out
    go_simp
  refine hK.out _ _ (by rw [← HX.out]; exact HCV.out _ HBD.out) (fun hHeld => ?_)
  clear hK K
  refine norm_ (a' := ?_) ?_ ?_
  rotate_left
  · show Act.put _ (some 35) _ = _
    simp only [Act.put, List.setIfInBounds_toArray, List.set_cons_zero, List.set_cons_succ, i64_w, i32_w]
    rfl
  refine pure_ (i := 23) (N := some 40) (v := ?_) (a' := ?_) #[true, true, true, true, true, true, true, true, true, true, true, true, true, true, true, true, true, true, true, true, true, true, true, true, false, false] rfl rfl (any_of HT_.out (by kernel_rfl)) (fun _ _ _ h => h) (Or.inl ⟨by rfl, ?_⟩) ?_ ?_
  rotate_left
  · intro w'
    go_simp
    with_reducible rfl
  rotate_left
  · simp only [Act.put, List.setIfInBounds_toArray, List.set_cons_zero, List.set_cons_succ, i64_w, i32_w]
    rfl
  refine pure_ (i := 24) (N := some 41) (v := ?_) (a' := ?_) #[true, true, true, true, true, true, true, true, true, true, true, true, true, true, true, true, true, true, true, true, true, true, true, true, true, false] rfl rfl (any_of HT_.out (by kernel_rfl)) (fun _ _ _ h => h) (Or.inl ⟨by rfl, ?_⟩) ?_ ?_
  rotate_left
  · intro w'
    go_simp
    with_reducible rfl
  rotate_left
  · simp only [Act.put, List.setIfInBounds_toArray, List.set_cons_zero, List.set_cons_succ, i64_w, i32_w]
    rfl
  refine pure_ (i := 25) (N := some 2) (v := ?_) (a' := ?_) #[true, true, true, true, true, true, true, true, true, true, true, true, true, true, true, true, true, true, true, true, true, true, true, true, true, true] rfl rfl (any_of HT_.out (by kernel_rfl)) (fun _ _ _ h => h) (Or.inl ⟨by rfl, ?_⟩) ?_ ?_
  rotate_left
  · intro w'
    go_simp
    with_reducible rfl
  rotate_left
  · simp only [Act.put, List.setIfInBounds_toArray, List.set_cons_zero, List.set_cons_succ, i64_w, i32_w]
    rfl
  refine done_ (done_of HT_.out (by kernel_rfl)) ?_
  go_wp2_with fail
  go_ret
  exact ⟨rfl, HBD.out⟩
theorem sizes_bad (a b : Int) (w : World) (h : a < 0 ∨ b < a) : Calls Try.prog 5 #[.int .i64 a, .int .i64 b] w fun e w' => e = .returned (.bool true) ∧ Below w.heap.size w w' := by
  rcases (show a < 0 ∨ (¬ a < 0 ∧ b < a) by omega) with h | ⟨h1, h⟩
  all_goals
    go_enter Try.func5, Try.ntmps5
    go_wp2_with fail
    refine (alive_calls _).mono ?_
    rintro e w2 ⟨rfl, hb2⟩
    go_wp2_with fail
    go_ret
    exact ⟨rfl, hb2⟩
set_option maxHeartbeats 4000000 in
theorem sizes_good (a b : Int) (w : World) (h0 : 0 ≤ a) (h1 : a ≤ b) (hb : b < 9223372036854775808) : Calls Try.prog 5 #[.int .i64 a, .int .i64 b] w fun e w' => e = .returned (.bool true) ∧ Below w.heap.size w w' := by
  have hl := num_lens a b h0 h1
  have HP1 := Lib.hid (fun W => putnil W a (by omega))
  have HP2 := Lib.hid (fun W => putnil W b hb)
  have HSH := Lib.hid (num_shift b)
  obtain ⟨x, hx⟩ : ∃ x, (num a).length = x := ⟨_, rfl⟩
  obtain ⟨y, hy⟩ : ∃ y, (num b).length = y := ⟨_, rfl⟩
  rw [hx, hy] at hl
  have HX := Lib.hid hx
  have HY := Lib.hid hy
  have hab : ¬ a < 0 := by omega
  have hba : ¬ b < a := by omega
  clear hx hy
  rcases (show 36028797018963968 < b ∨ (¬ 36028797018963968 < b ∧ b = 0) ∨ (¬ 36028797018963968 < b ∧ 0 < b) by omega) with h2 | ⟨h2, h3⟩ | ⟨h2, h3⟩
  · go_enter Try.func5, Try.ntmps5
    go_wp2_with fail
    refine (HP1.out _).mono ?_
    rw [HX.out]
    rintro e w1 ⟨A1, c1, rfl, hc1, hC1, hb1⟩
    have HB1 := Lib.hid hb1
    clear hC1 hb1
    go_wp2_with fail
    refine (HP2.out _).mono ?_
    rw [HY.out]
    rintro e w2 ⟨A2, c2, rfl, hc2, hC2, hb2⟩
    have HB2 := Lib.hid (below_step HB1.out hb2)
    clear hC2 hb2
    go_wp2_with fail
    refine (alive_calls _).mono ?_
    rintro e w3 ⟨rfl, hb3⟩
    have HB3 := Lib.hid (below_step HB2.out hb3)
    clear hb3
    go_wp2_with fail
    go_ret
    exact ⟨rfl, HB3.out⟩
  · subst h3
    obtain rfl : a = 0 := by omega
    go_enter Try.func5, Try.ntmps5
    go_wp2_with fail
    refine (HP1.out _).mono ?_
    rw [HX.out]
    rintro e w1 ⟨A1, c1, rfl, hc1, hC1, hb1⟩
    have HB1 := Lib.hid hb1
    clear hC1 hb1
    go_wp2_with fail
    refine (HP2.out _).mono ?_
    rw [HY.out]
    rintro e w2 ⟨A2, c2, rfl, hc2, hC2, hb2⟩
    have HB2 := Lib.hid (below_step HB1.out hb2)
    clear hC2 hb2
    go_wp2_with fail
    refine (alive_calls _).mono ?_
    rintro e w3 ⟨rfl, hb3⟩
    have HB3 := Lib.hid (below_step HB2.out hb3)
    clear hb3
    go_wp2_with fail
    go_ret
    exact ⟨rfl, HB3.out⟩
  · have hbz : (b == 0) = false := beq_eq_false_iff_ne.mpr (by omega)
    go_enter Try.func5, Try.ntmps5
    go_wp2_with fail
    refine (HP1.out _).mono ?_
    rw [HX.out]
    rintro e w1 ⟨A1, c1, rfl, hc1, hC1, hb1⟩
    have HB1 := Lib.hid hb1
    clear hC1 hb1
    go_wp2_with fail
    refine (HP2.out _).mono ?_
    rw [HY.out]
    rintro e w2 ⟨A2, c2, rfl, hc2, hC2, hb2⟩
    have HB2 := Lib.hid (below_step HB1.out hb2)
    clear hC2 hb2
    go_wp2_with fail
    refine (alive_calls _).mono ?_
    rintro e w3 ⟨rfl, hb3⟩
    have HB3 := Lib.hid (below_step HB2.out hb3)
    clear hb3
    go_wp2_with fail
    refine (putnil _ (b * 128) (by omega)).mono ?_
    rw [HSH.out h3 h2, HY.out]
    rintro e w4 ⟨A4, c4, rfl, hc4, hC4, hb4⟩
    have HB4 := Lib.hid (below_step HB3.out hb4)
    clear hC4 hb4
    have hcast : ((y + 1 : Nat) : Int) = (y : Int) + 1 := by omega
    have hw : wrap64 ((y : Int) + 1) = (y : Int) + 1 := wrap_of (by omega) (by omega)
    go_wp2_with fail
    go_ret
    exact ⟨rfl, HB4.out⟩
end Go.Proofs.Yteencbkopkpelaa.Hand
