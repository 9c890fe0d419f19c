/- take: one read of a reader, by its getter and its bound. -/
import Derived.Test.YteencbkopkpelaaLeb1
namespace Go.Proofs.Yteencbkopkpelaa.Hand
open Go.RowKit Go.Proofs.YteencbkopkpelaaW.PrintWords Go.Proofs.YteencbkopkpelaaW.PrintLast Go.Proofs.YteencbkopkpelaaW.PrintMore Go.Proofs.Yteencbkopkpelaa.PLebReads
set_option linter.unusedVariables false
set_option linter.unusedSimpArgs false
def TTakeI : Bool × List (List Nat × List Nat) := (true, [([], []), ([], []), ([1], [1]), ([2], [2]), ([3], [3]), ([], []), ([5], [5]), ([6], [6]), ([7], [7]), ([4, 8], [4, 8]), ([0, 9], [0, 9]), ([10], [10]), ([11], [11]), ([11], [11]), ([12, 10, 0, 1, 2, 3, 4, 5, 6, 7, 8, 9, 10, 11, 12], [12]), ([13, 14, 0, 1, 2, 3, 4, 5, 6, 7, 8, 9, 10, 11, 12, 13, 14], [13])])
def BTakeI : List Nat := [0, 0, 2, 6, 14, 0, 32, 96, 224, 510, 1023, 2047, 4095, 4095, 8191, 32767]
theorem tabTakeI : rtab .any (opsOf Try.f24 4) = TTakeI := by kernel_rfl
theorem bitsTakeI : waitsOk TTakeI.2 BTakeI = true := by kernel_rfl
def TTakeS : Bool × List (List Nat × List Nat) := (true, [([], []), ([], []), ([1], [1]), ([2], [2]), ([3], [3]), ([], []), ([5], [5]), ([6], [6]), ([7], [7]), ([4, 8], [4, 8]), ([0, 9], [0, 9]), ([10], [10]), ([11], [11]), ([11], [11]), ([12, 10, 0, 1, 2, 3, 4, 5, 6, 7, 8, 9, 10, 11, 12], [12]), ([13, 14, 0, 1, 2, 3, 4, 5, 6, 7, 8, 9, 10, 11, 12, 13, 14], [13])])
def BTakeS : List Nat := [0, 0, 2, 6, 14, 0, 32, 96, 224, 510, 1023, 2047, 4095, 4095, 8191, 32767]
theorem tabTakeS : rtab .any (opsOf Try.f30 4) = TTakeS := by kernel_rfl
theorem bitsTakeS : waitsOk TTakeS.2 BTakeS = true := by kernel_rfl
section
variable {w : World} {g base : Nat} {l : List Int} {at_ : Nat} {bad : Bool}
theorem Rdr.set_at (h : Rdr w g base l at_ bad) (x : Nat) (hx : x ≤ l.length) : Rdr (w.setCell ⟨g, 1, none⟩ (.int .i64 (x : Int))) g base l x bad := by
  obtain ⟨A, c, hg, hr, _, h2, h3⟩ := h
  exact ⟨A, c, blk_put hg 1 (.int .i64 (x : Int)) rfl, Kd.R_far hr (p := ⟨g, 1, none⟩) (fun k hk => hk) _, hx, h2, h3⟩
theorem Rdr.set_bad (h : Rdr w g base l at_ bad) (x : Bool) : Rdr (w.setCell ⟨g, 2, none⟩ (.bool x)) g base l at_ x := by
  obtain ⟨A, c, hg, hr, h1, h2, h3⟩ := h
  exact ⟨A, c, blk_put hg 2 (.bool x) rfl, Kd.R_far hr (p := ⟨g, 2, none⟩) (fun k hk => hk) _, h1, h2, h3⟩
/-- What a read leaves: nothing was there, or may be (it is bad then); or a value, and the reader stands behind it. -/
def Took (w : World) (g base : Nat) (l : List Int) (at_ k : Nat) (ok : Bool) (zero V : Value) (e : Ending) (w' : World) : Prop :=
  e = .returned (if k = 0 ∨ ok = false then zero else V) ∧ Rdr w' g base l (if k = 0 ∨ ok = false then at_ else at_ + k) (decide (k = 0 ∨ ok = false)) ∧ Fr (fun i => i = g) w w'
theorem Took.stop {k : Nat} {ok : Bool} {zero V : Value} {e : Ending} {w' : World} (h : k = 0 ∨ ok = false) (he : e = .returned zero) (hr : Rdr w' g base l at_ true) (hf : Fr (fun i => i = g) w w') : Took w g base l at_ k ok zero V e w' := by
  unfold Took
  rw [if_pos h, if_pos h, decide_eq_true h]
  exact ⟨he, hr, hf⟩
theorem Took.go {k : Nat} {zero V : Value} {e : Ending} {w' : World} (h : k ≠ 0) (he : e = .returned V) (hr : Rdr w' g base l (at_ + k) false) (hf : Fr (fun i => i = g) w w') : Took w g base l at_ k true zero V e w' := by
  have h' : ¬ (k = 0 ∨ true = false) := by simp [h]
  unfold Took
  rw [if_neg h', if_neg h', decide_eq_false h']
  exact ⟨he, hr, hf⟩
set_option maxHeartbeats 4000000 in
theorem int_good (h : Rdr w g base l at_ false) (q : Nat) (n : Int) (k : Nat) (hkl : at_ + k ≤ l.length) (ok : Bool)
    (hget : ∀ (W : World) (A' : Option Addr) (c' : Nat), Below w.heap.size w W → Kd.C (Kd.int .u8) W A' (l.drop at_).length (l.drop at_) → (l.drop at_).length ≤ c' → Calls Try.prog 18 #[.slice A' (l.drop at_).length c'] W fun e w' => e = .returned (.tuple #[.int .i64 n, .int .i64 (k : Int)]) ∧ Below W.heap.size W w')
    (hmay : ∀ W : World, Below w.heap.size w W → Calls Try.prog 25 #[.int .i64 n, .pointer (some ⟨q, 0, none⟩)] W fun e w' => e = .returned (.bool ok) ∧ W = w') :
    Calls Try.prog 24 #[.pointer (some ⟨g, 0, none⟩), .func (.func 18) #[] #[], .func (.func 25) #[] #[.pointer (some ⟨q, 0, none⟩)]] w (Took w g base l at_ k ok (.int .i64 0) (.int .i64 n)) := by
  obtain ⟨A, c, h0, h1, h2, hf, hC, hl⟩ := h.cells
  have hlt := h.lt
  have hCd := Kd.C_drop hC hlt.2.1 hl
  have hld : (l.drop at_).length = l.length - at_ := List.length_drop
  have hca : at_ = c ∨ c ≠ at_ := by omega
  have HG := Lib.hid hget
  have HM := Lib.hid hmay
  clear hget hmay hf
  rcases hca with hca | hca
  · subst hca
    have hld : (l.drop at_).length = 0 := by omega
    obtain rfl : k = 0 := by omega
    rw [if_pos rfl] at hCd
    have hcall := HG.out w.drew A 0 (below_drew1 (Below.refl _ _)) (Kd.C_drew (hCd)) (by omega)
    rw [hld] at hcall
    have HL := Lib.hid hcall
    have H := Lib.hid (h.below (below_drew1 (Below.refl _ _)))
    have H0 := Lib.hid h0
    have H1 := Lib.hid h1
    have H2 := Lib.hid h2
    have HC := Lib.hid hC
    clear hcall h hC hCd HG
    go_enter Try.func24, Try.ntmps24
    go_wp2_with fail
    refine start_ (n := 16) (S := fun w' => w'.cell? ⟨g, 0, none⟩ = some (.slice A l.length at_) ∧ w'.cell? ⟨g, 1, none⟩ = some (.int .i64 at_)) (ds := []) #[false, false, false, false, false, false, false, false, false, false, false, false, false, false, false, false] (by kernel_rfl) rfl rfl ⟨H0.out, H1.out⟩ (fun hHeld => ?_); refine with_tabW tabTakeI bitsTakeI (fun HT_ HW_ => ?_)
    refine pure_ (i := 0) (N := some 16) (v := ?_) (a' := ?_) #[true, false, false, false, false, false, false, false, false, false, false, false, false, false, false, false] rfl rfl (any_of HT_.out (by kernel_rfl)) (fun _ _ _ h => h) (Or.inl ⟨by rfl, ?_⟩) ?_ ?_
    rotate_left
    · intro w'
      go_simp
      with_reducible rfl
    rotate_left
    · simp only [Act.put, List.setIfInBounds_toArray, List.set_cons_zero, List.set_cons_succ, i64_w, i32_w]
      rfl
    refine pure_ (i := 1) (N := some 17) (v := ?_) (a' := ?_) #[true, true, false, false, false, false, false, false, false, false, false, false, false, false, false, false] rfl rfl (any_of HT_.out (by kernel_rfl)) (fun _ _ _ h => h) (Or.inl ⟨by rfl, ?_⟩) ?_ ?_
    rotate_left
    · intro w'
      go_simp
      with_reducible rfl
    rotate_left
    · simp only [Act.put, List.setIfInBounds_toArray, List.set_cons_zero, List.set_cons_succ, i64_w, i32_w]
      rfl
    refine pure_ (i := 2) (N := some 18) (v := ?_) (a' := ?_) #[true, true, true, false, false, false, false, false, false, false, false, false, false, false, false, false] rfl rfl (any_of HT_.out (by kernel_rfl)) (fun _ _ _ h => h) (Or.inl ⟨by rfl, ?_⟩) ?_ ?_
    rotate_left
    · intro w'
      go_simp
      with_reducible rfl
    rotate_left
    · simp only [Act.put, List.setIfInBounds_toArray, List.set_cons_zero, List.set_cons_succ, i64_w, i32_w]
      rfl
    refine pure_ (i := 3) (N := some 19) (v := ?_) (a' := ?_) #[true, true, true, true, false, false, false, false, false, false, false, false, false, false, false, false] rfl rfl (any_of HT_.out (by kernel_rfl)) (fun _ _ _ h => h) (Or.inl ⟨by rfl, ?_⟩) ?_ ?_
    rotate_left
    · intro w'
      go_simp
      with_reducible rfl
    rotate_left
    · simp only [Act.put, List.setIfInBounds_toArray, List.set_cons_zero, List.set_cons_succ, i64_w, i32_w]
      rfl
    refine take_ (i := 4) (N := some 20) (v := ?_) (a' := ?_) #[true, true, true, true, true, false, false, false, false, false, false, false, false, false, false, false] rfl rfl (take_ofW HT_.out HW_.out (by kernel_rfl)) (fun _ _ _ h => h) (Or.inl ⟨by rfl, ?_⟩) hHeld ?_ ?_
    rotate_left
    · rintro w' ⟨s0_, s1_⟩
      go_simp
      with_reducible rfl
    rotate_left
    · simp only [Act.put, List.setIfInBounds_toArray, List.set_cons_zero, List.set_cons_succ, i64_w, i32_w]
      rfl
    refine pure_ (i := 5) (N := some 21) (v := ?_) (a' := ?_) #[true, true, true, true, true, true, false, false, false, false, false, false, false, false, false, false] rfl rfl (any_of HT_.out (by kernel_rfl)) (fun _ _ _ h => h) (Or.inl ⟨by rfl, ?_⟩) ?_ ?_
    rotate_left
    · intro w'
      go_simp
      with_reducible rfl
    rotate_left
    · simp only [Act.put, List.setIfInBounds_toArray, List.set_cons_zero, List.set_cons_succ, i64_w, i32_w]
      rfl
    refine pure_ (i := 6) (N := some 22) (v := ?_) (a' := ?_) #[true, true, true, true, true, true, true, false, false, false, false, false, false, false, false, false] rfl rfl (any_of HT_.out (by kernel_rfl)) (fun _ _ _ h => h) (Or.inl ⟨by rfl, ?_⟩) ?_ ?_
    rotate_left
    · intro w'
      go_simp
      with_reducible rfl
    rotate_left
    · simp only [Act.put, List.setIfInBounds_toArray, List.set_cons_zero, List.set_cons_succ, i64_w, i32_w]
      rfl
    refine pure_ (i := 7) (N := some 23) (v := ?_) (a' := ?_) #[true, true, true, true, true, true, true, true, false, false, false, false, false, false, false, false] rfl rfl (any_of HT_.out (by kernel_rfl)) (fun _ _ _ h => h) (Or.inl ⟨by rfl, ?_⟩) ?_ ?_
    rotate_left
    · intro w'
      go_simp
      with_reducible rfl
    rotate_left
    · simp only [Act.put, List.setIfInBounds_toArray, List.set_cons_zero, List.set_cons_succ, i64_w, i32_w]
      rfl
    refine take_ (i := 8) (N := some 24) (v := ?_) (a' := ?_) #[true, true, true, true, true, true, true, true, true, false, false, false, false, false, false, false] rfl rfl (take_ofW HT_.out HW_.out (by kernel_rfl)) (fun _ _ _ h => h) (Or.inl ⟨by rfl, ?_⟩) hHeld ?_ ?_
    rotate_left
    · rintro w' ⟨s0_, s1_⟩
      go_simp
      with_reducible rfl
    rotate_left
    · simp only [Act.put, List.setIfInBounds_toArray, List.set_cons_zero, List.set_cons_succ, i64_w, i32_w]
      rfl
    refine pure_ (i := 9) (N := some 25) (v := ?_) (a' := ?_) #[true, true, true, true, true, true, true, true, true, true, false, false, false, false, false, false] rfl rfl (any_of HT_.out (by kernel_rfl)) (fun _ _ _ h => h) (Or.inl ⟨by rfl, ?_⟩) ?_ ?_
    rotate_left
    · intro w'
      go_simp
      with_reducible rfl
    rotate_left
    · simp only [Act.put, List.setIfInBounds_toArray, List.set_cons_zero, List.set_cons_succ, i64_w, i32_w]
      rfl
    refine one_ (i := 10) (N := some 26) #[true, true, true, true, true, true, true, true, true, true, true, false, false, false, false, false] rfl rfl (one_of HT_.out (by kernel_rfl)) (by decide) (fun K hK => ?_)
    refine call_ 18 #[.slice A 0 0] (by rfl) rfl ?_ ?_
    · have he := enters_ Try.func18 (by kernel_rfl) rfl #[.slice A 0 0] w.drew
      unfold execOp
      simp [resolve, Deferred.ofValue, invoke, Act.eval, he]
    refine HL.out.mono ?_
    rintro e w4 ⟨rfl, hb4⟩
    refine ⟨_, rfl, ?_⟩
    have n0_ := Lib.hid (H.out.below hb4); clear H; have H := n0_; clear n0_
    have HB4 := Lib.hid (below_drew1 (Below.refl w.heap.size w) |>.trans hb4)
    have hs0 : w4.cell? ⟨g, 0, none⟩ = some (.slice A l.length at_) := pw_cell_below hb4 H0.out
    have hs1 : w4.cell? ⟨g, 1, none⟩ = some (.int .i64 at_) := pw_cell_below hb4 H1.out
    have hs2 : w4.cell? ⟨g, 2, none⟩ = some (.bool false) := pw_cell_below hb4 H2.out
    clear hb4 HL
    refine hK.out _ _ ⟨hs0, hs1⟩ (fun hHeld => ?_)
    clear hK K
    refine norm_ (a' := ?_) ?_ ?_
    rotate_left
    · show Act.put _ (some 26) _ = _
      simp only [Act.put, List.setIfInBounds_toArray, List.set_cons_zero, List.set_cons_succ, i64_w, i32_w]
      rfl
    refine pure_ (i := 11) (N := some 15) (v := ?_) (a' := ?_) #[true, true, true, true, true, true, true, true, true, true, true, true, false, false, false, false] rfl rfl (any_of HT_.out (by kernel_rfl)) (fun _ _ _ h => h) (Or.inl ⟨by rfl, ?_⟩) ?_ ?_
    rotate_left
    · intro w'
      go_simp
      with_reducible rfl
    rotate_left
    · simp only [Act.put, List.setIfInBounds_toArray, List.set_cons_zero, List.set_cons_succ, i64_w, i32_w]
      rfl
    refine pure_ (i := 12) (N := some 27) (v := ?_) (a' := ?_) #[true, true, true, true, true, true, true, true, true, true, true, true, true, false, false, false] rfl rfl (any_of HT_.out (by kernel_rfl)) (fun _ _ _ h => h) (Or.inl ⟨by rfl, ?_⟩) ?_ ?_
    rotate_left
    · intro w'
      go_simp
      with_reducible rfl
    rotate_left
    · simp only [Act.put, List.setIfInBounds_toArray, List.set_cons_zero, List.set_cons_succ, i64_w, i32_w]
      rfl
    refine pure_ (i := 13) (N := some 28) (v := ?_) (a' := ?_) #[true, true, true, true, true, true, true, true, true, true, true, true, true, true, false, false] rfl rfl (any_of HT_.out (by kernel_rfl)) (fun _ _ _ h => h) (Or.inl ⟨by rfl, ?_⟩) ?_ ?_
    rotate_left
    · intro w'
      go_simp
      with_reducible rfl
    rotate_left
    · simp only [Act.put, List.setIfInBounds_toArray, List.set_cons_zero, List.set_cons_succ, i64_w, i32_w]
      rfl
    refine pure_ (i := 14) (N := some 8) (v := ?_) (a' := ?_) #[true, true, true, true, true, true, true, true, true, true, true, true, true, true, true, false] rfl rfl (any_of HT_.out (by kernel_rfl)) (fun _ _ _ h => h) (Or.inl ⟨by rfl, ?_⟩) ?_ ?_
    rotate_left
    · intro w'
      go_simp
      with_reducible rfl
    rotate_left
    · simp only [Act.put, List.setIfInBounds_toArray, List.set_cons_zero, List.set_cons_succ, i64_w, i32_w]
      rfl
    refine pure_ (i := 15) (N := some 9) (v := ?_) (a' := ?_) #[true, true, true, true, true, true, true, true, true, true, true, true, true, true, true, true] rfl rfl (any_of HT_.out (by kernel_rfl)) (fun _ _ _ h => h) (Or.inl ⟨by rfl, ?_⟩) ?_ ?_
    rotate_left
    · intro w'
      go_simp
      with_reducible rfl
    rotate_left
    · simp only [Act.put, List.setIfInBounds_toArray, List.set_cons_zero, List.set_cons_succ, i64_w, i32_w]
      rfl
    refine done_ (done_of HT_.out (by kernel_rfl)) ?_
    clear hs0 hs1
    have hfz : ∀ i, w4.frozen? ⟨g, i, none⟩ = false := by obtain ⟨_, _, _, _, _, hf, _⟩ := H.out.cells; exact hf
    have f2 := hfz 2
    clear hfz
    go_wp2_with fail
    go_ret
    exact Took.stop (.inl rfl) rfl (H.out.set_bad true) (Fr.set (X := fun i => i = g) (Fr.of_below HB4.out) (p := ⟨g, 2, none⟩) rfl _)
  · skip
    rw [if_neg hca] at hCd
    have hcall := HG.out w.drew (A.map (fun x => x.add at_)) (c - at_) (below_drew1 (Below.refl _ _)) (Kd.C_drew (by rw [show at_ * (Kd.int IntKind.u8).sz = at_ from Nat.mul_one at_] at hCd; exact hCd)) (by omega)
    rw [hld] at hcall
    have HL := Lib.hid hcall
    have H := Lib.hid (h.below (below_drew1 (Below.refl _ _)))
    have H0 := Lib.hid h0
    have H1 := Lib.hid h1
    have H2 := Lib.hid h2
    have HC := Lib.hid hC
    clear hcall h hC hCd HG
    go_enter Try.func24, Try.ntmps24
    go_wp2_with fail
    refine start_ (n := 16) (S := fun w' => w'.cell? ⟨g, 0, none⟩ = some (.slice A l.length c) ∧ w'.cell? ⟨g, 1, none⟩ = some (.int .i64 at_)) (ds := []) #[false, false, false, false, false, false, false, false, false, false, false, false, false, false, false, false] (by kernel_rfl) rfl rfl ⟨H0.out, H1.out⟩ (fun hHeld => ?_); refine with_tabW tabTakeI bitsTakeI (fun HT_ HW_ => ?_)
    refine pure_ (i := 0) (N := some 16) (v := ?_) (a' := ?_) #[true, false, false, false, false, false, false, false, false, false, false, false, false, false, false, false] rfl rfl (any_of HT_.out (by kernel_rfl)) (fun _ _ _ h => h) (Or.inl ⟨by rfl, ?_⟩) ?_ ?_
    rotate_left
    · intro w'
      go_simp
      with_reducible rfl
    rotate_left
    · simp only [Act.put, List.setIfInBounds_toArray, List.set_cons_zero, List.set_cons_succ, i64_w, i32_w]
      rfl
    refine pure_ (i := 1) (N := some 17) (v := ?_) (a' := ?_) #[true, true, false, false, false, false, false, false, false, false, false, false, false, false, false, false] rfl rfl (any_of HT_.out (by kernel_rfl)) (fun _ _ _ h => h) (Or.inl ⟨by rfl, ?_⟩) ?_ ?_
    rotate_left
    · intro w'
      go_simp
      with_reducible rfl
    rotate_left
    · simp only [Act.put, List.setIfInBounds_toArray, List.set_cons_zero, List.set_cons_succ, i64_w, i32_w]
      rfl
    refine pure_ (i := 2) (N := some 18) (v := ?_) (a' := ?_) #[true, true, true, false, false, false, false, false, false, false, false, false, false, false, false, false] rfl rfl (any_of HT_.out (by kernel_rfl)) (fun _ _ _ h => h) (Or.inl ⟨by rfl, ?_⟩) ?_ ?_
    rotate_left
    · intro w'
      go_simp
      with_reducible rfl
    rotate_left
    · simp only [Act.put, List.setIfInBounds_toArray, List.set_cons_zero, List.set_cons_succ, i64_w, i32_w]
      rfl
    refine pure_ (i := 3) (N := some 19) (v := ?_) (a' := ?_) #[true, true, true, true, false, false, false, false, false, false, false, false, false, false, false, false] rfl rfl (any_of HT_.out (by kernel_rfl)) (fun _ _ _ h => h) (Or.inl ⟨by rfl, ?_⟩) ?_ ?_
    rotate_left
    · intro w'
      go_simp
      with_reducible rfl
    rotate_left
    · simp only [Act.put, List.setIfInBounds_toArray, List.set_cons_zero, List.set_cons_succ, i64_w, i32_w]
      rfl
    refine take_ (i := 4) (N := some 20) (v := ?_) (a' := ?_) #[true, true, true, true, true, false, false, false, false, false, false, false, false, false, false, false] rfl rfl (take_ofW HT_.out HW_.out (by kernel_rfl)) (fun _ _ _ h => h) (Or.inl ⟨by rfl, ?_⟩) hHeld ?_ ?_
    rotate_left
    · rintro w' ⟨s0_, s1_⟩
      go_simp
      with_reducible rfl
    rotate_left
    · simp only [Act.put, List.setIfInBounds_toArray, List.set_cons_zero, List.set_cons_succ, i64_w, i32_w]
      rfl
    refine pure_ (i := 5) (N := some 21) (v := ?_) (a' := ?_) #[true, true, true, true, true, true, false, false, false, false, false, false, false, false, false, false] rfl rfl (any_of HT_.out (by kernel_rfl)) (fun _ _ _ h => h) (Or.inl ⟨by rfl, ?_⟩) ?_ ?_
    rotate_left
    · intro w'
      go_simp
      with_reducible rfl
    rotate_left
    · simp only [Act.put, List.setIfInBounds_toArray, List.set_cons_zero, List.set_cons_succ, i64_w, i32_w]
      rfl
    refine pure_ (i := 6) (N := some 22) (v := ?_) (a' := ?_) #[true, true, true, true, true, true, true, false, false, false, false, false, false, false, false, false] rfl rfl (any_of HT_.out (by kernel_rfl)) (fun _ _ _ h => h) (Or.inl ⟨by rfl, ?_⟩) ?_ ?_
    rotate_left
    · intro w'
      go_simp
      with_reducible rfl
    rotate_left
    · simp only [Act.put, List.setIfInBounds_toArray, List.set_cons_zero, List.set_cons_succ, i64_w, i32_w]
      rfl
    refine pure_ (i := 7) (N := some 23) (v := ?_) (a' := ?_) #[true, true, true, true, true, true, true, true, false, false, false, false, false, false, false, false] rfl rfl (any_of HT_.out (by kernel_rfl)) (fun _ _ _ h => h) (Or.inl ⟨by rfl, ?_⟩) ?_ ?_
    rotate_left
    · intro w'
      go_simp
      with_reducible rfl
    rotate_left
    · simp only [Act.put, List.setIfInBounds_toArray, List.set_cons_zero, List.set_cons_succ, i64_w, i32_w]
      rfl
    refine take_ (i := 8) (N := some 24) (v := ?_) (a' := ?_) #[true, true, true, true, true, true, true, true, true, false, false, false, false, false, false, false] rfl rfl (take_ofW HT_.out HW_.out (by kernel_rfl)) (fun _ _ _ h => h) (Or.inl ⟨by rfl, ?_⟩) hHeld ?_ ?_
    rotate_left
    · rintro w' ⟨s0_, s1_⟩
      go_simp
      with_reducible rfl
    rotate_left
    · simp only [Act.put, List.setIfInBounds_toArray, List.set_cons_zero, List.set_cons_succ, i64_w, i32_w]
      rfl
    refine pure_ (i := 9) (N := some 25) (v := ?_) (a' := ?_) #[true, true, true, true, true, true, true, true, true, true, false, false, false, false, false, false] rfl rfl (any_of HT_.out (by kernel_rfl)) (fun _ _ _ h => h) (Or.inl ⟨by rfl, ?_⟩) ?_ ?_
    rotate_left
    · intro w'
      go_simp
      with_reducible rfl
    rotate_left
    · simp only [Act.put, List.setIfInBounds_toArray, List.set_cons_zero, List.set_cons_succ, i64_w, i32_w]
      rfl
    refine one_ (i := 10) (N := some 26) #[true, true, true, true, true, true, true, true, true, true, true, false, false, false, false, false] rfl rfl (one_of HT_.out (by kernel_rfl)) (by decide) (fun K hK => ?_)
    refine call_ 18 #[.slice (A.map (fun x => x.add at_)) (l.length - at_) (c - at_)] (by rfl) rfl ?_ ?_
    · have he := enters_ Try.func18 (by kernel_rfl) rfl #[.slice (A.map (fun x => x.add at_)) (l.length - at_) (c - at_)] w.drew
      unfold execOp
      simp [resolve, Deferred.ofValue, invoke, Act.eval, he]
    refine HL.out.mono ?_
    rintro e w4 ⟨rfl, hb4⟩
    refine ⟨_, rfl, ?_⟩
    have n0_ := Lib.hid (H.out.below hb4); clear H; have H := n0_; clear n0_
    have HB4 := Lib.hid (below_drew1 (Below.refl w.heap.size w) |>.trans hb4)
    have hs0 : w4.cell? ⟨g, 0, none⟩ = some (.slice A l.length c) := pw_cell_below hb4 H0.out
    have hs1 : w4.cell? ⟨g, 1, none⟩ = some (.int .i64 at_) := pw_cell_below hb4 H1.out
    have hs2 : w4.cell? ⟨g, 2, none⟩ = some (.bool false) := pw_cell_below hb4 H2.out
    clear hb4 HL
    refine hK.out _ _ ⟨hs0, hs1⟩ (fun hHeld => ?_)
    clear hK K
    refine norm_ (a' := ?_) ?_ ?_
    rotate_left
    · show Act.put _ (some 26) _ = _
      simp only [Act.put, List.setIfInBounds_toArray, List.set_cons_zero, List.set_cons_succ, i64_w, i32_w]
      rfl
    refine pure_ (i := 11) (N := some 15) (v := ?_) (a' := ?_) #[true, true, true, true, true, true, true, true, true, true, true, true, false, false, false, false] rfl rfl (any_of HT_.out (by kernel_rfl)) (fun _ _ _ h => h) (Or.inl ⟨by rfl, ?_⟩) ?_ ?_
    rotate_left
    · intro w'
      go_simp
      with_reducible rfl
    rotate_left
    · simp only [Act.put, List.setIfInBounds_toArray, List.set_cons_zero, List.set_cons_succ, i64_w, i32_w]
      rfl
    refine pure_ (i := 12) (N := some 27) (v := ?_) (a' := ?_) #[true, true, true, true, true, true, true, true, true, true, true, true, true, false, false, false] rfl rfl (any_of HT_.out (by kernel_rfl)) (fun _ _ _ h => h) (Or.inl ⟨by rfl, ?_⟩) ?_ ?_
    rotate_left
    · intro w'
      go_simp
      with_reducible rfl
    rotate_left
    · simp only [Act.put, List.setIfInBounds_toArray, List.set_cons_zero, List.set_cons_succ, i64_w, i32_w]
      rfl
    refine pure_ (i := 13) (N := some 28) (v := ?_) (a' := ?_) #[true, true, true, true, true, true, true, true, true, true, true, true, true, true, false, false] rfl rfl (any_of HT_.out (by kernel_rfl)) (fun _ _ _ h => h) (Or.inl ⟨by rfl, ?_⟩) ?_ ?_
    rotate_left
    · intro w'
      go_simp
      with_reducible rfl
    rotate_left
    · simp only [Act.put, List.setIfInBounds_toArray, List.set_cons_zero, List.set_cons_succ, i64_w, i32_w]
      rfl
    refine pure_ (i := 14) (N := some 8) (v := ?_) (a' := ?_) #[true, true, true, true, true, true, true, true, true, true, true, true, true, true, true, false] rfl rfl (any_of HT_.out (by kernel_rfl)) (fun _ _ _ h => h) (Or.inl ⟨by rfl, ?_⟩) ?_ ?_
    rotate_left
    · intro w'
      go_simp
      with_reducible rfl
    rotate_left
    · simp only [Act.put, List.setIfInBounds_toArray, List.set_cons_zero, List.set_cons_succ, i64_w, i32_w]
      rfl
    refine pure_ (i := 15) (N := some 9) (v := ?_) (a' := ?_) #[true, true, true, true, true, true, true, true, true, true, true, true, true, true, true, true] rfl rfl (any_of HT_.out (by kernel_rfl)) (fun _ _ _ h => h) (Or.inl ⟨by rfl, ?_⟩) ?_ ?_
    rotate_left
    · intro w'
      go_simp
      with_reducible rfl
    rotate_left
    · simp only [Act.put, List.setIfInBounds_toArray, List.set_cons_zero, List.set_cons_succ, i64_w, i32_w]
      rfl
    refine done_ (done_of HT_.out (by kernel_rfl)) ?_
    clear hs0 hs1
    rcases (show k = 0 ∨ (k ≠ 0 ∧ ok = false) ∨ (k ≠ 0 ∧ ok = true) from by
      by_cases hk : k = 0
      · exact .inl hk
      · cases ok
        · exact .inr (.inl ⟨hk, rfl⟩)
        · exact .inr (.inr ⟨hk, rfl⟩)) with hk | ⟨hk, hok⟩ | ⟨hk, hok⟩
    · subst hk
      have hfz : ∀ i, w4.frozen? ⟨g, i, none⟩ = false := by obtain ⟨_, _, _, _, _, hf, _⟩ := H.out.cells; exact hf
      have f2 := hfz 2
      clear hfz
      go_wp2_with fail
      go_ret
      exact Took.stop (.inl rfl) rfl (H.out.set_bad true) (Fr.set (X := fun i => i = g) (Fr.of_below HB4.out) (p := ⟨g, 2, none⟩) rfl _)
    · subst hok
      have hkz : ((k : Int) == 0) = false := beq_eq_false_iff_ne.mpr (by omega)
      have hfz : ∀ i, w4.frozen? ⟨g, i, none⟩ = false := by obtain ⟨_, _, _, _, _, hf, _⟩ := H.out.cells; exact hf
      have f2 := hfz 2
      have HK := Lib.hid hk
      clear hfz hk
      go_wp2_with fail
      refine (HM.out w4 HB4.out).mono ?_
      rintro e w5 ⟨rfl, rfl⟩
      go_wp2_with fail
      go_ret
      exact Took.stop (.inr rfl) rfl (H.out.set_bad true) (Fr.set (X := fun i => i = g) (Fr.of_below HB4.out) (p := ⟨g, 2, none⟩) rfl _)
    · subst hok
      have hkz : ((k : Int) == 0) = false := beq_eq_false_iff_ne.mpr (by omega)
      have hs1 : w4.cell? ⟨g, 1, none⟩ = some (.int .i64 at_) := by obtain ⟨_, _, _, h, _⟩ := H.out.cells; exact h
      have hfz : ∀ i, w4.frozen? ⟨g, i, none⟩ = false := by obtain ⟨_, _, _, _, _, hf, _⟩ := H.out.cells; exact hf
      have f1 := hfz 1
      have HK := Lib.hid hk
      have hsum : ((at_ : Int) + (k : Int)) = ((at_ + k : Nat) : Int) := by omega
      have HS := Lib.hid hsum
      clear hfz hk hsum
      go_wp2_with fail
      refine (HM.out w4 HB4.out).mono ?_
      rintro e w5 ⟨rfl, rfl⟩
      go_wp2_with fail
      go_ret
      have hk := HK.out
      rw [HS.out]
      exact Took.go hk rfl (H.out.set_at (at_ + k) hkl) (Fr.set (X := fun i => i = g) (Fr.of_below HB4.out) (p := ⟨g, 1, none⟩) rfl _)
set_option maxHeartbeats 4000000 in
theorem byte_good (h : Rdr w g base l at_ false) (q : Nat) (n : Int) (k : Nat) (hkl : at_ + k ≤ l.length) (ok : Bool)
    (hget : ∀ (W : World) (A' : Option Addr) (c' : Nat), Below w.heap.size w W → Kd.C (Kd.int .u8) W A' (l.drop at_).length (l.drop at_) → (l.drop at_).length ≤ c' → Calls Try.prog 26 #[.slice A' (l.drop at_).length c'] W fun e w' => e = .returned (.tuple #[.int .i64 n, .int .i64 (k : Int)]) ∧ Below W.heap.size W w')
    (hmay : ∀ W : World, Below w.heap.size w W → Calls Try.prog 27 #[.int .i64 n, .pointer (some ⟨q, 0, none⟩)] W fun e w' => e = .returned (.bool ok) ∧ W = w') :
    Calls Try.prog 24 #[.pointer (some ⟨g, 0, none⟩), .func (.func 26) #[] #[], .func (.func 27) #[] #[.pointer (some ⟨q, 0, none⟩)]] w (Took w g base l at_ k ok (.int .i64 0) (.int .i64 n)) := by
  obtain ⟨A, c, h0, h1, h2, hf, hC, hl⟩ := h.cells
  have hlt := h.lt
  have hCd := Kd.C_drop hC hlt.2.1 hl
  have hld : (l.drop at_).length = l.length - at_ := List.length_drop
  have hca : at_ = c ∨ c ≠ at_ := by omega
  have HG := Lib.hid hget
  have HM := Lib.hid hmay
  clear hget hmay hf
  rcases hca with hca | hca
  · subst hca
    have hld : (l.drop at_).length = 0 := by omega
    obtain rfl : k = 0 := by omega
    rw [if_pos rfl] at hCd
    have hcall := HG.out w.drew A 0 (below_drew1 (Below.refl _ _)) (Kd.C_drew (hCd)) (by omega)
    rw [hld] at hcall
    have HL := Lib.hid hcall
    have H := Lib.hid (h.below (below_drew1 (Below.refl _ _)))
    have H0 := Lib.hid h0
    have H1 := Lib.hid h1
    have H2 := Lib.hid h2
    have HC := Lib.hid hC
    clear hcall h hC hCd HG
    go_enter Try.func24, Try.ntmps24
    go_wp2_with fail
    refine start_ (n := 16) (S := fun w' => w'.cell? ⟨g, 0, none⟩ = some (.slice A l.length at_) ∧ w'.cell? ⟨g, 1, none⟩ = some (.int .i64 at_)) (ds := []) #[false, false, false, false, false, false, false, false, false, false, false, false, false, false, false, false] (by kernel_rfl) rfl rfl ⟨H0.out, H1.out⟩ (fun hHeld => ?_); refine with_tabW tabTakeI bitsTakeI (fun HT_ HW_ => ?_)
    refine pure_ (i := 0) (N := some 16) (v := ?_) (a' := ?_) #[true, false, false, false, false, false, false, false, false, false, false, false, false, false, false, false] rfl rfl (any_of HT_.out (by kernel_rfl)) (fun _ _ _ h => h) (Or.inl ⟨by rfl, ?_⟩) ?_ ?_
    rotate_left
    · intro w'
      go_simp
      with_reducible rfl
    rotate_left
    · simp only [Act.put, List.setIfInBounds_toArray, List.set_cons_zero, List.set_cons_succ, i64_w, i32_w]
      rfl
    refine pure_ (i := 1) (N := some 17) (v := ?_) (a' := ?_) #[true, true, false, false, false, false, false, false, false, false, false, false, false, false, false, false] rfl rfl (any_of HT_.out (by kernel_rfl)) (fun _ _ _ h => h) (Or.inl ⟨by rfl, ?_⟩) ?_ ?_
    rotate_left
    · intro w'
      go_simp
      with_reducible rfl
    rotate_left
    · simp only [Act.put, List.setIfInBounds_toArray, List.set_cons_zero, List.set_cons_succ, i64_w, i32_w]
      rfl
    refine pure_ (i := 2) (N := some 18) (v := ?_) (a' := ?_) #[true, true, true, false, false, false, false, false, false, false, false, false, false, false, false, false] rfl rfl (any_of HT_.out (by kernel_rfl)) (fun _ _ _ h => h) (Or.inl ⟨by rfl, ?_⟩) ?_ ?_
    rotate_left
    · intro w'
      go_simp
      with_reducible rfl
    rotate_left
    · simp only [Act.put, List.setIfInBounds_toArray, List.set_cons_zero, List.set_cons_succ, i64_w, i32_w]
      rfl
    refine pure_ (i := 3) (N := some 19) (v := ?_) (a' := ?_) #[true, true, true, true, false, false, false, false, false, false, false, false, false, false, false, false] rfl rfl (any_of HT_.out (by kernel_rfl)) (fun _ _ _ h => h) (Or.inl ⟨by rfl, ?_⟩) ?_ ?_
    rotate_left
    · intro w'
      go_simp
      with_reducible rfl
    rotate_left
    · simp only [Act.put, List.setIfInBounds_toArray, List.set_cons_zero, List.set_cons_succ, i64_w, i32_w]
      rfl
    refine take_ (i := 4) (N := some 20) (v := ?_) (a' := ?_) #[true, true, true, true, true, false, false, false, false, false, false, false, false, false, false, false] rfl rfl (take_ofW HT_.out HW_.out (by kernel_rfl)) (fun _ _ _ h => h) (Or.inl ⟨by rfl, ?_⟩) hHeld ?_ ?_
    rotate_left
    · rintro w' ⟨s0_, s1_⟩
      go_simp
      with_reducible rfl
    rotate_left
    · simp only [Act.put, List.setIfInBounds_toArray, List.set_cons_zero, List.set_cons_succ, i64_w, i32_w]
      rfl
    refine pure_ (i := 5) (N := some 21) (v := ?_) (a' := ?_) #[true, true, true, true, true, true, false, false, false, false, false, false, false, false, false, false] rfl rfl (any_of HT_.out (by kernel_rfl)) (fun _ _ _ h => h) (Or.inl ⟨by rfl, ?_⟩) ?_ ?_
    rotate_left
    · intro w'
      go_simp
      with_reducible rfl
    rotate_left
    · simp only [Act.put, List.setIfInBounds_toArray, List.set_cons_zero, List.set_cons_succ, i64_w, i32_w]
      rfl
    refine pure_ (i := 6) (N := some 22) (v := ?_) (a' := ?_) #[true, true, true, true, true, true, true, false, false, false, false, false, false, false, false, false] rfl rfl (any_of HT_.out (by kernel_rfl)) (fun _ _ _ h => h) (Or.inl ⟨by rfl, ?_⟩) ?_ ?_
    rotate_left
    · intro w'
      go_simp
      with_reducible rfl
    rotate_left
    · simp only [Act.put, List.setIfInBounds_toArray, List.set_cons_zero, List.set_cons_succ, i64_w, i32_w]
      rfl
    refine pure_ (i := 7) (N := some 23) (v := ?_) (a' := ?_) #[true, true, true, true, true, true, true, true, false, false, false, false, false, false, false, false] rfl rfl (any_of HT_.out (by kernel_rfl)) (fun _ _ _ h => h) (Or.inl ⟨by rfl, ?_⟩) ?_ ?_
    rotate_left
    · intro w'
      go_simp
      with_reducible rfl
    rotate_left
    · simp only [Act.put, List.setIfInBounds_toArray, List.set_cons_zero, List.set_cons_succ, i64_w, i32_w]
      rfl
    refine take_ (i := 8) (N := some 24) (v := ?_) (a' := ?_) #[true, true, true, true, true, true, true, true, true, false, false, false, false, false, false, false] rfl rfl (take_ofW HT_.out HW_.out (by kernel_rfl)) (fun _ _ _ h => h) (Or.inl ⟨by rfl, ?_⟩) hHeld ?_ ?_
    rotate_left
    · rintro w' ⟨s0_, s1_⟩
      go_simp
      with_reducible rfl
    rotate_left
    · simp only [Act.put, List.setIfInBounds_toArray, List.set_cons_zero, List.set_cons_succ, i64_w, i32_w]
      rfl
    refine pure_ (i := 9) (N := some 25) (v := ?_) (a' := ?_) #[true, true, true, true, true, true, true, true, true, true, false, false, false, false, false, false] rfl rfl (any_of HT_.out (by kernel_rfl)) (fun _ _ _ h => h) (Or.inl ⟨by rfl, ?_⟩) ?_ ?_
    rotate_left
    · intro w'
      go_simp
      with_reducible rfl
    rotate_left
    · simp only [Act.put, List.setIfInBounds_toArray, List.set_cons_zero, List.set_cons_succ, i64_w, i32_w]
      rfl
    refine one_ (i := 10) (N := some 26) #[true, true, true, true, true, true, true, true, true, true, true, false, false, false, false, false] rfl rfl (one_of HT_.out (by kernel_rfl)) (by decide) (fun K hK => ?_)
    refine call_ 26 #[.slice A 0 0] (by rfl) rfl ?_ ?_
    · have he := enters_ Try.func26 (by kernel_rfl) rfl #[.slice A 0 0] w.drew
      unfold execOp
      simp [resolve, Deferred.ofValue, invoke, Act.eval, he]
    refine HL.out.mono ?_
    rintro e w4 ⟨rfl, hb4⟩
    refine ⟨_, rfl, ?_⟩
    have n0_ := Lib.hid (H.out.below hb4); clear H; have H := n0_; clear n0_
    have HB4 := Lib.hid (below_drew1 (Below.refl w.heap.size w) |>.trans hb4)
    have hs0 : w4.cell? ⟨g, 0, none⟩ = some (.slice A l.length at_) := pw_cell_below hb4 H0.out
    have hs1 : w4.cell? ⟨g, 1, none⟩ = some (.int .i64 at_) := pw_cell_below hb4 H1.out
    have hs2 : w4.cell? ⟨g, 2, none⟩ = some (.bool false) := pw_cell_below hb4 H2.out
    clear hb4 HL
    refine hK.out _ _ ⟨hs0, hs1⟩ (fun hHeld => ?_)
    clear hK K
    refine norm_ (a' := ?_) ?_ ?_
    rotate_left
    · show Act.put _ (some 26) _ = _
      simp only [Act.put, List.setIfInBounds_toArray, List.set_cons_zero, List.set_cons_succ, i64_w, i32_w]
      rfl
    refine pure_ (i := 11) (N := some 15) (v := ?_) (a' := ?_) #[true, true, true, true, true, true, true, true, true, true, true, true, false, false, false, false] rfl rfl (any_of HT_.out (by kernel_rfl)) (fun _ _ _ h => h) (Or.inl ⟨by rfl, ?_⟩) ?_ ?_
    rotate_left
    · intro w'
      go_simp
      with_reducible rfl
    rotate_left
    · simp only [Act.put, List.setIfInBounds_toArray, List.set_cons_zero, List.set_cons_succ, i64_w, i32_w]
      rfl
    refine pure_ (i := 12) (N := some 27) (v := ?_) (a' := ?_) #[true, true, true, true, true, true, true, true, true, true, true, true, true, false, false, false] rfl rfl (any_of HT_.out (by kernel_rfl)) (fun _ _ _ h => h) (Or.inl ⟨by rfl, ?_⟩) ?_ ?_
    rotate_left
    · intro w'
      go_simp
      with_reducible rfl
    rotate_left
    · simp only [Act.put, List.setIfInBounds_toArray, List.set_cons_zero, List.set_cons_succ, i64_w, i32_w]
      rfl
    refine pure_ (i := 13) (N := some 28) (v := ?_) (a' := ?_) #[true, true, true, true, true, true, true, true, true, true, true, true, true, true, false, false] rfl rfl (any_of HT_.out (by kernel_rfl)) (fun _ _ _ h => h) (Or.inl ⟨by rfl, ?_⟩) ?_ ?_
    rotate_left
    · intro w'
      go_simp
      with_reducible rfl
    rotate_left
    · simp only [Act.put, List.setIfInBounds_toArray, List.set_cons_zero, List.set_cons_succ, i64_w, i32_w]
      rfl
    refine pure_ (i := 14) (N := some 8) (v := ?_) (a' := ?_) #[true, true, true, true, true, true, true, true, true, true, true, true, true, true, true, false] rfl rfl (any_of HT_.out (by kernel_rfl)) (fun _ _ _ h => h) (Or.inl ⟨by rfl, ?_⟩) ?_ ?_
    rotate_left
    · intro w'
      go_simp
      with_reducible rfl
    rotate_left
    · simp only [Act.put, List.setIfInBounds_toArray, List.set_cons_zero, List.set_cons_succ, i64_w, i32_w]
      rfl
    refine pure_ (i := 15) (N := some 9) (v := ?_) (a' := ?_) #[true, true, true, true, true, true, true, true, true, true, true, true, true, true, true, true] rfl rfl (any_of HT_.out (by kernel_rfl)) (fun _ _ _ h => h) (Or.inl ⟨by rfl, ?_⟩) ?_ ?_
    rotate_left
    · intro w'
      go_simp
      with_reducible rfl
    rotate_left
    · simp only [Act.put, List.setIfInBounds_toArray, List.set_cons_zero, List.set_cons_succ, i64_w, i32_w]
      rfl
    refine done_ (done_of HT_.out (by kernel_rfl)) ?_
    clear hs0 hs1
    have hfz : ∀ i, w4.frozen? ⟨g, i, none⟩ = false := by obtain ⟨_, _, _, _, _, hf, _⟩ := H.out.cells; exact hf
    have f2 := hfz 2
    clear hfz
    go_wp2_with fail
    go_ret
    exact Took.stop (.inl rfl) rfl (H.out.set_bad true) (Fr.set (X := fun i => i = g) (Fr.of_below HB4.out) (p := ⟨g, 2, none⟩) rfl _)
  · skip
    rw [if_neg hca] at hCd
    have hcall := HG.out w.drew (A.map (fun x => x.add at_)) (c - at_) (below_drew1 (Below.refl _ _)) (Kd.C_drew (by rw [show at_ * (Kd.int IntKind.u8).sz = at_ from Nat.mul_one at_] at hCd; exact hCd)) (by omega)
    rw [hld] at hcall
    have HL := Lib.hid hcall
    have H := Lib.hid (h.below (below_drew1 (Below.refl _ _)))
    have H0 := Lib.hid h0
    have H1 := Lib.hid h1
    have H2 := Lib.hid h2
    have HC := Lib.hid hC
    clear hcall h hC hCd HG
    go_enter Try.func24, Try.ntmps24
    go_wp2_with fail
    refine start_ (n := 16) (S := fun w' => w'.cell? ⟨g, 0, none⟩ = some (.slice A l.length c) ∧ w'.cell? ⟨g, 1, none⟩ = some (.int .i64 at_)) (ds := []) #[false, false, false, false, false, false, false, false, false, false, false, false, false, false, false, false] (by kernel_rfl) rfl rfl ⟨H0.out, H1.out⟩ (fun hHeld => ?_); refine with_tabW tabTakeI bitsTakeI (fun HT_ HW_ => ?_)
    refine pure_ (i := 0) (N := some 16) (v := ?_) (a' := ?_) #[true, false, false, false, false, false, false, false, false, false, false, false, false, false, false, false] rfl rfl (any_of HT_.out (by kernel_rfl)) (fun _ _ _ h => h) (Or.inl ⟨by rfl, ?_⟩) ?_ ?_
    rotate_left
    · intro w'
      go_simp
      with_reducible rfl
    rotate_left
    · simp only [Act.put, List.setIfInBounds_toArray, List.set_cons_zero, List.set_cons_succ, i64_w, i32_w]
      rfl
    refine pure_ (i := 1) (N := some 17) (v := ?_) (a' := ?_) #[true, true, false, false, false, false, false, false, false, false, false, false, false, false, false, false] rfl rfl (any_of HT_.out (by kernel_rfl)) (fun _ _ _ h => h) (Or.inl ⟨by rfl, ?_⟩) ?_ ?_
    rotate_left
    · intro w'
      go_simp
      with_reducible rfl
    rotate_left
    · simp only [Act.put, List.setIfInBounds_toArray, List.set_cons_zero, List.set_cons_succ, i64_w, i32_w]
      rfl
    refine pure_ (i := 2) (N := some 18) (v := ?_) (a' := ?_) #[true, true, true, false, false, false, false, false, false, false, false, false, false, false, false, false] rfl rfl (any_of HT_.out (by kernel_rfl)) (fun _ _ _ h => h) (Or.inl ⟨by rfl, ?_⟩) ?_ ?_
    rotate_left
    · intro w'
      go_simp
      with_reducible rfl
    rotate_left
    · simp only [Act.put, List.setIfInBounds_toArray, List.set_cons_zero, List.set_cons_succ, i64_w, i32_w]
      rfl
    refine pure_ (i := 3) (N := some 19) (v := ?_) (a' := ?_) #[true, true, true, true, false, false, false, false, false, false, false, false, false, false, false, false] rfl rfl (any_of HT_.out (by kernel_rfl)) (fun _ _ _ h => h) (Or.inl ⟨by rfl, ?_⟩) ?_ ?_
    rotate_left
    · intro w'
      go_simp
      with_reducible rfl
    rotate_left
    · simp only [Act.put, List.setIfInBounds_toArray, List.set_cons_zero, List.set_cons_succ, i64_w, i32_w]
      rfl
    refine take_ (i := 4) (N := some 20) (v := ?_) (a' := ?_) #[true, true, true, true, true, false, false, false, false, false, false, false, false, false, false, false] rfl rfl (take_ofW HT_.out HW_.out (by kernel_rfl)) (fun _ _ _ h => h) (Or.inl ⟨by rfl, ?_⟩) hHeld ?_ ?_
    rotate_left
    · rintro w' ⟨s0_, s1_⟩
      go_simp
      with_reducible rfl
    rotate_left
    · simp only [Act.put, List.setIfInBounds_toArray, List.set_cons_zero, List.set_cons_succ, i64_w, i32_w]
      rfl
    refine pure_ (i := 5) (N := some 21) (v := ?_) (a' := ?_) #[true, true, true, true, true, true, false, false, false, false, false, false, false, false, false, false] rfl rfl (any_of HT_.out (by kernel_rfl)) (fun _ _ _ h => h) (Or.inl ⟨by rfl, ?_⟩) ?_ ?_
    rotate_left
    · intro w'
      go_simp
      with_reducible rfl
    rotate_left
    · simp only [Act.put, List.setIfInBounds_toArray, List.set_cons_zero, List.set_cons_succ, i64_w, i32_w]
      rfl
    refine pure_ (i := 6) (N := some 22) (v := ?_) (a' := ?_) #[true, true, true, true, true, true, true, false, false, false, false, false, false, false, false, false] rfl rfl (any_of HT_.out (by kernel_rfl)) (fun _ _ _ h => h) (Or.inl ⟨by rfl, ?_⟩) ?_ ?_
    rotate_left
    · intro w'
      go_simp
      with_reducible rfl
    rotate_left
    · simp only [Act.put, List.setIfInBounds_toArray, List.set_cons_zero, List.set_cons_succ, i64_w, i32_w]
      rfl
    refine pure_ (i := 7) (N := some 23) (v := ?_) (a' := ?_) #[true, true, true, true, true, true, true, true, false, false, false, false, false, false, false, false] rfl rfl (any_of HT_.out (by kernel_rfl)) (fun _ _ _ h => h) (Or.inl ⟨by rfl, ?_⟩) ?_ ?_
    rotate_left
    · intro w'
      go_simp
      with_reducible rfl
    rotate_left
    · simp only [Act.put, List.setIfInBounds_toArray, List.set_cons_zero, List.set_cons_succ, i64_w, i32_w]
      rfl
    refine take_ (i := 8) (N := some 24) (v := ?_) (a' := ?_) #[true, true, true, true, true, true, true, true, true, false, false, false, false, false, false, false] rfl rfl (take_ofW HT_.out HW_.out (by kernel_rfl)) (fun _ _ _ h => h) (Or.inl ⟨by rfl, ?_⟩) hHeld ?_ ?_
    rotate_left
    · rintro w' ⟨s0_, s1_⟩
      go_simp
      with_reducible rfl
    rotate_left
    · simp only [Act.put, List.setIfInBounds_toArray, List.set_cons_zero, List.set_cons_succ, i64_w, i32_w]
      rfl
    refine pure_ (i := 9) (N := some 25) (v := ?_) (a' := ?_) #[true, true, true, true, true, true, true, true, true, true, false, false, false, false, false, false] rfl rfl (any_of HT_.out (by kernel_rfl)) (fun _ _ _ h => h) (Or.inl ⟨by rfl, ?_⟩) ?_ ?_
    rotate_left
    · intro w'
      go_simp
      with_reducible rfl
    rotate_left
    · simp only [Act.put, List.setIfInBounds_toArray, List.set_cons_zero, List.set_cons_succ, i64_w, i32_w]
      rfl
    refine one_ (i := 10) (N := some 26) #[true, true, true, true, true, true, true, true, true, true, true, false, false, false, false, false] rfl rfl (one_of HT_.out (by kernel_rfl)) (by decide) (fun K hK => ?_)
    refine call_ 26 #[.slice (A.map (fun x => x.add at_)) (l.length - at_) (c - at_)] (by rfl) rfl ?_ ?_
    · have he := enters_ Try.func26 (by kernel_rfl) rfl #[.slice (A.map (fun x => x.add at_)) (l.length - at_) (c - at_)] w.drew
      unfold execOp
      simp [resolve, Deferred.ofValue, invoke, Act.eval, he]
    refine HL.out.mono ?_
    rintro e w4 ⟨rfl, hb4⟩
    refine ⟨_, rfl, ?_⟩
    have n0_ := Lib.hid (H.out.below hb4); clear H; have H := n0_; clear n0_
    have HB4 := Lib.hid (below_drew1 (Below.refl w.heap.size w) |>.trans hb4)
    have hs0 : w4.cell? ⟨g, 0, none⟩ = some (.slice A l.length c) := pw_cell_below hb4 H0.out
    have hs1 : w4.cell? ⟨g, 1, none⟩ = some (.int .i64 at_) := pw_cell_below hb4 H1.out
    have hs2 : w4.cell? ⟨g, 2, none⟩ = some (.bool false) := pw_cell_below hb4 H2.out
    clear hb4 HL
    refine hK.out _ _ ⟨hs0, hs1⟩ (fun hHeld => ?_)
    clear hK K
    refine norm_ (a' := ?_) ?_ ?_
    rotate_left
    · show Act.put _ (some 26) _ = _
      simp only [Act.put, List.setIfInBounds_toArray, List.set_cons_zero, List.set_cons_succ, i64_w, i32_w]
      rfl
    refine pure_ (i := 11) (N := some 15) (v := ?_) (a' := ?_) #[true, true, true, true, true, true, true, true, true, true, true, true, false, false, false, false] rfl rfl (any_of HT_.out (by kernel_rfl)) (fun _ _ _ h => h) (Or.inl ⟨by rfl, ?_⟩) ?_ ?_
    rotate_left
    · intro w'
      go_simp
      with_reducible rfl
    rotate_left
    · simp only [Act.put, List.setIfInBounds_toArray, List.set_cons_zero, List.set_cons_succ, i64_w, i32_w]
      rfl
    refine pure_ (i := 12) (N := some 27) (v := ?_) (a' := ?_) #[true, true, true, true, true, true, true, true, true, true, true, true, true, false, false, false] rfl rfl (any_of HT_.out (by kernel_rfl)) (fun _ _ _ h => h) (Or.inl ⟨by rfl, ?_⟩) ?_ ?_
    rotate_left
    · intro w'
      go_simp
      with_reducible rfl
    rotate_left
    · simp only [Act.put, List.setIfInBounds_toArray, List.set_cons_zero, List.set_cons_succ, i64_w, i32_w]
      rfl
    refine pure_ (i := 13) (N := some 28) (v := ?_) (a' := ?_) #[true, true, true, true, true, true, true, true, true, true, true, true, true, true, false, false] rfl rfl (any_of HT_.out (by kernel_rfl)) (fun _ _ _ h => h) (Or.inl ⟨by rfl, ?_⟩) ?_ ?_
    rotate_left
    · intro w'
      go_simp
      with_reducible rfl
    rotate_left
    · simp only [Act.put, List.setIfInBounds_toArray, List.set_cons_zero, List.set_cons_succ, i64_w, i32_w]
      rfl
    refine pure_ (i := 14) (N := some 8) (v := ?_) (a' := ?_) #[true, true, true, true, true, true, true, true, true, true, true, true, true, true, true, false] rfl rfl (any_of HT_.out (by kernel_rfl)) (fun _ _ _ h => h) (Or.inl ⟨by rfl, ?_⟩) ?_ ?_
    rotate_left
    · intro w'
      go_simp
      with_reducible rfl
    rotate_left
    · simp only [Act.put, List.setIfInBounds_toArray, List.set_cons_zero, List.set_cons_succ, i64_w, i32_w]
      rfl
    refine pure_ (i := 15) (N := some 9) (v := ?_) (a' := ?_) #[true, true, true, true, true, true, true, true, true, true, true, true, true, true, true, true] rfl rfl (any_of HT_.out (by kernel_rfl)) (fun _ _ _ h => h) (Or.inl ⟨by rfl, ?_⟩) ?_ ?_
    rotate_left
    · intro w'
      go_simp
      with_reducible rfl
    rotate_left
    · simp only [Act.put, List.setIfInBounds_toArray, List.set_cons_zero, List.set_cons_succ, i64_w, i32_w]
      rfl
    refine done_ (done_of HT_.out (by kernel_rfl)) ?_
    clear hs0 hs1
    rcases (show k = 0 ∨ (k ≠ 0 ∧ ok = false) ∨ (k ≠ 0 ∧ ok = true) from by
      by_cases hk : k = 0
      · exact .inl hk
      · cases ok
        · exact .inr (.inl ⟨hk, rfl⟩)
        · exact .inr (.inr ⟨hk, rfl⟩)) with hk | ⟨hk, hok⟩ | ⟨hk, hok⟩
    · subst hk
      have hfz : ∀ i, w4.frozen? ⟨g, i, none⟩ = false := by obtain ⟨_, _, _, _, _, hf, _⟩ := H.out.cells; exact hf
      have f2 := hfz 2
      clear hfz
      go_wp2_with fail
      go_ret
      exact Took.stop (.inl rfl) rfl (H.out.set_bad true) (Fr.set (X := fun i => i = g) (Fr.of_below HB4.out) (p := ⟨g, 2, none⟩) rfl _)
    · subst hok
      have hkz : ((k : Int) == 0) = false := beq_eq_false_iff_ne.mpr (by omega)
      have hfz : ∀ i, w4.frozen? ⟨g, i, none⟩ = false := by obtain ⟨_, _, _, _, _, hf, _⟩ := H.out.cells; exact hf
      have f2 := hfz 2
      have HK := Lib.hid hk
      clear hfz hk
      go_wp2_with fail
      refine (HM.out w4 HB4.out).mono ?_
      rintro e w5 ⟨rfl, rfl⟩
      go_wp2_with fail
      go_ret
      exact Took.stop (.inr rfl) rfl (H.out.set_bad true) (Fr.set (X := fun i => i = g) (Fr.of_below HB4.out) (p := ⟨g, 2, none⟩) rfl _)
    · subst hok
      have hkz : ((k : Int) == 0) = false := beq_eq_false_iff_ne.mpr (by omega)
      have hs1 : w4.cell? ⟨g, 1, none⟩ = some (.int .i64 at_) := by obtain ⟨_, _, _, h, _⟩ := H.out.cells; exact h
      have hfz : ∀ i, w4.frozen? ⟨g, i, none⟩ = false := by obtain ⟨_, _, _, _, _, hf, _⟩ := H.out.cells; exact hf
      have f1 := hfz 1
      have HK := Lib.hid hk
      have hsum : ((at_ : Int) + (k : Int)) = ((at_ + k : Nat) : Int) := by omega
      have HS := Lib.hid hsum
      clear hfz hk hsum
      go_wp2_with fail
      refine (HM.out w4 HB4.out).mono ?_
      rintro e w5 ⟨rfl, rfl⟩
      go_wp2_with fail
      go_ret
      have hk := HK.out
      rw [HS.out]
      exact Took.go hk rfl (H.out.set_at (at_ + k) hkl) (Fr.set (X := fun i => i = g) (Fr.of_below HB4.out) (p := ⟨g, 1, none⟩) rfl _)
set_option maxHeartbeats 4000000 in
theorem str_good (h : Rdr w g base l at_ false) (q : Nat) (s : ByteArray) (k : Nat) (hkl : at_ + k ≤ l.length) (ok : Bool)
    (hget : ∀ (W : World) (A' : Option Addr) (c' : Nat), Below w.heap.size w W → Kd.C (Kd.int .u8) W A' (l.drop at_).length (l.drop at_) → (l.drop at_).length ≤ c' → Calls Try.prog 28 #[.slice A' (l.drop at_).length c', .pointer (some ⟨q, 0, none⟩)] W fun e w' => e = .returned (.tuple #[.string s, .int .i64 (k : Int)]) ∧ Below W.heap.size W w')
    (hmay : ∀ W : World, Below w.heap.size w W → Calls Try.prog 31 #[.string s] W fun e w' => e = .returned (.bool ok) ∧ W = w') :
    Calls Try.prog 30 #[.pointer (some ⟨g, 0, none⟩), .func (.func 28) #[] #[.pointer (some ⟨q, 0, none⟩)], .func (.func 31) #[] #[]] w (Took w g base l at_ k ok (.string ⟨#[]⟩) (.string s)) := by
  obtain ⟨A, c, h0, h1, h2, hf, hC, hl⟩ := h.cells
  have hlt := h.lt
  have hCd := Kd.C_drop hC hlt.2.1 hl
  have hld : (l.drop at_).length = l.length - at_ := List.length_drop
  have hca : at_ = c ∨ c ≠ at_ := by omega
  have HG := Lib.hid hget
  have HM := Lib.hid hmay
  clear hget hmay hf
  rcases hca with hca | hca
  · subst hca
    have hld : (l.drop at_).length = 0 := by omega
    obtain rfl : k = 0 := by omega
    rw [if_pos rfl] at hCd
    have hcall := HG.out w.drew A 0 (below_drew1 (Below.refl _ _)) (Kd.C_drew (hCd)) (by omega)
    rw [hld] at hcall
    have HL := Lib.hid hcall
    have H := Lib.hid (h.below (below_drew1 (Below.refl _ _)))
    have H0 := Lib.hid h0
    have H1 := Lib.hid h1
    have H2 := Lib.hid h2
    have HC := Lib.hid hC
    clear hcall h hC hCd HG
    go_enter Try.func30, Try.ntmps30
    go_wp2_with fail
    refine start_ (n := 16) (S := fun w' => w'.cell? ⟨g, 0, none⟩ = some (.slice A l.length at_) ∧ w'.cell? ⟨g, 1, none⟩ = some (.int .i64 at_)) (ds := []) #[false, false, false, false, false, false, false, false, false, false, false, false, false, false, false, false] (by kernel_rfl) rfl rfl ⟨H0.out, H1.out⟩ (fun hHeld => ?_); refine with_tabW tabTakeS bitsTakeS (fun HT_ HW_ => ?_)
    refine pure_ (i := 0) (N := some 16) (v := ?_) (a' := ?_) #[true, false, false, false, false, false, false, false, false, false, false, false, false, false, false, false] rfl rfl (any_of HT_.out (by kernel_rfl)) (fun _ _ _ h => h) (Or.inl ⟨by rfl, ?_⟩) ?_ ?_
    rotate_left
    · intro w'
      go_simp
      with_reducible rfl
    rotate_left
    · simp only [Act.put, List.setIfInBounds_toArray, List.set_cons_zero, List.set_cons_succ, i64_w, i32_w]
      rfl
    refine pure_ (i := 1) (N := some 17) (v := ?_) (a' := ?_) #[true, true, false, false, false, false, false, false, false, false, false, false, false, false, false, false] rfl rfl (any_of HT_.out (by kernel_rfl)) (fun _ _ _ h => h) (Or.inl ⟨by rfl, ?_⟩) ?_ ?_
    rotate_left
    · intro w'
      go_simp
      with_reducible rfl
    rotate_left
    · simp only [Act.put, List.setIfInBounds_toArray, List.set_cons_zero, List.set_cons_succ, i64_w, i32_w]
      rfl
    refine pure_ (i := 2) (N := some 18) (v := ?_) (a' := ?_) #[true, true, true, false, false, false, false, false, false, false, false, false, false, false, false, false] rfl rfl (any_of HT_.out (by kernel_rfl)) (fun _ _ _ h => h) (Or.inl ⟨by rfl, ?_⟩) ?_ ?_
    rotate_left
    · intro w'
      go_simp
      with_reducible rfl
    rotate_left
    · simp only [Act.put, List.setIfInBounds_toArray, List.set_cons_zero, List.set_cons_succ, i64_w, i32_w]
      rfl
    refine pure_ (i := 3) (N := some 19) (v := ?_) (a' := ?_) #[true, true, true, true, false, false, false, false, false, false, false, false, false, false, false, false] rfl rfl (any_of HT_.out (by kernel_rfl)) (fun _ _ _ h => h) (Or.inl ⟨by rfl, ?_⟩) ?_ ?_
    rotate_left
    · intro w'
      go_simp
      with_reducible rfl
    rotate_left
    · simp only [Act.put, List.setIfInBounds_toArray, List.set_cons_zero, List.set_cons_succ, i64_w, i32_w]
      rfl
    refine take_ (i := 4) (N := some 20) (v := ?_) (a' := ?_) #[true, true, true, true, true, false, false, false, false, false, false, false, false, false, false, false] rfl rfl (take_ofW HT_.out HW_.out (by kernel_rfl)) (fun _ _ _ h => h) (Or.inl ⟨by rfl, ?_⟩) hHeld ?_ ?_
    rotate_left
    · rintro w' ⟨s0_, s1_⟩
      go_simp
      with_reducible rfl
    rotate_left
    · simp only [Act.put, List.setIfInBounds_toArray, List.set_cons_zero, List.set_cons_succ, i64_w, i32_w]
      rfl
    refine pure_ (i := 5) (N := some 21) (v := ?_) (a' := ?_) #[true, true, true, true, true, true, false, false, false, false, false, false, false, false, false, false] rfl rfl (any_of HT_.out (by kernel_rfl)) (fun _ _ _ h => h) (Or.inl ⟨by rfl, ?_⟩) ?_ ?_
    rotate_left
    · intro w'
      go_simp
      with_reducible rfl
    rotate_left
    · simp only [Act.put, List.setIfInBounds_toArray, List.set_cons_zero, List.set_cons_succ, i64_w, i32_w]
      rfl
    refine pure_ (i := 6) (N := some 22) (v := ?_) (a' := ?_) #[true, true, true, true, true, true, true, false, false, false, false, false, false, false, false, false] rfl rfl (any_of HT_.out (by kernel_rfl)) (fun _ _ _ h => h) (Or.inl ⟨by rfl, ?_⟩) ?_ ?_
    rotate_left
    · intro w'
      go_simp
      with_reducible rfl
    rotate_left
    · simp only [Act.put, List.setIfInBounds_toArray, List.set_cons_zero, List.set_cons_succ, i64_w, i32_w]
      rfl
    refine pure_ (i := 7) (N := some 23) (v := ?_) (a' := ?_) #[true, true, true, true, true, true, true, true, false, false, false, false, false, false, false, false] rfl rfl (any_of HT_.out (by kernel_rfl)) (fun _ _ _ h => h) (Or.inl ⟨by rfl, ?_⟩) ?_ ?_
    rotate_left
    · intro w'
      go_simp
      with_reducible rfl
    rotate_left
    · simp only [Act.put, List.setIfInBounds_toArray, List.set_cons_zero, List.set_cons_succ, i64_w, i32_w]
      rfl
    refine take_ (i := 8) (N := some 24) (v := ?_) (a' := ?_) #[true, true, true, true, true, true, true, true, true, false, false, false, false, false, false, false] rfl rfl (take_ofW HT_.out HW_.out (by kernel_rfl)) (fun _ _ _ h => h) (Or.inl ⟨by rfl, ?_⟩) hHeld ?_ ?_
    rotate_left
    · rintro w' ⟨s0_, s1_⟩
      go_simp
      with_reducible rfl
    rotate_left
    · simp only [Act.put, List.setIfInBounds_toArray, List.set_cons_zero, List.set_cons_succ, i64_w, i32_w]
      rfl
    refine pure_ (i := 9) (N := some 25) (v := ?_) (a' := ?_) #[true, true, true, true, true, true, true, true, true, true, false, false, false, false, false, false] rfl rfl (any_of HT_.out (by kernel_rfl)) (fun _ _ _ h => h) (Or.inl ⟨by rfl, ?_⟩) ?_ ?_
    rotate_left
    · intro w'
      go_simp
      with_reducible rfl
    rotate_left
    · simp only [Act.put, List.setIfInBounds_toArray, List.set_cons_zero, List.set_cons_succ, i64_w, i32_w]
      rfl
    refine one_ (i := 10) (N := some 26) #[true, true, true, true, true, true, true, true, true, true, true, false, false, false, false, false] rfl rfl (one_of HT_.out (by kernel_rfl)) (by decide) (fun K hK => ?_)
    refine call_ 28 #[.slice A 0 0, .pointer (some ⟨q, 0, none⟩)] (by rfl) rfl ?_ ?_
    · have he := enters_ Try.func28 (by kernel_rfl) rfl #[.slice A 0 0, .pointer (some ⟨q, 0, none⟩)] w.drew
      unfold execOp
      simp [resolve, Deferred.ofValue, invoke, Act.eval, he]
    refine HL.out.mono ?_
    rintro e w4 ⟨rfl, hb4⟩
    refine ⟨_, rfl, ?_⟩
    have n0_ := Lib.hid (H.out.below hb4); clear H; have H := n0_; clear n0_
    have HB4 := Lib.hid (below_drew1 (Below.refl w.heap.size w) |>.trans hb4)
    have hs0 : w4.cell? ⟨g, 0, none⟩ = some (.slice A l.length at_) := pw_cell_below hb4 H0.out
    have hs1 : w4.cell? ⟨g, 1, none⟩ = some (.int .i64 at_) := pw_cell_below hb4 H1.out
    have hs2 : w4.cell? ⟨g, 2, none⟩ = some (.bool false) := pw_cell_below hb4 H2.out
    clear hb4 HL
    refine hK.out _ _ ⟨hs0, hs1⟩ (fun hHeld => ?_)
    clear hK K
    refine norm_ (a' := ?_) ?_ ?_
    rotate_left
    · show Act.put _ (some 26) _ = _
      simp only [Act.put, List.setIfInBounds_toArray, List.set_cons_zero, List.set_cons_succ, i64_w, i32_w]
      rfl
    refine pure_ (i := 11) (N := some 15) (v := ?_) (a' := ?_) #[true, true, true, true, true, true, true, true, true, true, true, true, false, false, false, false] rfl rfl (any_of HT_.out (by kernel_rfl)) (fun _ _ _ h => h) (Or.inl ⟨by rfl, ?_⟩) ?_ ?_
    rotate_left
    · intro w'
      go_simp
      with_reducible rfl
    rotate_left
    · simp only [Act.put, List.setIfInBounds_toArray, List.set_cons_zero, List.set_cons_succ, i64_w, i32_w]
      rfl
    refine pure_ (i := 12) (N := some 27) (v := ?_) (a' := ?_) #[true, true, true, true, true, true, true, true, true, true, true, true, true, false, false, false] rfl rfl (any_of HT_.out (by kernel_rfl)) (fun _ _ _ h => h) (Or.inl ⟨by rfl, ?_⟩) ?_ ?_
    rotate_left
    · intro w'
      go_simp
      with_reducible rfl
    rotate_left
    · simp only [Act.put, List.setIfInBounds_toArray, List.set_cons_zero, List.set_cons_succ, i64_w, i32_w]
      rfl
    refine pure_ (i := 13) (N := some 28) (v := ?_) (a' := ?_) #[true, true, true, true, true, true, true, true, true, true, true, true, true, true, false, false] rfl rfl (any_of HT_.out (by kernel_rfl)) (fun _ _ _ h => h) (Or.inl ⟨by rfl, ?_⟩) ?_ ?_
    rotate_left
    · intro w'
      go_simp
      with_reducible rfl
    rotate_left
    · simp only [Act.put, List.setIfInBounds_toArray, List.set_cons_zero, List.set_cons_succ, i64_w, i32_w]
      rfl
    refine pure_ (i := 14) (N := some 8) (v := ?_) (a' := ?_) #[true, true, true, true, true, true, true, true, true, true, true, true, true, true, true, false] rfl rfl (any_of HT_.out (by kernel_rfl)) (fun _ _ _ h => h) (Or.inl ⟨by rfl, ?_⟩) ?_ ?_
    rotate_left
    · intro w'
      go_simp
      with_reducible rfl
    rotate_left
    · simp only [Act.put, List.setIfInBounds_toArray, List.set_cons_zero, List.set_cons_succ, i64_w, i32_w]
      rfl
    refine pure_ (i := 15) (N := some 9) (v := ?_) (a' := ?_) #[true, true, true, true, true, true, true, true, true, true, true, true, true, true, true, true] rfl rfl (any_of HT_.out (by kernel_rfl)) (fun _ _ _ h => h) (Or.inl ⟨by rfl, ?_⟩) ?_ ?_
    rotate_left
    · intro w'
      go_simp
      with_reducible rfl
    rotate_left
    · simp only [Act.put, List.setIfInBounds_toArray, List.set_cons_zero, List.set_cons_succ, i64_w, i32_w]
      rfl
    refine done_ (done_of HT_.out (by kernel_rfl)) ?_
    clear hs0 hs1
    have hfz : ∀ i, w4.frozen? ⟨g, i, none⟩ = false := by obtain ⟨_, _, _, _, _, hf, _⟩ := H.out.cells; exact hf
    have f2 := hfz 2
    clear hfz
    go_wp2_with fail
    go_ret
    exact Took.stop (.inl rfl) rfl (H.out.set_bad true) (Fr.set (X := fun i => i = g) (Fr.of_below HB4.out) (p := ⟨g, 2, none⟩) rfl _)
  · skip
    rw [if_neg hca] at hCd
    have hcall := HG.out w.drew (A.map (fun x => x.add at_)) (c - at_) (below_drew1 (Below.refl _ _)) (Kd.C_drew (by rw [show at_ * (Kd.int IntKind.u8).sz = at_ from Nat.mul_one at_] at hCd; exact hCd)) (by omega)
    rw [hld] at hcall
    have HL := Lib.hid hcall
    have H := Lib.hid (h.below (below_drew1 (Below.refl _ _)))
    have H0 := Lib.hid h0
    have H1 := Lib.hid h1
    have H2 := Lib.hid h2
    have HC := Lib.hid hC
    clear hcall h hC hCd HG
    go_enter Try.func30, Try.ntmps30
    go_wp2_with fail
    refine start_ (n := 16) (S := fun w' => w'.cell? ⟨g, 0, none⟩ = some (.slice A l.length c) ∧ w'.cell? ⟨g, 1, none⟩ = some (.int .i64 at_)) (ds := []) #[false, false, false, false, false, false, false, false, false, false, false, false, false, false, false, false] (by kernel_rfl) rfl rfl ⟨H0.out, H1.out⟩ (fun hHeld => ?_); refine with_tabW tabTakeS bitsTakeS (fun HT_ HW_ => ?_)
    refine pure_ (i := 0) (N := some 16) (v := ?_) (a' := ?_) #[true, false, false, false, false, false, false, false, false, false, false, false, false, false, false, false] rfl rfl (any_of HT_.out (by kernel_rfl)) (fun _ _ _ h => h) (Or.inl ⟨by rfl, ?_⟩) ?_ ?_
    rotate_left
    · intro w'
      go_simp
      with_reducible rfl
    rotate_left
    · simp only [Act.put, List.setIfInBounds_toArray, List.set_cons_zero, List.set_cons_succ, i64_w, i32_w]
      rfl
    refine pure_ (i := 1) (N := some 17) (v := ?_) (a' := ?_) #[true, true, false, false, false, false, false, false, false, false, false, false, false, false, false, false] rfl rfl (any_of HT_.out (by kernel_rfl)) (fun _ _ _ h => h) (Or.inl ⟨by rfl, ?_⟩) ?_ ?_
    rotate_left
    · intro w'
      go_simp
      with_reducible rfl
    rotate_left
    · simp only [Act.put, List.setIfInBounds_toArray, List.set_cons_zero, List.set_cons_succ, i64_w, i32_w]
      rfl
    refine pure_ (i := 2) (N := some 18) (v := ?_) (a' := ?_) #[true, true, true, false, false, false, false, false, false, false, false, false, false, false, false, false] rfl rfl (any_of HT_.out (by kernel_rfl)) (fun _ _ _ h => h) (Or.inl ⟨by rfl, ?_⟩) ?_ ?_
    rotate_left
    · intro w'
      go_simp
      with_reducible rfl
    rotate_left
    · simp only [Act.put, List.setIfInBounds_toArray, List.set_cons_zero, List.set_cons_succ, i64_w, i32_w]
      rfl
    refine pure_ (i := 3) (N := some 19) (v := ?_) (a' := ?_) #[true, true, true, true, false, false, false, false, false, false, false, false, false, false, false, false] rfl rfl (any_of HT_.out (by kernel_rfl)) (fun _ _ _ h => h) (Or.inl ⟨by rfl, ?_⟩) ?_ ?_
    rotate_left
    · intro w'
      go_simp
      with_reducible rfl
    rotate_left
    · simp only [Act.put, List.setIfInBounds_toArray, List.set_cons_zero, List.set_cons_succ, i64_w, i32_w]
      rfl
    refine take_ (i := 4) (N := some 20) (v := ?_) (a' := ?_) #[true, true, true, true, true, false, false, false, false, false, false, false, false, false, false, false] rfl rfl (take_ofW HT_.out HW_.out (by kernel_rfl)) (fun _ _ _ h => h) (Or.inl ⟨by rfl, ?_⟩) hHeld ?_ ?_
    rotate_left
    · rintro w' ⟨s0_, s1_⟩
      go_simp
      with_reducible rfl
    rotate_left
    · simp only [Act.put, List.setIfInBounds_toArray, List.set_cons_zero, List.set_cons_succ, i64_w, i32_w]
      rfl
    refine pure_ (i := 5) (N := some 21) (v := ?_) (a' := ?_) #[true, true, true, true, true, true, false, false, false, false, false, false, false, false, false, false] rfl rfl (any_of HT_.out (by kernel_rfl)) (fun _ _ _ h => h) (Or.inl ⟨by rfl, ?_⟩) ?_ ?_
    rotate_left
    · intro w'
      go_simp
      with_reducible rfl
    rotate_left
    · simp only [Act.put, List.setIfInBounds_toArray, List.set_cons_zero, List.set_cons_succ, i64_w, i32_w]
      rfl
    refine pure_ (i := 6) (N := some 22) (v := ?_) (a' := ?_) #[true, true, true, true, true, true, true, false, false, false, false, false, false, false, false, false] rfl rfl (any_of HT_.out (by kernel_rfl)) (fun _ _ _ h => h) (Or.inl ⟨by rfl, ?_⟩) ?_ ?_
    rotate_left
    · intro w'
      go_simp
      with_reducible rfl
    rotate_left
    · simp only [Act.put, List.setIfInBounds_toArray, List.set_cons_zero, List.set_cons_succ, i64_w, i32_w]
      rfl
    refine pure_ (i := 7) (N := some 23) (v := ?_) (a' := ?_) #[true, true, true, true, true, true, true, true, false, false, false, false, false, false, false, false] rfl rfl (any_of HT_.out (by kernel_rfl)) (fun _ _ _ h => h) (Or.inl ⟨by rfl, ?_⟩) ?_ ?_
    rotate_left
    · intro w'
      go_simp
      with_reducible rfl
    rotate_left
    · simp only [Act.put, List.setIfInBounds_toArray, List.set_cons_zero, List.set_cons_succ, i64_w, i32_w]
      rfl
    refine take_ (i := 8) (N := some 24) (v := ?_) (a' := ?_) #[true, true, true, true, true, true, true, true, true, false, false, false, false, false, false, false] rfl rfl (take_ofW HT_.out HW_.out (by kernel_rfl)) (fun _ _ _ h => h) (Or.inl ⟨by rfl, ?_⟩) hHeld ?_ ?_
    rotate_left
    · rintro w' ⟨s0_, s1_⟩
      go_simp
      with_reducible rfl
    rotate_left
    · simp only [Act.put, List.setIfInBounds_toArray, List.set_cons_zero, List.set_cons_succ, i64_w, i32_w]
      rfl
    refine pure_ (i := 9) (N := some 25) (v := ?_) (a' := ?_) #[true, true, true, true, true, true, true, true, true, true, false, false, false, false, false, false] rfl rfl (any_of HT_.out (by kernel_rfl)) (fun _ _ _ h => h) (Or.inl ⟨by rfl, ?_⟩) ?_ ?_
    rotate_left
    · intro w'
      go_simp
      with_reducible rfl
    rotate_left
    · simp only [Act.put, List.setIfInBounds_toArray, List.set_cons_zero, List.set_cons_succ, i64_w, i32_w]
      rfl
    refine one_ (i := 10) (N := some 26) #[true, true, true, true, true, true, true, true, true, true, true, false, false, false, false, false] rfl rfl (one_of HT_.out (by kernel_rfl)) (by decide) (fun K hK => ?_)
    refine call_ 28 #[.slice (A.map (fun x => x.add at_)) (l.length - at_) (c - at_), .pointer (some ⟨q, 0, none⟩)] (by rfl) rfl ?_ ?_
    · have he := enters_ Try.func28 (by kernel_rfl) rfl #[.slice (A.map (fun x => x.add at_)) (l.length - at_) (c - at_), .pointer (some ⟨q, 0, none⟩)] w.drew
      unfold execOp
      simp [resolve, Deferred.ofValue, invoke, Act.eval, he]
    refine HL.out.mono ?_
    rintro e w4 ⟨rfl, hb4⟩
    refine ⟨_, rfl, ?_⟩
    have n0_ := Lib.hid (H.out.below hb4); clear H; have H := n0_; clear n0_
    have HB4 := Lib.hid (below_drew1 (Below.refl w.heap.size w) |>.trans hb4)
    have hs0 : w4.cell? ⟨g, 0, none⟩ = some (.slice A l.length c) := pw_cell_below hb4 H0.out
    have hs1 : w4.cell? ⟨g, 1, none⟩ = some (.int .i64 at_) := pw_cell_below hb4 H1.out
    have hs2 : w4.cell? ⟨g, 2, none⟩ = some (.bool false) := pw_cell_below hb4 H2.out
    clear hb4 HL
    refine hK.out _ _ ⟨hs0, hs1⟩ (fun hHeld => ?_)
    clear hK K
    refine norm_ (a' := ?_) ?_ ?_
    rotate_left
    · show Act.put _ (some 26) _ = _
      simp only [Act.put, List.setIfInBounds_toArray, List.set_cons_zero, List.set_cons_succ, i64_w, i32_w]
      rfl
    refine pure_ (i := 11) (N := some 15) (v := ?_) (a' := ?_) #[true, true, true, true, true, true, true, true, true, true, true, true, false, false, false, false] rfl rfl (any_of HT_.out (by kernel_rfl)) (fun _ _ _ h => h) (Or.inl ⟨by rfl, ?_⟩) ?_ ?_
    rotate_left
    · intro w'
      go_simp
      with_reducible rfl
    rotate_left
    · simp only [Act.put, List.setIfInBounds_toArray, List.set_cons_zero, List.set_cons_succ, i64_w, i32_w]
      rfl
    refine pure_ (i := 12) (N := some 27) (v := ?_) (a' := ?_) #[true, true, true, true, true, true, true, true, true, true, true, true, true, false, false, false] rfl rfl (any_of HT_.out (by kernel_rfl)) (fun _ _ _ h => h) (Or.inl ⟨by rfl, ?_⟩) ?_ ?_
    rotate_left
    · intro w'
      go_simp
      with_reducible rfl
    rotate_left
    · simp only [Act.put, List.setIfInBounds_toArray, List.set_cons_zero, List.set_cons_succ, i64_w, i32_w]
      rfl
    refine pure_ (i := 13) (N := some 28) (v := ?_) (a' := ?_) #[true, true, true, true, true, true, true, true, true, true, true, true, true, true, false, false] rfl rfl (any_of HT_.out (by kernel_rfl)) (fun _ _ _ h => h) (Or.inl ⟨by rfl, ?_⟩) ?_ ?_
    rotate_left
    · intro w'
      go_simp
      with_reducible rfl
    rotate_left
    · simp only [Act.put, List.setIfInBounds_toArray, List.set_cons_zero, List.set_cons_succ, i64_w, i32_w]
      rfl
    refine pure_ (i := 14) (N := some 8) (v := ?_) (a' := ?_) #[true, true, true, true, true, true, true, true, true, true, true, true, true, true, true, false] rfl rfl (any_of HT_.out (by kernel_rfl)) (fun _ _ _ h => h) (Or.inl ⟨by rfl, ?_⟩) ?_ ?_
    rotate_left
    · intro w'
      go_simp
      with_reducible rfl
    rotate_left
    · simp only [Act.put, List.setIfInBounds_toArray, List.set_cons_zero, List.set_cons_succ, i64_w, i32_w]
      rfl
    refine pure_ (i := 15) (N := some 9) (v := ?_) (a' := ?_) #[true, true, true, true, true, true, true, true, true, true, true, true, true, true, true, true] rfl rfl (any_of HT_.out (by kernel_rfl)) (fun _ _ _ h => h) (Or.inl ⟨by rfl, ?_⟩) ?_ ?_
    rotate_left
    · intro w'
      go_simp
      with_reducible rfl
    rotate_left
    · simp only [Act.put, List.setIfInBounds_toArray, List.set_cons_zero, List.set_cons_succ, i64_w, i32_w]
      rfl
    refine done_ (done_of HT_.out (by kernel_rfl)) ?_
    clear hs0 hs1
    rcases (show k = 0 ∨ (k ≠ 0 ∧ ok = false) ∨ (k ≠ 0 ∧ ok = true) from by
      by_cases hk : k = 0
      · exact .inl hk
      · cases ok
        · exact .inr (.inl ⟨hk, rfl⟩)
        · exact .inr (.inr ⟨hk, rfl⟩)) with hk | ⟨hk, hok⟩ | ⟨hk, hok⟩
    · subst hk
      have hfz : ∀ i, w4.frozen? ⟨g, i, none⟩ = false := by obtain ⟨_, _, _, _, _, hf, _⟩ := H.out.cells; exact hf
      have f2 := hfz 2
      clear hfz
      go_wp2_with fail
      go_ret
      exact Took.stop (.inl rfl) rfl (H.out.set_bad true) (Fr.set (X := fun i => i = g) (Fr.of_below HB4.out) (p := ⟨g, 2, none⟩) rfl _)
    · subst hok
      have hkz : ((k : Int) == 0) = false := beq_eq_false_iff_ne.mpr (by omega)
      have hfz : ∀ i, w4.frozen? ⟨g, i, none⟩ = false := by obtain ⟨_, _, _, _, _, hf, _⟩ := H.out.cells; exact hf
      have f2 := hfz 2
      have HK := Lib.hid hk
      clear hfz hk
      go_wp2_with fail
      refine (HM.out w4 HB4.out).mono ?_
      rintro e w5 ⟨rfl, rfl⟩
      go_wp2_with fail
      go_ret
      exact Took.stop (.inr rfl) rfl (H.out.set_bad true) (Fr.set (X := fun i => i = g) (Fr.of_below HB4.out) (p := ⟨g, 2, none⟩) rfl _)
    · subst hok
      have hkz : ((k : Int) == 0) = false := beq_eq_false_iff_ne.mpr (by omega)
      have hs1 : w4.cell? ⟨g, 1, none⟩ = some (.int .i64 at_) := by obtain ⟨_, _, _, h, _⟩ := H.out.cells; exact h
      have hfz : ∀ i, w4.frozen? ⟨g, i, none⟩ = false := by obtain ⟨_, _, _, _, _, hf, _⟩ := H.out.cells; exact hf
      have f1 := hfz 1
      have HK := Lib.hid hk
      have hsum : ((at_ : Int) + (k : Int)) = ((at_ + k : Nat) : Int) := by omega
      have HS := Lib.hid hsum
      clear hfz hk hsum
      go_wp2_with fail
      refine (HM.out w4 HB4.out).mono ?_
      rintro e w5 ⟨rfl, rfl⟩
      go_wp2_with fail
      go_ret
      have hk := HK.out
      rw [HS.out]
      exact Took.go hk rfl (H.out.set_at (at_ + k) hkl) (Fr.set (X := fun i => i = g) (Fr.of_below HB4.out) (p := ⟨g, 1, none⟩) rfl _)
end
end Go.Proofs.Yteencbkopkpelaa.Hand
