import Derived.Test.YtmklmpajcomimaaZLeb
section
/- take: one read of a reader, by its getter and its bound. -/
namespace Go.Proofs.Ytmklmpajcomimaa.Hand
open Go.RowKit Go.Proofs.YtmklmpajcomimaaW.PrintWords Go.Proofs.YtmklmpajcomimaaW.PrintLast Go.Proofs.YtmklmpajcomimaaW.PrintMore Go.Proofs.Ytmklmpajcomimaa.PTraceWrites
set_option linter.unusedVariables false
set_option linter.unusedSimpArgs false
def TTakeI : Bool × List (List Nat × List Nat) := (true, [([], []), ([], []), ([1], [1]), ([2], [2]), ([3], [3]), ([], []), ([5], [5]), ([6], [6]), ([7], [7]), ([4, 8], [4, 8]), ([0, 9], [0, 9]), ([10], [10]), ([11], [11]), ([11], [11]), ([12, 10, 0, 1, 2, 3, 4, 5, 6, 7, 8, 9, 10, 11, 12], [12]), ([13, 14, 0, 1, 2, 3, 4, 5, 6, 7, 8, 9, 10, 11, 12, 13, 14], [13])])
def BTakeI : List Nat := [0, 0, 2, 6, 14, 0, 32, 96, 224, 510, 1023, 2047, 4095, 4095, 8191, 32767]
theorem tabTakeI : rtab .any (opsOf Try.f70 4) = TTakeI := by kernel_rfl
theorem bitsTakeI : waitsOk TTakeI.2 BTakeI = true := by kernel_rfl
def TTakeS : Bool × List (List Nat × List Nat) := (true, [([], []), ([], []), ([1], [1]), ([2], [2]), ([3], [3]), ([], []), ([5], [5]), ([6], [6]), ([7], [7]), ([4, 8], [4, 8]), ([0, 9], [0, 9]), ([10], [10]), ([11], [11]), ([11], [11]), ([12, 10, 0, 1, 2, 3, 4, 5, 6, 7, 8, 9, 10, 11, 12], [12]), ([13, 14, 0, 1, 2, 3, 4, 5, 6, 7, 8, 9, 10, 11, 12, 13, 14], [13])])
def BTakeS : List Nat := [0, 0, 2, 6, 14, 0, 32, 96, 224, 510, 1023, 2047, 4095, 4095, 8191, 32767]
theorem tabTakeS : rtab .any (opsOf Try.f75 4) = TTakeS := by kernel_rfl
theorem bitsTakeS : waitsOk TTakeS.2 BTakeS = true := by kernel_rfl
section
variable {w : World} {g base : Nat} {l : List Int} {at_ : Nat} {bad : Bool}
theorem Rdr.set_at (h : Rdr w g base l at_ bad) (x : Nat) (hx : x ≤ l.length) : Rdr (w.setCell ⟨g, 1, none⟩ (.int .i64 (x : Int))) g base l x bad := by
  obtain ⟨A, c, hg, hr, _, h2, h3⟩ := h
  exact ⟨A, c, blk_put hg 1 (.int .i64 (x : Int)) rfl, Kd.R_far hr (p := ⟨g, 1, none⟩) (fun k hk => hk) _, hx, h2, h3⟩
theorem Rdr.set_bad (h : Rdr w g base l at_ bad) (x : Bool) : Rdr (w.setCell ⟨g, 2, none⟩ (.bool x)) g base l at_ x := by
  obtain ⟨A, c, hg, hr, h1, h2, h3⟩ := h
  exact ⟨A, c, blk_put hg 2 (.bool x) rfl, Kd.R_far hr (p := ⟨g, 2, none⟩) (fun k hk => hk) _, h1, h2, h3⟩
/-- What a read leaves: nothing was there, or may be (it is bad then); or a value, and the reader stands behind it. -/
def Took (w : World) (g base : Nat) (l : List Int) (at_ k : Nat) (ok : Bool) (zero V : Value) (e : Ending) (w' : World) : Prop :=
  e = .returned (if k = 0 ∨ ok = false then zero else V) ∧ Rdr w' g base l (if k = 0 ∨ ok = false then at_ else at_ + k) (decide (k = 0 ∨ ok = false)) ∧ Fr (fun i => i = g) w w'
theorem Took.stop {k : Nat} {ok : Bool} {zero V : Value} {e : Ending} {w' : World} (h : k = 0 ∨ ok = false) (he : e = .returned zero) (hr : Rdr w' g base l at_ true) (hf : Fr (fun i => i = g) w w') : Took w g base l at_ k ok zero V e w' := by
  unfold Took
  rw [if_pos h, if_pos h, decide_eq_true h]
  exact ⟨he, hr, hf⟩
theorem Took.go {k : Nat} {zero V : Value} {e : Ending} {w' : World} (h : k ≠ 0) (he : e = .returned V) (hr : Rdr w' g base l (at_ + k) false) (hf : Fr (fun i => i = g) w w') : Took w g base l at_ k true zero V e w' := by
  have h' : ¬ (k = 0 ∨ true = false) := by simp [h]
  unfold Took
  rw [if_neg h', if_neg h', decide_eq_false h']
  exact ⟨he, hr, hf⟩
set_option maxHeartbeats 4000000 in
theorem int_good (h : Rdr w g base l at_ false) (q : Nat) (n : Int) (k : Nat) (hkl : at_ + k ≤ l.length) (ok : Bool)
    (hget : ∀ (W : World) (A' : Option Addr) (c' : Nat), Below w.heap.size w W → Kd.C (Kd.int .u8) W A' (l.drop at_).length (l.drop at_) → (l.drop at_).length ≤ c' → Calls Try.prog 57 #[.slice A' (l.drop at_).length c'] W fun e w' => e = .returned (.tuple #[.int .i64 n, .int .i64 (k : Int)]) ∧ Below W.heap.size W w')
    (hmay : ∀ W : World, Below w.heap.size w W → Calls Try.prog 72 #[.int .i64 n, .pointer (some ⟨q, 0, none⟩)] W fun e w' => e = .returned (.bool ok) ∧ W = w') :
    Calls Try.prog 70 #[.pointer (some ⟨g, 0, none⟩), .func (.func 57) #[] #[], .func (.func 72) #[] #[.pointer (some ⟨q, 0, none⟩)]] w (Took w g base l at_ k ok (.int .i64 0) (.int .i64 n)) := by
  obtain ⟨A, c, h0, h1, h2, hf, hC, hl⟩ := h.cells
  have hlt := h.lt
  have hCd := Kd.C_drop hC hlt.2.1 hl
  have hld : (l.drop at_).length = l.length - at_ := List.length_drop
  have hca : at_ = c ∨ c ≠ at_ := by omega
  have HG := Lib.hid hget
  have HM := Lib.hid hmay
  clear hget hmay hf
  rcases hca with hca | hca
  · subst hca
    have hld : (l.drop at_).length = 0 := by omega
    obtain rfl : k = 0 := by omega
    rw [if_pos rfl] at hCd
    have hcall := HG.out w.drew A 0 (below_drew1 (Below.refl _ _)) (Kd.C_drew (hCd)) (by omega)
    rw [hld] at hcall
    have HL := Lib.hid hcall
    have H := Lib.hid (h.below (below_drew1 (Below.refl _ _)))
    have H0 := Lib.hid h0
    have H1 := Lib.hid h1
    have H2 := Lib.hid h2
    have HC := Lib.hid hC
    clear hcall h hC hCd HG
    go_enter Try.func70, Try.ntmps70
    go_wp2_with fail
    refine start_ (n := 16) (S := fun w' => w'.cell? ⟨g, 0, none⟩ = some (.slice A l.length at_) ∧ w'.cell? ⟨g, 1, none⟩ = some (.int .i64 at_)) (ds := []) #[false, false, false, false, false, false, false, false, false, false, false, false, false, false, false, false] (by kernel_rfl) rfl rfl ⟨H0.out, H1.out⟩ (fun hHeld => ?_); refine with_tabW tabTakeI bitsTakeI (fun HT_ HW_ => ?_)
    refine pure_ (i := 0) (N := some 16) (v := ?_) (a' := ?_) #[true, false, false, false, false, false, false, false, false, false, false, false, false, false, false, false] rfl rfl (any_of HT_.out (by kernel_rfl)) (fun _ _ _ h => h) (Or.inl ⟨by rfl, ?_⟩) ?_ ?_
    rotate_left
    · intro w'
      go_simp
      with_reducible rfl
    rotate_left
    · simp only [Act.put, List.setIfInBounds_toArray, List.set_cons_zero, List.set_cons_succ, i64_w, i32_w]
      rfl
    refine pure_ (i := 1) (N := some 17) (v := ?_) (a' := ?_) #[true, true, false, false, false, false, false, false, false, false, false, false, false, false, false, false] rfl rfl (any_of HT_.out (by kernel_rfl)) (fun _ _ _ h => h) (Or.inl ⟨by rfl, ?_⟩) ?_ ?_
    rotate_left
    · intro w'
      go_simp
      with_reducible rfl
    rotate_left
    · simp only [Act.put, List.setIfInBounds_toArray, List.set_cons_zero, List.set_cons_succ, i64_w, i32_w]
      rfl
    refine pure_ (i := 2) (N := some 18) (v := ?_) (a' := ?_) #[true, true, true, false, false, false, false, false, false, false, false, false, false, false, false, false] rfl rfl (any_of HT_.out (by kernel_rfl)) (fun _ _ _ h => h) (Or.inl ⟨by rfl, ?_⟩) ?_ ?_
    rotate_left
    · intro w'
      go_simp
      with_reducible rfl
    rotate_left
    · simp only [Act.put, List.setIfInBounds_toArray, List.set_cons_zero, List.set_cons_succ, i64_w, i32_w]
      rfl
    refine pure_ (i := 3) (N := some 19) (v := ?_) (a' := ?_) #[true, true, true, true, false, false, false, false, false, false, false, false, false, false, false, false] rfl rfl (any_of HT_.out (by kernel_rfl)) (fun _ _ _ h => h) (Or.inl ⟨by rfl, ?_⟩) ?_ ?_
    rotate_left
    · intro w'
      go_simp
      with_reducible rfl
    rotate_left
    · simp only [Act.put, List.setIfInBounds_toArray, List.set_cons_zero, List.set_cons_succ, i64_w, i32_w]
      rfl
    refine take_ (i := 4) (N := some 20) (v := ?_) (a' := ?_) #[true, true, true, true, true, false, false, false, false, false, false, false, false, false, false, false] rfl rfl (take_ofW HT_.out HW_.out (by kernel_rfl)) (fun _ _ _ h => h) (Or.inl ⟨by rfl, ?_⟩) hHeld ?_ ?_
    rotate_left
    · rintro w' ⟨s0_, s1_⟩
      go_simp
      with_reducible rfl
    rotate_left
    · simp only [Act.put, List.setIfInBounds_toArray, List.set_cons_zero, List.set_cons_succ, i64_w, i32_w]
      rfl
    refine pure_ (i := 5) (N := some 21) (v := ?_) (a' := ?_) #[true, true, true, true, true, true, false, false, false, false, false, false, false, false, false, false] rfl rfl (any_of HT_.out (by kernel_rfl)) (fun _ _ _ h => h) (Or.inl ⟨by rfl, ?_⟩) ?_ ?_
    rotate_left
    · intro w'
      go_simp
      with_reducible rfl
    rotate_left
    · simp only [Act.put, List.setIfInBounds_toArray, List.set_cons_zero, List.set_cons_succ, i64_w, i32_w]
      rfl
    refine pure_ (i := 6) (N := some 22) (v := ?_) (a' := ?_) #[true, true, true, true, true, true, true, false, false, false, false, false, false, false, false, false] rfl rfl (any_of HT_.out (by kernel_rfl)) (fun _ _ _ h => h) (Or.inl ⟨by rfl, ?_⟩) ?_ ?_
    rotate_left
    · intro w'
      go_simp
      with_reducible rfl
    rotate_left
    · simp only [Act.put, List.setIfInBounds_toArray, List.set_cons_zero, List.set_cons_succ, i64_w, i32_w]
      rfl
    refine pure_ (i := 7) (N := some 23) (v := ?_) (a' := ?_) #[true, true, true, true, true, true, true, true, false, false, false, false, false, false, false, false] rfl rfl (any_of HT_.out (by kernel_rfl)) (fun _ _ _ h => h) (Or.inl ⟨by rfl, ?_⟩) ?_ ?_
    rotate_left
    · intro w'
      go_simp
      with_reducible rfl
    rotate_left
    · simp only [Act.put, List.setIfInBounds_toArray, List.set_cons_zero, List.set_cons_succ, i64_w, i32_w]
      rfl
    refine take_ (i := 8) (N := some 24) (v := ?_) (a' := ?_) #[true, true, true, true, true, true, true, true, true, false, false, false, false, false, false, false] rfl rfl (take_ofW HT_.out HW_.out (by kernel_rfl)) (fun _ _ _ h => h) (Or.inl ⟨by rfl, ?_⟩) hHeld ?_ ?_
    rotate_left
    · rintro w' ⟨s0_, s1_⟩
      go_simp
      with_reducible rfl
    rotate_left
    · simp only [Act.put, List.setIfInBounds_toArray, List.set_cons_zero, List.set_cons_succ, i64_w, i32_w]
      rfl
    refine pure_ (i := 9) (N := some 25) (v := ?_) (a' := ?_) #[true, true, true, true, true, true, true, true, true, true, false, false, false, false, false, false] rfl rfl (any_of HT_.out (by kernel_rfl)) (fun _ _ _ h => h) (Or.inl ⟨by rfl, ?_⟩) ?_ ?_
    rotate_left
    · intro w'
      go_simp
      with_reducible rfl
    rotate_left
    · simp only [Act.put, List.setIfInBounds_toArray, List.set_cons_zero, List.set_cons_succ, i64_w, i32_w]
      rfl
    refine one_ (i := 10) (N := some 26) #[true, true, true, true, true, true, true, true, true, true, true, false, false, false, false, false] rfl rfl (one_of HT_.out (by kernel_rfl)) (by decide) (fun K hK => ?_)
    refine call_ 57 #[.slice A 0 0] (by rfl) rfl ?_ ?_
    · have he := enters_ Try.func57 (by kernel_rfl) rfl #[.slice A 0 0] w.drew
      unfold execOp
      simp [resolve, Deferred.ofValue, invoke, Act.eval, he]
    refine HL.out.mono ?_
    rintro e w4 ⟨rfl, hb4⟩
    refine ⟨_, rfl, ?_⟩
    have n0_ := Lib.hid (H.out.below hb4); clear H; have H := n0_; clear n0_
    have HB4 := Lib.hid (below_drew1 (Below.refl w.heap.size w) |>.trans hb4)
    have hs0 : w4.cell? ⟨g, 0, none⟩ = some (.slice A l.length at_) := pw_cell_below hb4 H0.out
    have hs1 : w4.cell? ⟨g, 1, none⟩ = some (.int .i64 at_) := pw_cell_below hb4 H1.out
    have hs2 : w4.cell? ⟨g, 2, none⟩ = some (.bool false) := pw_cell_below hb4 H2.out
    clear hb4 HL
    refine hK.out _ _ ⟨hs0, hs1⟩ (fun hHeld => ?_)
    clear hK K
    refine norm_ (a' := ?_) ?_ ?_
    rotate_left
    · show Act.put _ (some 26) _ = _
      simp only [Act.put, List.setIfInBounds_toArray, List.set_cons_zero, List.set_cons_succ, i64_w, i32_w]
      rfl
    refine pure_ (i := 11) (N := some 15) (v := ?_) (a' := ?_) #[true, true, true, true, true, true, true, true, true, true, true, true, false, false, false, false] rfl rfl (any_of HT_.out (by kernel_rfl)) (fun _ _ _ h => h) (Or.inl ⟨by rfl, ?_⟩) ?_ ?_
    rotate_left
    · intro w'
      go_simp
      with_reducible rfl
    rotate_left
    · simp only [Act.put, List.setIfInBounds_toArray, List.set_cons_zero, List.set_cons_succ, i64_w, i32_w]
      rfl
    refine pure_ (i := 12) (N := some 27) (v := ?_) (a' := ?_) #[true, true, true, true, true, true, true, true, true, true, true, true, true, false, false, false] rfl rfl (any_of HT_.out (by kernel_rfl)) (fun _ _ _ h => h) (Or.inl ⟨by rfl, ?_⟩) ?_ ?_
    rotate_left
    · intro w'
      go_simp
      with_reducible rfl
    rotate_left
    · simp only [Act.put, List.setIfInBounds_toArray, List.set_cons_zero, List.set_cons_succ, i64_w, i32_w]
      rfl
    refine pure_ (i := 13) (N := some 28) (v := ?_) (a' := ?_) #[true, true, true, true, true, true, true, true, true, true, true, true, true, true, false, false] rfl rfl (any_of HT_.out (by kernel_rfl)) (fun _ _ _ h => h) (Or.inl ⟨by rfl, ?_⟩) ?_ ?_
    rotate_left
    · intro w'
      go_simp
      with_reducible rfl
    rotate_left
    · simp only [Act.put, List.setIfInBounds_toArray, List.set_cons_zero, List.set_cons_succ, i64_w, i32_w]
      rfl
    refine pure_ (i := 14) (N := some 8) (v := ?_) (a' := ?_) #[true, true, true, true, true, true, true, true, true, true, true, true, true, true, true, false] rfl rfl (any_of HT_.out (by kernel_rfl)) (fun _ _ _ h => h) (Or.inl ⟨by rfl, ?_⟩) ?_ ?_
    rotate_left
    · intro w'
      go_simp
      with_reducible rfl
    rotate_left
    · simp only [Act.put, List.setIfInBounds_toArray, List.set_cons_zero, List.set_cons_succ, i64_w, i32_w]
      rfl
    refine pure_ (i := 15) (N := some 9) (v := ?_) (a' := ?_) #[true, true, true, true, true, true, true, true, true, true, true, true, true, true, true, true] rfl rfl (any_of HT_.out (by kernel_rfl)) (fun _ _ _ h => h) (Or.inl ⟨by rfl, ?_⟩) ?_ ?_
    rotate_left
    · intro w'
      go_simp
      with_reducible rfl
    rotate_left
    · simp only [Act.put, List.setIfInBounds_toArray, List.set_cons_zero, List.set_cons_succ, i64_w, i32_w]
      rfl
    refine done_ (done_of HT_.out (by kernel_rfl)) ?_
    clear hs0 hs1
    have hfz : ∀ i, w4.frozen? ⟨g, i, none⟩ = false := by obtain ⟨_, _, _, _, _, hf, _⟩ := H.out.cells; exact hf
    have f2 := hfz 2
    clear hfz
    go_wp2_with fail
    go_ret
    exact Took.stop (.inl rfl) rfl (H.out.set_bad true) (Fr.set (X := fun i => i = g) (Fr.of_below HB4.out) (p := ⟨g, 2, none⟩) rfl _)
  · skip
    rw [if_neg hca] at hCd
    have hcall := HG.out w.drew (A.map (fun x => x.add at_)) (c - at_) (below_drew1 (Below.refl _ _)) (Kd.C_drew (by rw [show at_ * (Kd.int IntKind.u8).sz = at_ from Nat.mul_one at_] at hCd; exact hCd)) (by omega)
    rw [hld] at hcall
    have HL := Lib.hid hcall
    have H := Lib.hid (h.below (below_drew1 (Below.refl _ _)))
    have H0 := Lib.hid h0
    have H1 := Lib.hid h1
    have H2 := Lib.hid h2
    have HC := Lib.hid hC
    clear hcall h hC hCd HG
    go_enter Try.func70, Try.ntmps70
    go_wp2_with fail
    refine start_ (n := 16) (S := fun w' => w'.cell? ⟨g, 0, none⟩ = some (.slice A l.length c) ∧ w'.cell? ⟨g, 1, none⟩ = some (.int .i64 at_)) (ds := []) #[false, false, false, false, false, false, false, false, false, false, false, false, false, false, false, false] (by kernel_rfl) rfl rfl ⟨H0.out, H1.out⟩ (fun hHeld => ?_); refine with_tabW tabTakeI bitsTakeI (fun HT_ HW_ => ?_)
    refine pure_ (i := 0) (N := some 16) (v := ?_) (a' := ?_) #[true, false, false, false, false, false, false, false, false, false, false, false, false, false, false, false] rfl rfl (any_of HT_.out (by kernel_rfl)) (fun _ _ _ h => h) (Or.inl ⟨by rfl, ?_⟩) ?_ ?_
    rotate_left
    · intro w'
      go_simp
      with_reducible rfl
    rotate_left
    · simp only [Act.put, List.setIfInBounds_toArray, List.set_cons_zero, List.set_cons_succ, i64_w, i32_w]
      rfl
    refine pure_ (i := 1) (N := some 17) (v := ?_) (a' := ?_) #[true, true, false, false, false, false, false, false, false, false, false, false, false, false, false, false] rfl rfl (any_of HT_.out (by kernel_rfl)) (fun _ _ _ h => h) (Or.inl ⟨by rfl, ?_⟩) ?_ ?_
    rotate_left
    · intro w'
      go_simp
      with_reducible rfl
    rotate_left
    · simp only [Act.put, List.setIfInBounds_toArray, List.set_cons_zero, List.set_cons_succ, i64_w, i32_w]
      rfl
    refine pure_ (i := 2) (N := some 18) (v := ?_) (a' := ?_) #[true, true, true, false, false, false, false, false, false, false, false, false, false, false, false, false] rfl rfl (any_of HT_.out (by kernel_rfl)) (fun _ _ _ h => h) (Or.inl ⟨by rfl, ?_⟩) ?_ ?_
    rotate_left
    · intro w'
      go_simp
      with_reducible rfl
    rotate_left
    · simp only [Act.put, List.setIfInBounds_toArray, List.set_cons_zero, List.set_cons_succ, i64_w, i32_w]
      rfl
    refine pure_ (i := 3) (N := some 19) (v := ?_) (a' := ?_) #[true, true, true, true, false, false, false, false, false, false, false, false, false, false, false, false] rfl rfl (any_of HT_.out (by kernel_rfl)) (fun _ _ _ h => h) (Or.inl ⟨by rfl, ?_⟩) ?_ ?_
    rotate_left
    · intro w'
      go_simp
      with_reducible rfl
    rotate_left
    · simp only [Act.put, List.setIfInBounds_toArray, List.set_cons_zero, List.set_cons_succ, i64_w, i32_w]
      rfl
    refine take_ (i := 4) (N := some 20) (v := ?_) (a' := ?_) #[true, true, true, true, true, false, false, false, false, false, false, false, false, false, false, false] rfl rfl (take_ofW HT_.out HW_.out (by kernel_rfl)) (fun _ _ _ h => h) (Or.inl ⟨by rfl, ?_⟩) hHeld ?_ ?_
    rotate_left
    · rintro w' ⟨s0_, s1_⟩
      go_simp
      with_reducible rfl
    rotate_left
    · simp only [Act.put, List.setIfInBounds_toArray, List.set_cons_zero, List.set_cons_succ, i64_w, i32_w]
      rfl
    refine pure_ (i := 5) (N := some 21) (v := ?_) (a' := ?_) #[true, true, true, true, true, true, false, false, false, false, false, false, false, false, false, false] rfl rfl (any_of HT_.out (by kernel_rfl)) (fun _ _ _ h => h) (Or.inl ⟨by rfl, ?_⟩) ?_ ?_
    rotate_left
    · intro w'
      go_simp
      with_reducible rfl
    rotate_left
    · simp only [Act.put, List.setIfInBounds_toArray, List.set_cons_zero, List.set_cons_succ, i64_w, i32_w]
      rfl
    refine pure_ (i := 6) (N := some 22) (v := ?_) (a' := ?_) #[true, true, true, true, true, true, true, false, false, false, false, false, false, false, false, false] rfl rfl (any_of HT_.out (by kernel_rfl)) (fun _ _ _ h => h) (Or.inl ⟨by rfl, ?_⟩) ?_ ?_
    rotate_left
    · intro w'
      go_simp
      with_reducible rfl
    rotate_left
    · simp only [Act.put, List.setIfInBounds_toArray, List.set_cons_zero, List.set_cons_succ, i64_w, i32_w]
      rfl
    refine pure_ (i := 7) (N := some 23) (v := ?_) (a' := ?_) #[true, true, true, true, true, true, true, true, false, false, false, false, false, false, false, false] rfl rfl (any_of HT_.out (by kernel_rfl)) (fun _ _ _ h => h) (Or.inl ⟨by rfl, ?_⟩) ?_ ?_
    rotate_left
    · intro w'
      go_simp
      with_reducible rfl
    rotate_left
    · simp only [Act.put, List.setIfInBounds_toArray, List.set_cons_zero, List.set_cons_succ, i64_w, i32_w]
      rfl
    refine take_ (i := 8) (N := some 24) (v := ?_) (a' := ?_) #[true, true, true, true, true, true, true, true, true, false, false, false, false, false, false, false] rfl rfl (take_ofW HT_.out HW_.out (by kernel_rfl)) (fun _ _ _ h => h) (Or.inl ⟨by rfl, ?_⟩) hHeld ?_ ?_
    rotate_left
    · rintro w' ⟨s0_, s1_⟩
      go_simp
      with_reducible rfl
    rotate_left
    · simp only [Act.put, List.setIfInBounds_toArray, List.set_cons_zero, List.set_cons_succ, i64_w, i32_w]
      rfl
    refine pure_ (i := 9) (N := some 25) (v := ?_) (a' := ?_) #[true, true, true, true, true, true, true, true, true, true, false, false, false, false, false, false] rfl rfl (any_of HT_.out (by kernel_rfl)) (fun _ _ _ h => h) (Or.inl ⟨by rfl, ?_⟩) ?_ ?_
    rotate_left
    · intro w'
      go_simp
      with_reducible rfl
    rotate_left
    · simp only [Act.put, List.setIfInBounds_toArray, List.set_cons_zero, List.set_cons_succ, i64_w, i32_w]
      rfl
    refine one_ (i := 10) (N := some 26) #[true, true, true, true, true, true, true, true, true, true, true, false, false, false, false, false] rfl rfl (one_of HT_.out (by kernel_rfl)) (by decide) (fun K hK => ?_)
    refine call_ 57 #[.slice (A.map (fun x => x.add at_)) (l.length - at_) (c - at_)] (by rfl) rfl ?_ ?_
    · have he := enters_ Try.func57 (by kernel_rfl) rfl #[.slice (A.map (fun x => x.add at_)) (l.length - at_) (c - at_)] w.drew
      unfold execOp
      simp [resolve, Deferred.ofValue, invoke, Act.eval, he]
    refine HL.out.mono ?_
    rintro e w4 ⟨rfl, hb4⟩
    refine ⟨_, rfl, ?_⟩
    have n0_ := Lib.hid (H.out.below hb4); clear H; have H := n0_; clear n0_
    have HB4 := Lib.hid (below_drew1 (Below.refl w.heap.size w) |>.trans hb4)
    have hs0 : w4.cell? ⟨g, 0, none⟩ = some (.slice A l.length c) := pw_cell_below hb4 H0.out
    have hs1 : w4.cell? ⟨g, 1, none⟩ = some (.int .i64 at_) := pw_cell_below hb4 H1.out
    have hs2 : w4.cell? ⟨g, 2, none⟩ = some (.bool false) := pw_cell_below hb4 H2.out
    clear hb4 HL
    refine hK.out _ _ ⟨hs0, hs1⟩ (fun hHeld => ?_)
    clear hK K
    refine norm_ (a' := ?_) ?_ ?_
    rotate_left
    · show Act.put _ (some 26) _ = _
      simp only [Act.put, List.setIfInBounds_toArray, List.set_cons_zero, List.set_cons_succ, i64_w, i32_w]
      rfl
    refine pure_ (i := 11) (N := some 15) (v := ?_) (a' := ?_) #[true, true, true, true, true, true, true, true, true, true, true, true, false, false, false, false] rfl rfl (any_of HT_.out (by kernel_rfl)) (fun _ _ _ h => h) (Or.inl ⟨by rfl, ?_⟩) ?_ ?_
    rotate_left
    · intro w'
      go_simp
      with_reducible rfl
    rotate_left
    · simp only [Act.put, List.setIfInBounds_toArray, List.set_cons_zero, List.set_cons_succ, i64_w, i32_w]
      rfl
    refine pure_ (i := 12) (N := some 27) (v := ?_) (a' := ?_) #[true, true, true, true, true, true, true, true, true, true, true, true, true, false, false, false] rfl rfl (any_of HT_.out (by kernel_rfl)) (fun _ _ _ h => h) (Or.inl ⟨by rfl, ?_⟩) ?_ ?_
    rotate_left
    · intro w'
      go_simp
      with_reducible rfl
    rotate_left
    · simp only [Act.put, List.setIfInBounds_toArray, List.set_cons_zero, List.set_cons_succ, i64_w, i32_w]
      rfl
    refine pure_ (i := 13) (N := some 28) (v := ?_) (a' := ?_) #[true, true, true, true, true, true, true, true, true, true, true, true, true, true, false, false] rfl rfl (any_of HT_.out (by kernel_rfl)) (fun _ _ _ h => h) (Or.inl ⟨by rfl, ?_⟩) ?_ ?_
    rotate_left
    · intro w'
      go_simp
      with_reducible rfl
    rotate_left
    · simp only [Act.put, List.setIfInBounds_toArray, List.set_cons_zero, List.set_cons_succ, i64_w, i32_w]
      rfl
    refine pure_ (i := 14) (N := some 8) (v := ?_) (a' := ?_) #[true, true, true, true, true, true, true, true, true, true, true, true, true, true, true, false] rfl rfl (any_of HT_.out (by kernel_rfl)) (fun _ _ _ h => h) (Or.inl ⟨by rfl, ?_⟩) ?_ ?_
    rotate_left
    · intro w'
      go_simp
      with_reducible rfl
    rotate_left
    · simp only [Act.put, List.setIfInBounds_toArray, List.set_cons_zero, List.set_cons_succ, i64_w, i32_w]
      rfl
    refine pure_ (i := 15) (N := some 9) (v := ?_) (a' := ?_) #[true, true, true, true, true, true, true, true, true, true, true, true, true, true, true, true] rfl rfl (any_of HT_.out (by kernel_rfl)) (fun _ _ _ h => h) (Or.inl ⟨by rfl, ?_⟩) ?_ ?_
    rotate_left
    · intro w'
      go_simp
      with_reducible rfl
    rotate_left
    · simp only [Act.put, List.setIfInBounds_toArray, List.set_cons_zero, List.set_cons_succ, i64_w, i32_w]
      rfl
    refine done_ (done_of HT_.out (by kernel_rfl)) ?_
    clear hs0 hs1
    rcases (show k = 0 ∨ (k ≠ 0 ∧ ok = false) ∨ (k ≠ 0 ∧ ok = true) from by
      by_cases hk : k = 0
      · exact .inl hk
      · cases ok
        · exact .inr (.inl ⟨hk, rfl⟩)
        · exact .inr (.inr ⟨hk, rfl⟩)) with hk | ⟨hk, hok⟩ | ⟨hk, hok⟩
    · subst hk
      have hfz : ∀ i, w4.frozen? ⟨g, i, none⟩ = false := by obtain ⟨_, _, _, _, _, hf, _⟩ := H.out.cells; exact hf
      have f2 := hfz 2
      clear hfz
      go_wp2_with fail
      go_ret
      exact Took.stop (.inl rfl) rfl (H.out.set_bad true) (Fr.set (X := fun i => i = g) (Fr.of_below HB4.out) (p := ⟨g, 2, none⟩) rfl _)
    · subst hok
      have hkz : ((k : Int) == 0) = false := beq_eq_false_iff_ne.mpr (by omega)
      have hfz : ∀ i, w4.frozen? ⟨g, i, none⟩ = false := by obtain ⟨_, _, _, _, _, hf, _⟩ := H.out.cells; exact hf
      have f2 := hfz 2
      have HK := Lib.hid hk
      clear hfz hk
      go_wp2_with fail
      refine (HM.out w4 HB4.out).mono ?_
      rintro e w5 ⟨rfl, rfl⟩
      go_wp2_with fail
      go_ret
      exact Took.stop (.inr rfl) rfl (H.out.set_bad true) (Fr.set (X := fun i => i = g) (Fr.of_below HB4.out) (p := ⟨g, 2, none⟩) rfl _)
    · subst hok
      have hkz : ((k : Int) == 0) = false := beq_eq_false_iff_ne.mpr (by omega)
      have hs1 : w4.cell? ⟨g, 1, none⟩ = some (.int .i64 at_) := by obtain ⟨_, _, _, h, _⟩ := H.out.cells; exact h
      have hfz : ∀ i, w4.frozen? ⟨g, i, none⟩ = false := by obtain ⟨_, _, _, _, _, hf, _⟩ := H.out.cells; exact hf
      have f1 := hfz 1
      have HK := Lib.hid hk
      have hsum : ((at_ : Int) + (k : Int)) = ((at_ + k : Nat) : Int) := by omega
      have HS := Lib.hid hsum
      clear hfz hk hsum
      go_wp2_with fail
      refine (HM.out w4 HB4.out).mono ?_
      rintro e w5 ⟨rfl, rfl⟩
      go_wp2_with fail
      go_ret
      have hk := HK.out
      rw [HS.out]
      exact Took.go hk rfl (H.out.set_at (at_ + k) hkl) (Fr.set (X := fun i => i = g) (Fr.of_below HB4.out) (p := ⟨g, 1, none⟩) rfl _)
set_option maxHeartbeats 4000000 in
theorem byte_good (h : Rdr w g base l at_ false) (q : Nat) (n : Int) (k : Nat) (hkl : at_ + k ≤ l.length) (ok : Bool)
    (hget : ∀ (W : World) (A' : Option Addr) (c' : Nat), Below w.heap.size w W → Kd.C (Kd.int .u8) W A' (l.drop at_).length (l.drop at_) → (l.drop at_).length ≤ c' → Calls Try.prog 69 #[.slice A' (l.drop at_).length c'] W fun e w' => e = .returned (.tuple #[.int .i64 n, .int .i64 (k : Int)]) ∧ Below W.heap.size W w')
    (hmay : ∀ W : World, Below w.heap.size w W → Calls Try.prog 71 #[.int .i64 n, .pointer (some ⟨q, 0, none⟩)] W fun e w' => e = .returned (.bool ok) ∧ W = w') :
    Calls Try.prog 70 #[.pointer (some ⟨g, 0, none⟩), .func (.func 69) #[] #[], .func (.func 71) #[] #[.pointer (some ⟨q, 0, none⟩)]] w (Took w g base l at_ k ok (.int .i64 0) (.int .i64 n)) := by
  obtain ⟨A, c, h0, h1, h2, hf, hC, hl⟩ := h.cells
  have hlt := h.lt
  have hCd := Kd.C_drop hC hlt.2.1 hl
  have hld : (l.drop at_).length = l.length - at_ := List.length_drop
  have hca : at_ = c ∨ c ≠ at_ := by omega
  have HG := Lib.hid hget
  have HM := Lib.hid hmay
  clear hget hmay hf
  rcases hca with hca | hca
  · subst hca
    have hld : (l.drop at_).length = 0 := by omega
    obtain rfl : k = 0 := by omega
    rw [if_pos rfl] at hCd
    have hcall := HG.out w.drew A 0 (below_drew1 (Below.refl _ _)) (Kd.C_drew (hCd)) (by omega)
    rw [hld] at hcall
    have HL := Lib.hid hcall
    have H := Lib.hid (h.below (below_drew1 (Below.refl _ _)))
    have H0 := Lib.hid h0
    have H1 := Lib.hid h1
    have H2 := Lib.hid h2
    have HC := Lib.hid hC
    clear hcall h hC hCd HG
    go_enter Try.func70, Try.ntmps70
    go_wp2_with fail
    refine start_ (n := 16) (S := fun w' => w'.cell? ⟨g, 0, none⟩ = some (.slice A l.length at_) ∧ w'.cell? ⟨g, 1, none⟩ = some (.int .i64 at_)) (ds := []) #[false, false, false, false, false, false, false, false, false, false, false, false, false, false, false, false] (by kernel_rfl) rfl rfl ⟨H0.out, H1.out⟩ (fun hHeld => ?_); refine with_tabW tabTakeI bitsTakeI (fun HT_ HW_ => ?_)
    refine pure_ (i := 0) (N := some 16) (v := ?_) (a' := ?_) #[true, false, false, false, false, false, false, false, false, false, false, false, false, false, false, false] rfl rfl (any_of HT_.out (by kernel_rfl)) (fun _ _ _ h => h) (Or.inl ⟨by rfl, ?_⟩) ?_ ?_
    rotate_left
    · intro w'
      go_simp
      with_reducible rfl
    rotate_left
    · simp only [Act.put, List.setIfInBounds_toArray, List.set_cons_zero, List.set_cons_succ, i64_w, i32_w]
      rfl
    refine pure_ (i := 1) (N := some 17) (v := ?_) (a' := ?_) #[true, true, false, false, false, false, false, false, false, false, false, false, false, false, false, false] rfl rfl (any_of HT_.out (by kernel_rfl)) (fun _ _ _ h => h) (Or.inl ⟨by rfl, ?_⟩) ?_ ?_
    rotate_left
    · intro w'
      go_simp
      with_reducible rfl
    rotate_left
    · simp only [Act.put, List.setIfInBounds_toArray, List.set_cons_zero, List.set_cons_succ, i64_w, i32_w]
      rfl
    refine pure_ (i := 2) (N := some 18) (v := ?_) (a' := ?_) #[true, true, true, false, false, false, false, false, false, false, false, false, false, false, false, false] rfl rfl (any_of HT_.out (by kernel_rfl)) (fun _ _ _ h => h) (Or.inl ⟨by rfl, ?_⟩) ?_ ?_
    rotate_left
    · intro w'
      go_simp
      with_reducible rfl
    rotate_left
    · simp only [Act.put, List.setIfInBounds_toArray, List.set_cons_zero, List.set_cons_succ, i64_w, i32_w]
      rfl
    refine pure_ (i := 3) (N := some 19) (v := ?_) (a' := ?_) #[true, true, true, true, false, false, false, false, false, false, false, false, false, false, false, false] rfl rfl (any_of HT_.out (by kernel_rfl)) (fun _ _ _ h => h) (Or.inl ⟨by rfl, ?_⟩) ?_ ?_
    rotate_left
    · intro w'
      go_simp
      with_reducible rfl
    rotate_left
    · simp only [Act.put, List.setIfInBounds_toArray, List.set_cons_zero, List.set_cons_succ, i64_w, i32_w]
      rfl
    refine take_ (i := 4) (N := some 20) (v := ?_) (a' := ?_) #[true, true, true, true, true, false, false, false, false, false, false, false, false, false, false, false] rfl rfl (take_ofW HT_.out HW_.out (by kernel_rfl)) (fun _ _ _ h => h) (Or.inl ⟨by rfl, ?_⟩) hHeld ?_ ?_
    rotate_left
    · rintro w' ⟨s0_, s1_⟩
      go_simp
      with_reducible rfl
    rotate_left
    · simp only [Act.put, List.setIfInBounds_toArray, List.set_cons_zero, List.set_cons_succ, i64_w, i32_w]
      rfl
    refine pure_ (i := 5) (N := some 21) (v := ?_) (a' := ?_) #[true, true, true, true, true, true, false, false, false, false, false, false, false, false, false, false] rfl rfl (any_of HT_.out (by kernel_rfl)) (fun _ _ _ h => h) (Or.inl ⟨by rfl, ?_⟩) ?_ ?_
    rotate_left
    · intro w'
      go_simp
      with_reducible rfl
    rotate_left
    · simp only [Act.put, List.setIfInBounds_toArray, List.set_cons_zero, List.set_cons_succ, i64_w, i32_w]
      rfl
    refine pure_ (i := 6) (N := some 22) (v := ?_) (a' := ?_) #[true, true, true, true, true, true, true, false, false, false, false, false, false, false, false, false] rfl rfl (any_of HT_.out (by kernel_rfl)) (fun _ _ _ h => h) (Or.inl ⟨by rfl, ?_⟩) ?_ ?_
    rotate_left
    · intro w'
      go_simp
      with_reducible rfl
    rotate_left
    · simp only [Act.put, List.setIfInBounds_toArray, List.set_cons_zero, List.set_cons_succ, i64_w, i32_w]
      rfl
    refine pure_ (i := 7) (N := some 23) (v := ?_) (a' := ?_) #[true, true, true, true, true, true, true, true, false, false, false, false, false, false, false, false] rfl rfl (any_of HT_.out (by kernel_rfl)) (fun _ _ _ h => h) (Or.inl ⟨by rfl, ?_⟩) ?_ ?_
    rotate_left
    · intro w'
      go_simp
      with_reducible rfl
    rotate_left
    · simp only [Act.put, List.setIfInBounds_toArray, List.set_cons_zero, List.set_cons_succ, i64_w, i32_w]
      rfl
    refine take_ (i := 8) (N := some 24) (v := ?_) (a' := ?_) #[true, true, true, true, true, true, true, true, true, false, false, false, false, false, false, false] rfl rfl (take_ofW HT_.out HW_.out (by kernel_rfl)) (fun _ _ _ h => h) (Or.inl ⟨by rfl, ?_⟩) hHeld ?_ ?_
    rotate_left
    · rintro w' ⟨s0_, s1_⟩
      go_simp
      with_reducible rfl
    rotate_left
    · simp only [Act.put, List.setIfInBounds_toArray, List.set_cons_zero, List.set_cons_succ, i64_w, i32_w]
      rfl
    refine pure_ (i := 9) (N := some 25) (v := ?_) (a' := ?_) #[true, true, true, true, true, true, true, true, true, true, false, false, false, false, false, false] rfl rfl (any_of HT_.out (by kernel_rfl)) (fun _ _ _ h => h) (Or.inl ⟨by rfl, ?_⟩) ?_ ?_
    rotate_left
    · intro w'
      go_simp
      with_reducible rfl
    rotate_left
    · simp only [Act.put, List.setIfInBounds_toArray, List.set_cons_zero, List.set_cons_succ, i64_w, i32_w]
      rfl
    refine one_ (i := 10) (N := some 26) #[true, true, true, true, true, true, true, true, true, true, true, false, false, false, false, false] rfl rfl (one_of HT_.out (by kernel_rfl)) (by decide) (fun K hK => ?_)
    refine call_ 69 #[.slice A 0 0] (by rfl) rfl ?_ ?_
    · have he := enters_ Try.func69 (by kernel_rfl) rfl #[.slice A 0 0] w.drew
      unfold execOp
      simp [resolve, Deferred.ofValue, invoke, Act.eval, he]
    refine HL.out.mono ?_
    rintro e w4 ⟨rfl, hb4⟩
    refine ⟨_, rfl, ?_⟩
    have n0_ := Lib.hid (H.out.below hb4); clear H; have H := n0_; clear n0_
    have HB4 := Lib.hid (below_drew1 (Below.refl w.heap.size w) |>.trans hb4)
    have hs0 : w4.cell? ⟨g, 0, none⟩ = some (.slice A l.length at_) := pw_cell_below hb4 H0.out
    have hs1 : w4.cell? ⟨g, 1, none⟩ = some (.int .i64 at_) := pw_cell_below hb4 H1.out
    have hs2 : w4.cell? ⟨g, 2, none⟩ = some (.bool false) := pw_cell_below hb4 H2.out
    clear hb4 HL
    refine hK.out _ _ ⟨hs0, hs1⟩ (fun hHeld => ?_)
    clear hK K
    refine norm_ (a' := ?_) ?_ ?_
    rotate_left
    · show Act.put _ (some 26) _ = _
      simp only [Act.put, List.setIfInBounds_toArray, List.set_cons_zero, List.set_cons_succ, i64_w, i32_w]
      rfl
    refine pure_ (i := 11) (N := some 15) (v := ?_) (a' := ?_) #[true, true, true, true, true, true, true, true, true, true, true, true, false, false, false, false] rfl rfl (any_of HT_.out (by kernel_rfl)) (fun _ _ _ h => h) (Or.inl ⟨by rfl, ?_⟩) ?_ ?_
    rotate_left
    · intro w'
      go_simp
      with_reducible rfl
    rotate_left
    · simp only [Act.put, List.setIfInBounds_toArray, List.set_cons_zero, List.set_cons_succ, i64_w, i32_w]
      rfl
    refine pure_ (i := 12) (N := some 27) (v := ?_) (a' := ?_) #[true, true, true, true, true, true, true, true, true, true, true, true, true, false, false, false] rfl rfl (any_of HT_.out (by kernel_rfl)) (fun _ _ _ h => h) (Or.inl ⟨by rfl, ?_⟩) ?_ ?_
    rotate_left
    · intro w'
      go_simp
      with_reducible rfl
    rotate_left
    · simp only [Act.put, List.setIfInBounds_toArray, List.set_cons_zero, List.set_cons_succ, i64_w, i32_w]
      rfl
    refine pure_ (i := 13) (N := some 28) (v := ?_) (a' := ?_) #[true, true, true, true, true, true, true, true, true, true, true, true, true, true, false, false] rfl rfl (any_of HT_.out (by kernel_rfl)) (fun _ _ _ h => h) (Or.inl ⟨by rfl, ?_⟩) ?_ ?_
    rotate_left
    · intro w'
      go_simp
      with_reducible rfl
    rotate_left
    · simp only [Act.put, List.setIfInBounds_toArray, List.set_cons_zero, List.set_cons_succ, i64_w, i32_w]
      rfl
    refine pure_ (i := 14) (N := some 8) (v := ?_) (a' := ?_) #[true, true, true, true, true, true, true, true, true, true, true, true, true, true, true, false] rfl rfl (any_of HT_.out (by kernel_rfl)) (fun _ _ _ h => h) (Or.inl ⟨by rfl, ?_⟩) ?_ ?_
    rotate_left
    · intro w'
      go_simp
      with_reducible rfl
    rotate_left
    · simp only [Act.put, List.setIfInBounds_toArray, List.set_cons_zero, List.set_cons_succ, i64_w, i32_w]
      rfl
    refine pure_ (i := 15) (N := some 9) (v := ?_) (a' := ?_) #[true, true, true, true, true, true, true, true, true, true, true, true, true, true, true, true] rfl rfl (any_of HT_.out (by kernel_rfl)) (fun _ _ _ h => h) (Or.inl ⟨by rfl, ?_⟩) ?_ ?_
    rotate_left
    · intro w'
      go_simp
      with_reducible rfl
    rotate_left
    · simp only [Act.put, List.setIfInBounds_toArray, List.set_cons_zero, List.set_cons_succ, i64_w, i32_w]
      rfl
    refine done_ (done_of HT_.out (by kernel_rfl)) ?_
    clear hs0 hs1
    have hfz : ∀ i, w4.frozen? ⟨g, i, none⟩ = false := by obtain ⟨_, _, _, _, _, hf, _⟩ := H.out.cells; exact hf
    have f2 := hfz 2
    clear hfz
    go_wp2_with fail
    go_ret
    exact Took.stop (.inl rfl) rfl (H.out.set_bad true) (Fr.set (X := fun i => i = g) (Fr.of_below HB4.out) (p := ⟨g, 2, none⟩) rfl _)
  · skip
    rw [if_neg hca] at hCd
    have hcall := HG.out w.drew (A.map (fun x => x.add at_)) (c - at_) (below_drew1 (Below.refl _ _)) (Kd.C_drew (by rw [show at_ * (Kd.int IntKind.u8).sz = at_ from Nat.mul_one at_] at hCd; exact hCd)) (by omega)
    rw [hld] at hcall
    have HL := Lib.hid hcall
    have H := Lib.hid (h.below (below_drew1 (Below.refl _ _)))
    have H0 := Lib.hid h0
    have H1 := Lib.hid h1
    have H2 := Lib.hid h2
    have HC := Lib.hid hC
    clear hcall h hC hCd HG
    go_enter Try.func70, Try.ntmps70
    go_wp2_with fail
    refine start_ (n := 16) (S := fun w' => w'.cell? ⟨g, 0, none⟩ = some (.slice A l.length c) ∧ w'.cell? ⟨g, 1, none⟩ = some (.int .i64 at_)) (ds := []) #[false, false, false, false, false, false, false, false, false, false, false, false, false, false, false, false] (by kernel_rfl) rfl rfl ⟨H0.out, H1.out⟩ (fun hHeld => ?_); refine with_tabW tabTakeI bitsTakeI (fun HT_ HW_ => ?_)
    refine pure_ (i := 0) (N := some 16) (v := ?_) (a' := ?_) #[true, false, false, false, false, false, false, false, false, false, false, false, false, false, false, false] rfl rfl (any_of HT_.out (by kernel_rfl)) (fun _ _ _ h => h) (Or.inl ⟨by rfl, ?_⟩) ?_ ?_
    rotate_left
    · intro w'
      go_simp
      with_reducible rfl
    rotate_left
    · simp only [Act.put, List.setIfInBounds_toArray, List.set_cons_zero, List.set_cons_succ, i64_w, i32_w]
      rfl
    refine pure_ (i := 1) (N := some 17) (v := ?_) (a' := ?_) #[true, true, false, false, false, false, false, false, false, false, false, false, false, false, false, false] rfl rfl (any_of HT_.out (by kernel_rfl)) (fun _ _ _ h => h) (Or.inl ⟨by rfl, ?_⟩) ?_ ?_
    rotate_left
    · intro w'
      go_simp
      with_reducible rfl
    rotate_left
    · simp only [Act.put, List.setIfInBounds_toArray, List.set_cons_zero, List.set_cons_succ, i64_w, i32_w]
      rfl
    refine pure_ (i := 2) (N := some 18) (v := ?_) (a' := ?_) #[true, true, true, false, false, false, false, false, false, false, false, false, false, false, false, false] rfl rfl (any_of HT_.out (by kernel_rfl)) (fun _ _ _ h => h) (Or.inl ⟨by rfl, ?_⟩) ?_ ?_
    rotate_left
    · intro w'
      go_simp
      with_reducible rfl
    rotate_left
    · simp only [Act.put, List.setIfInBounds_toArray, List.set_cons_zero, List.set_cons_succ, i64_w, i32_w]
      rfl
    refine pure_ (i := 3) (N := some 19) (v := ?_) (a' := ?_) #[true, true, true, true, false, false, false, false, false, false, false, false, false, false, false, false] rfl rfl (any_of HT_.out (by kernel_rfl)) (fun _ _ _ h => h) (Or.inl ⟨by rfl, ?_⟩) ?_ ?_
    rotate_left
    · intro w'
      go_simp
      with_reducible rfl
    rotate_left
    · simp only [Act.put, List.setIfInBounds_toArray, List.set_cons_zero, List.set_cons_succ, i64_w, i32_w]
      rfl
    refine take_ (i := 4) (N := some 20) (v := ?_) (a' := ?_) #[true, true, true, true, true, false, false, false, false, false, false, false, false, false, false, false] rfl rfl (take_ofW HT_.out HW_.out (by kernel_rfl)) (fun _ _ _ h => h) (Or.inl ⟨by rfl, ?_⟩) hHeld ?_ ?_
    rotate_left
    · rintro w' ⟨s0_, s1_⟩
      go_simp
      with_reducible rfl
    rotate_left
    · simp only [Act.put, List.setIfInBounds_toArray, List.set_cons_zero, List.set_cons_succ, i64_w, i32_w]
      rfl
    refine pure_ (i := 5) (N := some 21) (v := ?_) (a' := ?_) #[true, true, true, true, true, true, false, false, false, false, false, false, false, false, false, false] rfl rfl (any_of HT_.out (by kernel_rfl)) (fun _ _ _ h => h) (Or.inl ⟨by rfl, ?_⟩) ?_ ?_
    rotate_left
    · intro w'
      go_simp
      with_reducible rfl
    rotate_left
    · simp only [Act.put, List.setIfInBounds_toArray, List.set_cons_zero, List.set_cons_succ, i64_w, i32_w]
      rfl
    refine pure_ (i := 6) (N := some 22) (v := ?_) (a' := ?_) #[true, true, true, true, true, true, true, false, false, false, false, false, false, false, false, false] rfl rfl (any_of HT_.out (by kernel_rfl)) (fun _ _ _ h => h) (Or.inl ⟨by rfl, ?_⟩) ?_ ?_
    rotate_left
    · intro w'
      go_simp
      with_reducible rfl
    rotate_left
    · simp only [Act.put, List.setIfInBounds_toArray, List.set_cons_zero, List.set_cons_succ, i64_w, i32_w]
      rfl
    refine pure_ (i := 7) (N := some 23) (v := ?_) (a' := ?_) #[true, true, true, true, true, true, true, true, false, false, false, false, false, false, false, false] rfl rfl (any_of HT_.out (by kernel_rfl)) (fun _ _ _ h => h) (Or.inl ⟨by rfl, ?_⟩) ?_ ?_
    rotate_left
    · intro w'
      go_simp
      with_reducible rfl
    rotate_left
    · simp only [Act.put, List.setIfInBounds_toArray, List.set_cons_zero, List.set_cons_succ, i64_w, i32_w]
      rfl
    refine take_ (i := 8) (N := some 24) (v := ?_) (a' := ?_) #[true, true, true, true, true, true, true, true, true, false, false, false, false, false, false, false] rfl rfl (take_ofW HT_.out HW_.out (by kernel_rfl)) (fun _ _ _ h => h) (Or.inl ⟨by rfl, ?_⟩) hHeld ?_ ?_
    rotate_left
    · rintro w' ⟨s0_, s1_⟩
      go_simp
      with_reducible rfl
    rotate_left
    · simp only [Act.put, List.setIfInBounds_toArray, List.set_cons_zero, List.set_cons_succ, i64_w, i32_w]
      rfl
    refine pure_ (i := 9) (N := some 25) (v := ?_) (a' := ?_) #[true, true, true, true, true, true, true, true, true, true, false, false, false, false, false, false] rfl rfl (any_of HT_.out (by kernel_rfl)) (fun _ _ _ h => h) (Or.inl ⟨by rfl, ?_⟩) ?_ ?_
    rotate_left
    · intro w'
      go_simp
      with_reducible rfl
    rotate_left
    · simp only [Act.put, List.setIfInBounds_toArray, List.set_cons_zero, List.set_cons_succ, i64_w, i32_w]
      rfl
    refine one_ (i := 10) (N := some 26) #[true, true, true, true, true, true, true, true, true, true, true, false, false, false, false, false] rfl rfl (one_of HT_.out (by kernel_rfl)) (by decide) (fun K hK => ?_)
    refine call_ 69 #[.slice (A.map (fun x => x.add at_)) (l.length - at_) (c - at_)] (by rfl) rfl ?_ ?_
    · have he := enters_ Try.func69 (by kernel_rfl) rfl #[.slice (A.map (fun x => x.add at_)) (l.length - at_) (c - at_)] w.drew
      unfold execOp
      simp [resolve, Deferred.ofValue, invoke, Act.eval, he]
    refine HL.out.mono ?_
    rintro e w4 ⟨rfl, hb4⟩
    refine ⟨_, rfl, ?_⟩
    have n0_ := Lib.hid (H.out.below hb4); clear H; have H := n0_; clear n0_
    have HB4 := Lib.hid (below_drew1 (Below.refl w.heap.size w) |>.trans hb4)
    have hs0 : w4.cell? ⟨g, 0, none⟩ = some (.slice A l.length c) := pw_cell_below hb4 H0.out
    have hs1 : w4.cell? ⟨g, 1, none⟩ = some (.int .i64 at_) := pw_cell_below hb4 H1.out
    have hs2 : w4.cell? ⟨g, 2, none⟩ = some (.bool false) := pw_cell_below hb4 H2.out
    clear hb4 HL
    refine hK.out _ _ ⟨hs0, hs1⟩ (fun hHeld => ?_)
    clear hK K
    refine norm_ (a' := ?_) ?_ ?_
    rotate_left
    · show Act.put _ (some 26) _ = _
      simp only [Act.put, List.setIfInBounds_toArray, List.set_cons_zero, List.set_cons_succ, i64_w, i32_w]
      rfl
    refine pure_ (i := 11) (N := some 15) (v := ?_) (a' := ?_) #[true, true, true, true, true, true, true, true, true, true, true, true, false, false, false, false] rfl rfl (any_of HT_.out (by kernel_rfl)) (fun _ _ _ h => h) (Or.inl ⟨by rfl, ?_⟩) ?_ ?_
    rotate_left
    · intro w'
      go_simp
      with_reducible rfl
    rotate_left
    · simp only [Act.put, List.setIfInBounds_toArray, List.set_cons_zero, List.set_cons_succ, i64_w, i32_w]
      rfl
    refine pure_ (i := 12) (N := some 27) (v := ?_) (a' := ?_) #[true, true, true, true, true, true, true, true, true, true, true, true, true, false, false, false] rfl rfl (any_of HT_.out (by kernel_rfl)) (fun _ _ _ h => h) (Or.inl ⟨by rfl, ?_⟩) ?_ ?_
    rotate_left
    · intro w'
      go_simp
      with_reducible rfl
    rotate_left
    · simp only [Act.put, List.setIfInBounds_toArray, List.set_cons_zero, List.set_cons_succ, i64_w, i32_w]
      rfl
    refine pure_ (i := 13) (N := some 28) (v := ?_) (a' := ?_) #[true, true, true, true, true, true, true, true, true, true, true, true, true, true, false, false] rfl rfl (any_of HT_.out (by kernel_rfl)) (fun _ _ _ h => h) (Or.inl ⟨by rfl, ?_⟩) ?_ ?_
    rotate_left
    · intro w'
      go_simp
      with_reducible rfl
    rotate_left
    · simp only [Act.put, List.setIfInBounds_toArray, List.set_cons_zero, List.set_cons_succ, i64_w, i32_w]
      rfl
    refine pure_ (i := 14) (N := some 8) (v := ?_) (a' := ?_) #[true, true, true, true, true, true, true, true, true, true, true, true, true, true, true, false] rfl rfl (any_of HT_.out (by kernel_rfl)) (fun _ _ _ h => h) (Or.inl ⟨by rfl, ?_⟩) ?_ ?_
    rotate_left
    · intro w'
      go_simp
      with_reducible rfl
    rotate_left
    · simp only [Act.put, List.setIfInBounds_toArray, List.set_cons_zero, List.set_cons_succ, i64_w, i32_w]
      rfl
    refine pure_ (i := 15) (N := some 9) (v := ?_) (a' := ?_) #[true, true, true, true, true, true, true, true, true, true, true, true, true, true, true, true] rfl rfl (any_of HT_.out (by kernel_rfl)) (fun _ _ _ h => h) (Or.inl ⟨by rfl, ?_⟩) ?_ ?_
    rotate_left
    · intro w'
      go_simp
      with_reducible rfl
    rotate_left
    · simp only [Act.put, List.setIfInBounds_toArray, List.set_cons_zero, List.set_cons_succ, i64_w, i32_w]
      rfl
    refine done_ (done_of HT_.out (by kernel_rfl)) ?_
    clear hs0 hs1
    rcases (show k = 0 ∨ (k ≠ 0 ∧ ok = false) ∨ (k ≠ 0 ∧ ok = true) from by
      by_cases hk : k = 0
      · exact .inl hk
      · cases ok
        · exact .inr (.inl ⟨hk, rfl⟩)
        · exact .inr (.inr ⟨hk, rfl⟩)) with hk | ⟨hk, hok⟩ | ⟨hk, hok⟩
    · subst hk
      have hfz : ∀ i, w4.frozen? ⟨g, i, none⟩ = false := by obtain ⟨_, _, _, _, _, hf, _⟩ := H.out.cells; exact hf
      have f2 := hfz 2
      clear hfz
      go_wp2_with fail
      go_ret
      exact Took.stop (.inl rfl) rfl (H.out.set_bad true) (Fr.set (X := fun i => i = g) (Fr.of_below HB4.out) (p := ⟨g, 2, none⟩) rfl _)
    · subst hok
      have hkz : ((k : Int) == 0) = false := beq_eq_false_iff_ne.mpr (by omega)
      have hfz : ∀ i, w4.frozen? ⟨g, i, none⟩ = false := by obtain ⟨_, _, _, _, _, hf, _⟩ := H.out.cells; exact hf
      have f2 := hfz 2
      have HK := Lib.hid hk
      clear hfz hk
      go_wp2_with fail
      refine (HM.out w4 HB4.out).mono ?_
      rintro e w5 ⟨rfl, rfl⟩
      go_wp2_with fail
      go_ret
      exact Took.stop (.inr rfl) rfl (H.out.set_bad true) (Fr.set (X := fun i => i = g) (Fr.of_below HB4.out) (p := ⟨g, 2, none⟩) rfl _)
    · subst hok
      have hkz : ((k : Int) == 0) = false := beq_eq_false_iff_ne.mpr (by omega)
      have hs1 : w4.cell? ⟨g, 1, none⟩ = some (.int .i64 at_) := by obtain ⟨_, _, _, h, _⟩ := H.out.cells; exact h
      have hfz : ∀ i, w4.frozen? ⟨g, i, none⟩ = false := by obtain ⟨_, _, _, _, _, hf, _⟩ := H.out.cells; exact hf
      have f1 := hfz 1
      have HK := Lib.hid hk
      have hsum : ((at_ : Int) + (k : Int)) = ((at_ + k : Nat) : Int) := by omega
      have HS := Lib.hid hsum
      clear hfz hk hsum
      go_wp2_with fail
      refine (HM.out w4 HB4.out).mono ?_
      rintro e w5 ⟨rfl, rfl⟩
      go_wp2_with fail
      go_ret
      have hk := HK.out
      rw [HS.out]
      exact Took.go hk rfl (H.out.set_at (at_ + k) hkl) (Fr.set (X := fun i => i = g) (Fr.of_below HB4.out) (p := ⟨g, 1, none⟩) rfl _)
set_option maxHeartbeats 4000000 in
theorem str_good (h : Rdr w g base l at_ false) (q : Nat) (s : ByteArray) (k : Nat) (hkl : at_ + k ≤ l.length) (ok : Bool)
    (hget : ∀ (W : World) (A' : Option Addr) (c' : Nat), Below w.heap.size w W → Kd.C (Kd.int .u8) W A' (l.drop at_).length (l.drop at_) → (l.drop at_).length ≤ c' → Calls Try.prog 73 #[.slice A' (l.drop at_).length c', .pointer (some ⟨q, 0, none⟩)] W fun e w' => e = .returned (.tuple #[.string s, .int .i64 (k : Int)]) ∧ Below W.heap.size W w')
    (hmay : ∀ W : World, Below w.heap.size w W → Calls Try.prog 76 #[.string s] W fun e w' => e = .returned (.bool ok) ∧ W = w') :
    Calls Try.prog 75 #[.pointer (some ⟨g, 0, none⟩), .func (.func 73) #[] #[.pointer (some ⟨q, 0, none⟩)], .func (.func 76) #[] #[]] w (Took w g base l at_ k ok (.string ⟨#[]⟩) (.string s)) := by
  obtain ⟨A, c, h0, h1, h2, hf, hC, hl⟩ := h.cells
  have hlt := h.lt
  have hCd := Kd.C_drop hC hlt.2.1 hl
  have hld : (l.drop at_).length = l.length - at_ := List.length_drop
  have hca : at_ = c ∨ c ≠ at_ := by omega
  have HG := Lib.hid hget
  have HM := Lib.hid hmay
  clear hget hmay hf
  rcases hca with hca | hca
  · subst hca
    have hld : (l.drop at_).length = 0 := by omega
    obtain rfl : k = 0 := by omega
    rw [if_pos rfl] at hCd
    have hcall := HG.out w.drew A 0 (below_drew1 (Below.refl _ _)) (Kd.C_drew (hCd)) (by omega)
    rw [hld] at hcall
    have HL := Lib.hid hcall
    have H := Lib.hid (h.below (below_drew1 (Below.refl _ _)))
    have H0 := Lib.hid h0
    have H1 := Lib.hid h1
    have H2 := Lib.hid h2
    have HC := Lib.hid hC
    clear hcall h hC hCd HG
    go_enter Try.func75, Try.ntmps75
    go_wp2_with fail
    refine start_ (n := 16) (S := fun w' => w'.cell? ⟨g, 0, none⟩ = some (.slice A l.length at_) ∧ w'.cell? ⟨g, 1, none⟩ = some (.int .i64 at_)) (ds := []) #[false, false, false, false, false, false, false, false, false, false, false, false, false, false, false, false] (by kernel_rfl) rfl rfl ⟨H0.out, H1.out⟩ (fun hHeld => ?_); refine with_tabW tabTakeS bitsTakeS (fun HT_ HW_ => ?_)
    refine pure_ (i := 0) (N := some 16) (v := ?_) (a' := ?_) #[true, false, false, false, false, false, false, false, false, false, false, false, false, false, false, false] rfl rfl (any_of HT_.out (by kernel_rfl)) (fun _ _ _ h => h) (Or.inl ⟨by rfl, ?_⟩) ?_ ?_
    rotate_left
    · intro w'
      go_simp
      with_reducible rfl
    rotate_left
    · simp only [Act.put, List.setIfInBounds_toArray, List.set_cons_zero, List.set_cons_succ, i64_w, i32_w]
      rfl
    refine pure_ (i := 1) (N := some 17) (v := ?_) (a' := ?_) #[true, true, false, false, false, false, false, false, false, false, false, false, false, false, false, false] rfl rfl (any_of HT_.out (by kernel_rfl)) (fun _ _ _ h => h) (Or.inl ⟨by rfl, ?_⟩) ?_ ?_
    rotate_left
    · intro w'
      go_simp
      with_reducible rfl
    rotate_left
    · simp only [Act.put, List.setIfInBounds_toArray, List.set_cons_zero, List.set_cons_succ, i64_w, i32_w]
      rfl
    refine pure_ (i := 2) (N := some 18) (v := ?_) (a' := ?_) #[true, true, true, false, false, false, false, false, false, false, false, false, false, false, false, false] rfl rfl (any_of HT_.out (by kernel_rfl)) (fun _ _ _ h => h) (Or.inl ⟨by rfl, ?_⟩) ?_ ?_
    rotate_left
    · intro w'
      go_simp
      with_reducible rfl
    rotate_left
    · simp only [Act.put, List.setIfInBounds_toArray, List.set_cons_zero, List.set_cons_succ, i64_w, i32_w]
      rfl
    refine pure_ (i := 3) (N := some 19) (v := ?_) (a' := ?_) #[true, true, true, true, false, false, false, false, false, false, false, false, false, false, false, false] rfl rfl (any_of HT_.out (by kernel_rfl)) (fun _ _ _ h => h) (Or.inl ⟨by rfl, ?_⟩) ?_ ?_
    rotate_left
    · intro w'
      go_simp
      with_reducible rfl
    rotate_left
    · simp only [Act.put, List.setIfInBounds_toArray, List.set_cons_zero, List.set_cons_succ, i64_w, i32_w]
      rfl
    refine take_ (i := 4) (N := some 20) (v := ?_) (a' := ?_) #[true, true, true, true, true, false, false, false, false, false, false, false, false, false, false, false] rfl rfl (take_ofW HT_.out HW_.out (by kernel_rfl)) (fun _ _ _ h => h) (Or.inl ⟨by rfl, ?_⟩) hHeld ?_ ?_
    rotate_left
    · rintro w' ⟨s0_, s1_⟩
      go_simp
      with_reducible rfl
    rotate_left
    · simp only [Act.put, List.setIfInBounds_toArray, List.set_cons_zero, List.set_cons_succ, i64_w, i32_w]
      rfl
    refine pure_ (i := 5) (N := some 21) (v := ?_) (a' := ?_) #[true, true, true, true, true, true, false, false, false, false, false, false, false, false, false, false] rfl rfl (any_of HT_.out (by kernel_rfl)) (fun _ _ _ h => h) (Or.inl ⟨by rfl, ?_⟩) ?_ ?_
    rotate_left
    · intro w'
      go_simp
      with_reducible rfl
    rotate_left
    · simp only [Act.put, List.setIfInBounds_toArray, List.set_cons_zero, List.set_cons_succ, i64_w, i32_w]
      rfl
    refine pure_ (i := 6) (N := some 22) (v := ?_) (a' := ?_) #[true, true, true, true, true, true, true, false, false, false, false, false, false, false, false, false] rfl rfl (any_of HT_.out (by kernel_rfl)) (fun _ _ _ h => h) (Or.inl ⟨by rfl, ?_⟩) ?_ ?_
    rotate_left
    · intro w'
      go_simp
      with_reducible rfl
    rotate_left
    · simp only [Act.put, List.setIfInBounds_toArray, List.set_cons_zero, List.set_cons_succ, i64_w, i32_w]
      rfl
    refine pure_ (i := 7) (N := some 23) (v := ?_) (a' := ?_) #[true, true, true, true, true, true, true, true, false, false, false, false, false, false, false, false] rfl rfl (any_of HT_.out (by kernel_rfl)) (fun _ _ _ h => h) (Or.inl ⟨by rfl, ?_⟩) ?_ ?_
    rotate_left
    · intro w'
      go_simp
      with_reducible rfl
    rotate_left
    · simp only [Act.put, List.setIfInBounds_toArray, List.set_cons_zero, List.set_cons_succ, i64_w, i32_w]
      rfl
    refine take_ (i := 8) (N := some 24) (v := ?_) (a' := ?_) #[true, true, true, true, true, true, true, true, true, false, false, false, false, false, false, false] rfl rfl (take_ofW HT_.out HW_.out (by kernel_rfl)) (fun _ _ _ h => h) (Or.inl ⟨by rfl, ?_⟩) hHeld ?_ ?_
    rotate_left
    · rintro w' ⟨s0_, s1_⟩
      go_simp
      with_reducible rfl
    rotate_left
    · simp only [Act.put, List.setIfInBounds_toArray, List.set_cons_zero, List.set_cons_succ, i64_w, i32_w]
      rfl
    refine pure_ (i := 9) (N := some 25) (v := ?_) (a' := ?_) #[true, true, true, true, true, true, true, true, true, true, false, false, false, false, false, false] rfl rfl (any_of HT_.out (by kernel_rfl)) (fun _ _ _ h => h) (Or.inl ⟨by rfl, ?_⟩) ?_ ?_
    rotate_left
    · intro w'
      go_simp
      with_reducible rfl
    rotate_left
    · simp only [Act.put, List.setIfInBounds_toArray, List.set_cons_zero, List.set_cons_succ, i64_w, i32_w]
      rfl
    refine one_ (i := 10) (N := some 26) #[true, true, true, true, true, true, true, true, true, true, true, false, false, false, false, false] rfl rfl (one_of HT_.out (by kernel_rfl)) (by decide) (fun K hK => ?_)
    refine call_ 73 #[.slice A 0 0, .pointer (some ⟨q, 0, none⟩)] (by rfl) rfl ?_ ?_
    · have he := enters_ Try.func73 (by kernel_rfl) rfl #[.slice A 0 0, .pointer (some ⟨q, 0, none⟩)] w.drew
      unfold execOp
      simp [resolve, Deferred.ofValue, invoke, Act.eval, he]
    refine HL.out.mono ?_
    rintro e w4 ⟨rfl, hb4⟩
    refine ⟨_, rfl, ?_⟩
    have n0_ := Lib.hid (H.out.below hb4); clear H; have H := n0_; clear n0_
    have HB4 := Lib.hid (below_drew1 (Below.refl w.heap.size w) |>.trans hb4)
    have hs0 : w4.cell? ⟨g, 0, none⟩ = some (.slice A l.length at_) := pw_cell_below hb4 H0.out
    have hs1 : w4.cell? ⟨g, 1, none⟩ = some (.int .i64 at_) := pw_cell_below hb4 H1.out
    have hs2 : w4.cell? ⟨g, 2, none⟩ = some (.bool false) := pw_cell_below hb4 H2.out
    clear hb4 HL
    refine hK.out _ _ ⟨hs0, hs1⟩ (fun hHeld => ?_)
    clear hK K
    refine norm_ (a' := ?_) ?_ ?_
    rotate_left
    · show Act.put _ (some 26) _ = _
      simp only [Act.put, List.setIfInBounds_toArray, List.set_cons_zero, List.set_cons_succ, i64_w, i32_w]
      rfl
    refine pure_ (i := 11) (N := some 15) (v := ?_) (a' := ?_) #[true, true, true, true, true, true, true, true, true, true, true, true, false, false, false, false] rfl rfl (any_of HT_.out (by kernel_rfl)) (fun _ _ _ h => h) (Or.inl ⟨by rfl, ?_⟩) ?_ ?_
    rotate_left
    · intro w'
      go_simp
      with_reducible rfl
    rotate_left
    · simp only [Act.put, List.setIfInBounds_toArray, List.set_cons_zero, List.set_cons_succ, i64_w, i32_w]
      rfl
    refine pure_ (i := 12) (N := some 27) (v := ?_) (a' := ?_) #[true, true, true, true, true, true, true, true, true, true, true, true, true, false, false, false] rfl rfl (any_of HT_.out (by kernel_rfl)) (fun _ _ _ h => h) (Or.inl ⟨by rfl, ?_⟩) ?_ ?_
    rotate_left
    · intro w'
      go_simp
      with_reducible rfl
    rotate_left
    · simp only [Act.put, List.setIfInBounds_toArray, List.set_cons_zero, List.set_cons_succ, i64_w, i32_w]
      rfl
    refine pure_ (i := 13) (N := some 28) (v := ?_) (a' := ?_) #[true, true, true, true, true, true, true, true, true, true, true, true, true, true, false, false] rfl rfl (any_of HT_.out (by kernel_rfl)) (fun _ _ _ h => h) (Or.inl ⟨by rfl, ?_⟩) ?_ ?_
    rotate_left
    · intro w'
      go_simp
      with_reducible rfl
    rotate_left
    · simp only [Act.put, List.setIfInBounds_toArray, List.set_cons_zero, List.set_cons_succ, i64_w, i32_w]
      rfl
    refine pure_ (i := 14) (N := some 8) (v := ?_) (a' := ?_) #[true, true, true, true, true, true, true, true, true, true, true, true, true, true, true, false] rfl rfl (any_of HT_.out (by kernel_rfl)) (fun _ _ _ h => h) (Or.inl ⟨by rfl, ?_⟩) ?_ ?_
    rotate_left
    · intro w'
      go_simp
      with_reducible rfl
    rotate_left
    · simp only [Act.put, List.setIfInBounds_toArray, List.set_cons_zero, List.set_cons_succ, i64_w, i32_w]
      rfl
    refine pure_ (i := 15) (N := some 9) (v := ?_) (a' := ?_) #[true, true, true, true, true, true, true, true, true, true, true, true, true, true, true, true] rfl rfl (any_of HT_.out (by kernel_rfl)) (fun _ _ _ h => h) (Or.inl ⟨by rfl, ?_⟩) ?_ ?_
    rotate_left
    · intro w'
      go_simp
      with_reducible rfl
    rotate_left
    · simp only [Act.put, List.setIfInBounds_toArray, List.set_cons_zero, List.set_cons_succ, i64_w, i32_w]
      rfl
    refine done_ (done_of HT_.out (by kernel_rfl)) ?_
    clear hs0 hs1
    have hfz : ∀ i, w4.frozen? ⟨g, i, none⟩ = false := by obtain ⟨_, _, _, _, _, hf, _⟩ := H.out.cells; exact hf
    have f2 := hfz 2
    clear hfz
    go_wp2_with fail
    go_ret
    exact Took.stop (.inl rfl) rfl (H.out.set_bad true) (Fr.set (X := fun i => i = g) (Fr.of_below HB4.out) (p := ⟨g, 2, none⟩) rfl _)
  · skip
    rw [if_neg hca] at hCd
    have hcall := HG.out w.drew (A.map (fun x => x.add at_)) (c - at_) (below_drew1 (Below.refl _ _)) (Kd.C_drew (by rw [show at_ * (Kd.int IntKind.u8).sz = at_ from Nat.mul_one at_] at hCd; exact hCd)) (by omega)
    rw [hld] at hcall
    have HL := Lib.hid hcall
    have H := Lib.hid (h.below (below_drew1 (Below.refl _ _)))
    have H0 := Lib.hid h0
    have H1 := Lib.hid h1
    have H2 := Lib.hid h2
    have HC := Lib.hid hC
    clear hcall h hC hCd HG
    go_enter Try.func75, Try.ntmps75
    go_wp2_with fail
    refine start_ (n := 16) (S := fun w' => w'.cell? ⟨g, 0, none⟩ = some (.slice A l.length c) ∧ w'.cell? ⟨g, 1, none⟩ = some (.int .i64 at_)) (ds := []) #[false, false, false, false, false, false, false, false, false, false, false, false, false, false, false, false] (by kernel_rfl) rfl rfl ⟨H0.out, H1.out⟩ (fun hHeld => ?_); refine with_tabW tabTakeS bitsTakeS (fun HT_ HW_ => ?_)
    refine pure_ (i := 0) (N := some 16) (v := ?_) (a' := ?_) #[true, false, false, false, false, false, false, false, false, false, false, false, false, false, false, false] rfl rfl (any_of HT_.out (by kernel_rfl)) (fun _ _ _ h => h) (Or.inl ⟨by rfl, ?_⟩) ?_ ?_
    rotate_left
    · intro w'
      go_simp
      with_reducible rfl
    rotate_left
    · simp only [Act.put, List.setIfInBounds_toArray, List.set_cons_zero, List.set_cons_succ, i64_w, i32_w]
      rfl
    refine pure_ (i := 1) (N := some 17) (v := ?_) (a' := ?_) #[true, true, false, false, false, false, false, false, false, false, false, false, false, false, false, false] rfl rfl (any_of HT_.out (by kernel_rfl)) (fun _ _ _ h => h) (Or.inl ⟨by rfl, ?_⟩) ?_ ?_
    rotate_left
    · intro w'
      go_simp
      with_reducible rfl
    rotate_left
    · simp only [Act.put, List.setIfInBounds_toArray, List.set_cons_zero, List.set_cons_succ, i64_w, i32_w]
      rfl
    refine pure_ (i := 2) (N := some 18) (v := ?_) (a' := ?_) #[true, true, true, false, false, false, false, false, false, false, false, false, false, false, false, false] rfl rfl (any_of HT_.out (by kernel_rfl)) (fun _ _ _ h => h) (Or.inl ⟨by rfl, ?_⟩) ?_ ?_
    rotate_left
    · intro w'
      go_simp
      with_reducible rfl
    rotate_left
    · simp only [Act.put, List.setIfInBounds_toArray, List.set_cons_zero, List.set_cons_succ, i64_w, i32_w]
      rfl
    refine pure_ (i := 3) (N := some 19) (v := ?_) (a' := ?_) #[true, true, true, true, false, false, false, false, false, false, false, false, false, false, false, false] rfl rfl (any_of HT_.out (by kernel_rfl)) (fun _ _ _ h => h) (Or.inl ⟨by rfl, ?_⟩) ?_ ?_
    rotate_left
    · intro w'
      go_simp
      with_reducible rfl
    rotate_left
    · simp only [Act.put, List.setIfInBounds_toArray, List.set_cons_zero, List.set_cons_succ, i64_w, i32_w]
      rfl
    refine take_ (i := 4) (N := some 20) (v := ?_) (a' := ?_) #[true, true, true, true, true, false, false, false, false, false, false, false, false, false, false, false] rfl rfl (take_ofW HT_.out HW_.out (by kernel_rfl)) (fun _ _ _ h => h) (Or.inl ⟨by rfl, ?_⟩) hHeld ?_ ?_
    rotate_left
    · rintro w' ⟨s0_, s1_⟩
      go_simp
      with_reducible rfl
    rotate_left
    · simp only [Act.put, List.setIfInBounds_toArray, List.set_cons_zero, List.set_cons_succ, i64_w, i32_w]
      rfl
    refine pure_ (i := 5) (N := some 21) (v := ?_) (a' := ?_) #[true, true, true, true, true, true, false, false, false, false, false, false, false, false, false, false] rfl rfl (any_of HT_.out (by kernel_rfl)) (fun _ _ _ h => h) (Or.inl ⟨by rfl, ?_⟩) ?_ ?_
    rotate_left
    · intro w'
      go_simp
      with_reducible rfl
    rotate_left
    · simp only [Act.put, List.setIfInBounds_toArray, List.set_cons_zero, List.set_cons_succ, i64_w, i32_w]
      rfl
    refine pure_ (i := 6) (N := some 22) (v := ?_) (a' := ?_) #[true, true, true, true, true, true, true, false, false, false, false, false, false, false, false, false] rfl rfl (any_of HT_.out (by kernel_rfl)) (fun _ _ _ h => h) (Or.inl ⟨by rfl, ?_⟩) ?_ ?_
    rotate_left
    · intro w'
      go_simp
      with_reducible rfl
    rotate_left
    · simp only [Act.put, List.setIfInBounds_toArray, List.set_cons_zero, List.set_cons_succ, i64_w, i32_w]
      rfl
    refine pure_ (i := 7) (N := some 23) (v := ?_) (a' := ?_) #[true, true, true, true, true, true, true, true, false, false, false, false, false, false, false, false] rfl rfl (any_of HT_.out (by kernel_rfl)) (fun _ _ _ h => h) (Or.inl ⟨by rfl, ?_⟩) ?_ ?_
    rotate_left
    · intro w'
      go_simp
      with_reducible rfl
    rotate_left
    · simp only [Act.put, List.setIfInBounds_toArray, List.set_cons_zero, List.set_cons_succ, i64_w, i32_w]
      rfl
    refine take_ (i := 8) (N := some 24) (v := ?_) (a' := ?_) #[true, true, true, true, true, true, true, true, true, false, false, false, false, false, false, false] rfl rfl (take_ofW HT_.out HW_.out (by kernel_rfl)) (fun _ _ _ h => h) (Or.inl ⟨by rfl, ?_⟩) hHeld ?_ ?_
    rotate_left
    · rintro w' ⟨s0_, s1_⟩
      go_simp
      with_reducible rfl
    rotate_left
    · simp only [Act.put, List.setIfInBounds_toArray, List.set_cons_zero, List.set_cons_succ, i64_w, i32_w]
      rfl
    refine pure_ (i := 9) (N := some 25) (v := ?_) (a' := ?_) #[true, true, true, true, true, true, true, true, true, true, false, false, false, false, false, false] rfl rfl (any_of HT_.out (by kernel_rfl)) (fun _ _ _ h => h) (Or.inl ⟨by rfl, ?_⟩) ?_ ?_
    rotate_left
    · intro w'
      go_simp
      with_reducible rfl
    rotate_left
    · simp only [Act.put, List.setIfInBounds_toArray, List.set_cons_zero, List.set_cons_succ, i64_w, i32_w]
      rfl
    refine one_ (i := 10) (N := some 26) #[true, true, true, true, true, true, true, true, true, true, true, false, false, false, false, false] rfl rfl (one_of HT_.out (by kernel_rfl)) (by decide) (fun K hK => ?_)
    refine call_ 73 #[.slice (A.map (fun x => x.add at_)) (l.length - at_) (c - at_), .pointer (some ⟨q, 0, none⟩)] (by rfl) rfl ?_ ?_
    · have he := enters_ Try.func73 (by kernel_rfl) rfl #[.slice (A.map (fun x => x.add at_)) (l.length - at_) (c - at_), .pointer (some ⟨q, 0, none⟩)] w.drew
      unfold execOp
      simp [resolve, Deferred.ofValue, invoke, Act.eval, he]
    refine HL.out.mono ?_
    rintro e w4 ⟨rfl, hb4⟩
    refine ⟨_, rfl, ?_⟩
    have n0_ := Lib.hid (H.out.below hb4); clear H; have H := n0_; clear n0_
    have HB4 := Lib.hid (below_drew1 (Below.refl w.heap.size w) |>.trans hb4)
    have hs0 : w4.cell? ⟨g, 0, none⟩ = some (.slice A l.length c) := pw_cell_below hb4 H0.out
    have hs1 : w4.cell? ⟨g, 1, none⟩ = some (.int .i64 at_) := pw_cell_below hb4 H1.out
    have hs2 : w4.cell? ⟨g, 2, none⟩ = some (.bool false) := pw_cell_below hb4 H2.out
    clear hb4 HL
    refine hK.out _ _ ⟨hs0, hs1⟩ (fun hHeld => ?_)
    clear hK K
    refine norm_ (a' := ?_) ?_ ?_
    rotate_left
    · show Act.put _ (some 26) _ = _
      simp only [Act.put, List.setIfInBounds_toArray, List.set_cons_zero, List.set_cons_succ, i64_w, i32_w]
      rfl
    refine pure_ (i := 11) (N := some 15) (v := ?_) (a' := ?_) #[true, true, true, true, true, true, true, true, true, true, true, true, false, false, false, false] rfl rfl (any_of HT_.out (by kernel_rfl)) (fun _ _ _ h => h) (Or.inl ⟨by rfl, ?_⟩) ?_ ?_
    rotate_left
    · intro w'
      go_simp
      with_reducible rfl
    rotate_left
    · simp only [Act.put, List.setIfInBounds_toArray, List.set_cons_zero, List.set_cons_succ, i64_w, i32_w]
      rfl
    refine pure_ (i := 12) (N := some 27) (v := ?_) (a' := ?_) #[true, true, true, true, true, true, true, true, true, true, true, true, true, false, false, false] rfl rfl (any_of HT_.out (by kernel_rfl)) (fun _ _ _ h => h) (Or.inl ⟨by rfl, ?_⟩) ?_ ?_
    rotate_left
    · intro w'
      go_simp
      with_reducible rfl
    rotate_left
    · simp only [Act.put, List.setIfInBounds_toArray, List.set_cons_zero, List.set_cons_succ, i64_w, i32_w]
      rfl
    refine pure_ (i := 13) (N := some 28) (v := ?_) (a' := ?_) #[true, true, true, true, true, true, true, true, true, true, true, true, true, true, false, false] rfl rfl (any_of HT_.out (by kernel_rfl)) (fun _ _ _ h => h) (Or.inl ⟨by rfl, ?_⟩) ?_ ?_
    rotate_left
    · intro w'
      go_simp
      with_reducible rfl
    rotate_left
    · simp only [Act.put, List.setIfInBounds_toArray, List.set_cons_zero, List.set_cons_succ, i64_w, i32_w]
      rfl
    refine pure_ (i := 14) (N := some 8) (v := ?_) (a' := ?_) #[true, true, true, true, true, true, true, true, true, true, true, true, true, true, true, false] rfl rfl (any_of HT_.out (by kernel_rfl)) (fun _ _ _ h => h) (Or.inl ⟨by rfl, ?_⟩) ?_ ?_
    rotate_left
    · intro w'
      go_simp
      with_reducible rfl
    rotate_left
    · simp only [Act.put, List.setIfInBounds_toArray, List.set_cons_zero, List.set_cons_succ, i64_w, i32_w]
      rfl
    refine pure_ (i := 15) (N := some 9) (v := ?_) (a' := ?_) #[true, true, true, true, true, true, true, true, true, true, true, true, true, true, true, true] rfl rfl (any_of HT_.out (by kernel_rfl)) (fun _ _ _ h => h) (Or.inl ⟨by rfl, ?_⟩) ?_ ?_
    rotate_left
    · intro w'
      go_simp
      with_reducible rfl
    rotate_left
    · simp only [Act.put, List.setIfInBounds_toArray, List.set_cons_zero, List.set_cons_succ, i64_w, i32_w]
      rfl
    refine done_ (done_of HT_.out (by kernel_rfl)) ?_
    clear hs0 hs1
    rcases (show k = 0 ∨ (k ≠ 0 ∧ ok = false) ∨ (k ≠ 0 ∧ ok = true) from by
      by_cases hk : k = 0
      · exact .inl hk
      · cases ok
        · exact .inr (.inl ⟨hk, rfl⟩)
        · exact .inr (.inr ⟨hk, rfl⟩)) with hk | ⟨hk, hok⟩ | ⟨hk, hok⟩
    · subst hk
      have hfz : ∀ i, w4.frozen? ⟨g, i, none⟩ = false := by obtain ⟨_, _, _, _, _, hf, _⟩ := H.out.cells; exact hf
      have f2 := hfz 2
      clear hfz
      go_wp2_with fail
      go_ret
      exact Took.stop (.inl rfl) rfl (H.out.set_bad true) (Fr.set (X := fun i => i = g) (Fr.of_below HB4.out) (p := ⟨g, 2, none⟩) rfl _)
    · subst hok
      have hkz : ((k : Int) == 0) = false := beq_eq_false_iff_ne.mpr (by omega)
      have hfz : ∀ i, w4.frozen? ⟨g, i, none⟩ = false := by obtain ⟨_, _, _, _, _, hf, _⟩ := H.out.cells; exact hf
      have f2 := hfz 2
      have HK := Lib.hid hk
      clear hfz hk
      go_wp2_with fail
      refine (HM.out w4 HB4.out).mono ?_
      rintro e w5 ⟨rfl, rfl⟩
      go_wp2_with fail
      go_ret
      exact Took.stop (.inr rfl) rfl (H.out.set_bad true) (Fr.set (X := fun i => i = g) (Fr.of_below HB4.out) (p := ⟨g, 2, none⟩) rfl _)
    · subst hok
      have hkz : ((k : Int) == 0) = false := beq_eq_false_iff_ne.mpr (by omega)
      have hs1 : w4.cell? ⟨g, 1, none⟩ = some (.int .i64 at_) := by obtain ⟨_, _, _, h, _⟩ := H.out.cells; exact h
      have hfz : ∀ i, w4.frozen? ⟨g, i, none⟩ = false := by obtain ⟨_, _, _, _, _, hf, _⟩ := H.out.cells; exact hf
      have f1 := hfz 1
      have HK := Lib.hid hk
      have hsum : ((at_ : Int) + (k : Int)) = ((at_ + k : Nat) : Int) := by omega
      have HS := Lib.hid hsum
      clear hfz hk hsum
      go_wp2_with fail
      refine (HM.out w4 HB4.out).mono ?_
      rintro e w5 ⟨rfl, rfl⟩
      go_wp2_with fail
      go_ret
      have hk := HK.out
      rw [HS.out]
      exact Took.go hk rfl (H.out.set_at (at_ + k) hkl) (Fr.set (X := fun i => i = g) (Fr.of_below HB4.out) (p := ⟨g, 1, none⟩) rfl _)
end
end Go.Proofs.Ytmklmpajcomimaa.Hand
end

section
/- Int, Byte, Str of a reader. -/
namespace Go.Proofs.Ytmklmpajcomimaa.Hand
open Go.RowKit Go.Proofs.YtmklmpajcomimaaW.PrintWords Go.Proofs.YtmklmpajcomimaaW.PrintLast Go.Proofs.YtmklmpajcomimaaW.PrintMore Go.Proofs.Ytmklmpajcomimaa.PTraceWrites
set_option linter.unusedVariables false
set_option linter.unusedSimpArgs false
theorem alloc_size (w : World) (o : Obj) : w.heap.size + 1 = (w.alloc o).heap.size := by rw [World.size_alloc]
/-- One read: k bytes were there (0: none), and may be (ok). -/
def rI (l : List Int) (at_ : Nat) (bad : Bool) (most : Int) : Int × Nat × Bool :=
  if bad = true ∨ (getP (l.drop at_)).2 = 0 ∨ decide ((getP (l.drop at_)).1 ≤ most) = false then (0, at_, true) else ((getP (l.drop at_)).1, at_ + (getP (l.drop at_)).2, false)
def rB (l : List Int) (at_ : Nat) (bad : Bool) (most : Int) : Int × Nat × Bool :=
  if bad = true ∨ (getB (l.drop at_)).2 = 0 ∨ decide ((getB (l.drop at_)).1 ≤ most) = false then (0, at_, true) else ((getB (l.drop at_)).1, at_ + (getB (l.drop at_)).2, false)
def rS (l : List Int) (at_ : Nat) (bad : Bool) (most : Int) : List Int × Nat × Bool :=
  if bad = true ∨ (getS (l.drop at_) most).2 = 0 ∨ true = false then ([], at_, true) else ((getS (l.drop at_) most).1, at_ + (getS (l.drop at_) most).2, false)
theorem getB_facts {l : List Int} {n : Int} {k : Nat} (h : getB l = (n, k)) : k ≤ l.length := by
  cases l with
  | nil => simp only [getB, Prod.mk.injEq] at h; omega
  | cons c t => simp only [getB, Prod.mk.injEq] at h; simp; omega
section
variable {w : World} {g base : Nat} {l : List Int} {at_ : Nat} {bad : Bool}
theorem int_calls (h : Rdr w g base l at_ bad) (hb : Bytes l) (most : Int) : Calls Try.prog 61 #[.pointer (some ⟨g, 0, none⟩), .int .i64 most] w fun e w' => e = .returned (.int .i64 (rI l at_ bad most).1) ∧ Rdr w' g base l (rI l at_ bad most).2.1 (rI l at_ bad most).2.2 ∧ Fr (fun i => i = g) w w' := by
  have hmf : ∀ (fn : Fn) (first cap : Array Value) (w : World), (Instr.makeFunc fn first cap).run Try.prog w = .ok (.func fn first cap) w := fun _ _ _ _ => rfl
  have hlt := h.lt
  have H := Lib.hid h
  clear h
  obtain ⟨q, hq⟩ : ∃ q, w.heap.size = q := ⟨_, rfl⟩
  go_enter Try.func61, Try.ntmps61
  go_wp2_with fail
  have hba := below_alloc (Below.refl w.heap.size w) (.cells #[.int .i64 most] 3)
  have hcells : (w.alloc (.cells #[.int .i64 most] 3)).heap[q]? = some (.cells #[.int .i64 most] 3 (0, 0)) := by rw [← hq]; exact blk_new _ _
  have HA := Lib.hid (H.out.below hba)
  have HBA := Lib.hid hba
  try rw [hq]
  generalize w.alloc _ = wa at hcells HA HBA ⊢
  clear hba
  cases bad with
  | true =>
    refine (int_bad HA.out _ _).mono ?_
    rintro e w1 ⟨rfl, rfl⟩
    have e1 : rI l at_ true most = (0, at_, true) := if_pos (.inl rfl)
    have E1 := Lib.hid e1
    clear e1
    go_wp2_with fail
    go_ret
    rw [E1.out]
    exact ⟨rfl, HA.out, Fr.of_below HBA.out⟩
  | false =>
    obtain ⟨n, k, hg⟩ : ∃ n k, getP (l.drop at_) = (n, k) := ⟨_, _, rfl⟩
    have hf := getP_facts hg
    rw [List.length_drop] at hf
    have hgi := get_is (l.drop at_) (hb.drop at_) (by rw [List.length_drop]; omega)
    rw [hg] at hgi
    refine (int_good HA.out q n k (by omega) (decide (n ≤ most)) (fun W A' c' hW hC hc => leb_Get.calls 50 A' c' (l.drop at_) n (k : Int) W hC hc hgi) (fun W hW => may_calls W q n most (pw_cell_below hW ((blk_cell hcells 0).trans rfl)))).mono ?_
    rintro e w1 ht
    have e1 : rI l at_ false most = if k = 0 ∨ decide (n ≤ most) = false then (0, at_, true) else (n, at_ + k, false) := by
      unfold rI
      rw [hg]
      simp
    unfold Took at ht
    obtain ⟨rfl, hr, hf2⟩ := ht
    have HF := Lib.hid (Fr.trans (X := fun i => i = g) (Y := fun i => i = g) (Z := fun i => i = g) (Fr.of_below HBA.out) hf2 (fun i h => h) (fun i _ h => h))
    by_cases hk : k = 0 ∨ decide (n ≤ most) = false
    · rw [if_pos hk] at hr ⊢
      rw [decide_eq_true hk] at hr
      have HR := Lib.hid hr
      have e2 : rI l at_ false most = (0, at_, true) := by rw [e1, if_pos hk]
      have E2 := Lib.hid e2
      clear hr hf2 hgi hcells hg e1 e2 hk
      go_wp2_with fail
      go_ret
      rw [E2.out]
      exact ⟨rfl, HR.out, HF.out⟩
    · rw [if_neg hk] at hr ⊢
      rw [decide_eq_false hk] at hr
      have HR := Lib.hid hr
      have e2 : rI l at_ false most = (n, at_ + k, false) := by rw [e1, if_neg hk]
      have E2 := Lib.hid e2
      clear hr hf2 hgi hcells hg e1 e2 hk
      go_wp2_with fail
      go_ret
      rw [E2.out]
      exact ⟨rfl, HR.out, HF.out⟩
theorem byte_calls (h : Rdr w g base l at_ bad) (hb : Bytes l) (most : Int) : Calls Try.prog 60 #[.pointer (some ⟨g, 0, none⟩), .int .i64 most] w fun e w' => e = .returned (.int .i64 (rB l at_ bad most).1) ∧ Rdr w' g base l (rB l at_ bad most).2.1 (rB l at_ bad most).2.2 ∧ Fr (fun i => i = g) w w' := by
  have hmf : ∀ (fn : Fn) (first cap : Array Value) (w : World), (Instr.makeFunc fn first cap).run Try.prog w = .ok (.func fn first cap) w := fun _ _ _ _ => rfl
  have hlt := h.lt
  have H := Lib.hid h
  clear h
  obtain ⟨q, hq⟩ : ∃ q, w.heap.size = q := ⟨_, rfl⟩
  go_enter Try.func60, Try.ntmps60
  go_wp2_with fail
  have hba := below_alloc (Below.refl w.heap.size w) (.cells #[.int .i64 most] 3)
  have hcells : (w.alloc (.cells #[.int .i64 most] 3)).heap[q]? = some (.cells #[.int .i64 most] 3 (0, 0)) := by rw [← hq]; exact blk_new _ _
  have HA := Lib.hid (H.out.below hba)
  have HBA := Lib.hid hba
  try rw [hq]
  generalize w.alloc _ = wa at hcells HA HBA ⊢
  clear hba
  cases bad with
  | true =>
    refine (int_bad HA.out _ _).mono ?_
    rintro e w1 ⟨rfl, rfl⟩
    have e1 : rB l at_ true most = (0, at_, true) := if_pos (.inl rfl)
    have E1 := Lib.hid e1
    clear e1
    go_wp2_with fail
    go_ret
    rw [E1.out]
    exact ⟨rfl, HA.out, Fr.of_below HBA.out⟩
  | false =>
    obtain ⟨n, k, hg⟩ : ∃ n k, getB (l.drop at_) = (n, k) := ⟨_, _, rfl⟩
    have hf := getB_facts hg
    rw [List.length_drop] at hf
    refine (byte_good HA.out q n k (by omega) (decide (n ≤ most)) (fun W A' c' hW hC hc => by have := getb_calls A' c' (l.drop at_) W hC hc (hb.drop at_) (by rw [List.length_drop]; omega); rw [hg] at this; exact this) (fun W hW => mayb_calls W q n most (pw_cell_below hW ((blk_cell hcells 0).trans rfl)))).mono ?_
    rintro e w1 ht
    have e1 : rB l at_ false most = if k = 0 ∨ decide (n ≤ most) = false then (0, at_, true) else (n, at_ + k, false) := by
      unfold rB
      rw [hg]
      simp
    unfold Took at ht
    obtain ⟨rfl, hr, hf2⟩ := ht
    have HF := Lib.hid (Fr.trans (X := fun i => i = g) (Y := fun i => i = g) (Z := fun i => i = g) (Fr.of_below HBA.out) hf2 (fun i h => h) (fun i _ h => h))
    by_cases hk : k = 0 ∨ decide (n ≤ most) = false
    · rw [if_pos hk] at hr ⊢
      rw [decide_eq_true hk] at hr
      have HR := Lib.hid hr
      have e2 : rB l at_ false most = (0, at_, true) := by rw [e1, if_pos hk]
      have E2 := Lib.hid e2
      clear hr hf2 hcells hg e1 e2 hk
      go_wp2_with fail
      go_ret
      rw [E2.out]
      exact ⟨rfl, HR.out, HF.out⟩
    · rw [if_neg hk] at hr ⊢
      rw [decide_eq_false hk] at hr
      have HR := Lib.hid hr
      have e2 : rB l at_ false most = (n, at_ + k, false) := by rw [e1, if_neg hk]
      have E2 := Lib.hid e2
      clear hr hf2 hcells hg e1 e2 hk
      go_wp2_with fail
      go_ret
      rw [E2.out]
      exact ⟨rfl, HR.out, HF.out⟩
theorem str_calls (h : Rdr w g base l at_ bad) (hb : Bytes l) (most : Int) : Calls Try.prog 62 #[.pointer (some ⟨g, 0, none⟩), .int .i64 most] w fun e w' => e = .returned (.string (strOfNums (rS l at_ bad most).1)) ∧ Rdr w' g base l (rS l at_ bad most).2.1 (rS l at_ bad most).2.2 ∧ Fr (fun i => i = g) w w' := by
  have hmf : ∀ (fn : Fn) (first cap : Array Value) (w : World), (Instr.makeFunc fn first cap).run Try.prog w = .ok (.func fn first cap) w := fun _ _ _ _ => rfl
  have hlt := h.lt
  have H := Lib.hid h
  clear h
  obtain ⟨q, hq⟩ : ∃ q, w.heap.size = q := ⟨_, rfl⟩
  go_enter Try.func62, Try.ntmps62
  go_wp2_with fail
  have hba := below_alloc (Below.refl w.heap.size w) (.cells #[.int .i64 most] 3)
  have hcells : (w.alloc (.cells #[.int .i64 most] 3)).heap[q]? = some (.cells #[.int .i64 most] 3 (0, 0)) := by rw [← hq]; exact blk_new _ _
  have HA := Lib.hid (H.out.below hba)
  have HBA := Lib.hid hba
  try rw [hq]
  generalize w.alloc _ = wa at hcells HA HBA ⊢
  clear hba
  cases bad with
  | true =>
    refine (str_bad HA.out _ _).mono ?_
    rintro e w1 ⟨rfl, rfl⟩
    have e1 : rS l at_ true most = ([], at_, true) := if_pos (.inl rfl)
    have E1 := Lib.hid e1
    clear e1
    go_wp2_with fail
    go_ret
    rw [E1.out]
    exact ⟨rfl, HA.out, Fr.of_below HBA.out⟩
  | false =>
    obtain ⟨n, k, hg⟩ : ∃ n k, getS (l.drop at_) most = (n, k) := ⟨_, _, rfl⟩
    have hf := getS_facts hg
    rw [List.length_drop] at hf
    refine (str_good HA.out q (strOfNums n) k (by omega) true (fun W A' c' hW hC hc => by have := gets_calls A' c' (l.drop at_) q most W (pw_cell_below hW ((blk_cell hcells 0).trans rfl)) hC hc (hb.drop at_) (by rw [List.length_drop]; omega); rw [hg] at this; exact this) (fun W hW => mays_calls W (strOfNums n))).mono ?_
    rintro e w1 ht
    have e1 : rS l at_ false most = if k = 0 ∨ true = false then ([], at_, true) else (n, at_ + k, false) := by
      unfold rS
      rw [hg]
      simp
    unfold Took at ht
    obtain ⟨rfl, hr, hf2⟩ := ht
    have HF := Lib.hid (Fr.trans (X := fun i => i = g) (Y := fun i => i = g) (Z := fun i => i = g) (Fr.of_below HBA.out) hf2 (fun i h => h) (fun i _ h => h))
    by_cases hk : k = 0 ∨ true = false
    · rw [if_pos hk] at hr ⊢
      rw [decide_eq_true hk] at hr
      have HR := Lib.hid hr
      have e2 : rS l at_ false most = ([], at_, true) := by rw [e1, if_pos hk]
      have E2 := Lib.hid e2
      clear hr hf2 hcells hg e1 e2 hk
      go_wp2_with fail
      go_ret
      rw [E2.out]
      exact ⟨rfl, HR.out, HF.out⟩
    · rw [if_neg hk] at hr ⊢
      rw [decide_eq_false hk] at hr
      have HR := Lib.hid hr
      have e2 : rS l at_ false most = (n, at_ + k, false) := by rw [e1, if_neg hk]
      have E2 := Lib.hid e2
      clear hr hf2 hcells hg e1 e2 hk
      go_wp2_with fail
      go_ret
      rw [E2.out]
      exact ⟨rfl, HR.out, HF.out⟩
end
end Go.Proofs.Ytmklmpajcomimaa.Hand
end
