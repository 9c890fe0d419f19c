/- A stage without a toxic: what comes in, and out. -/
import Derived.Test.YtdpfmemcpipbkaaGreatDoorZState
import Derived.Laws.EntriesVeiled
section
namespace Go.Proofs.YtdpfmemcpipbkaaGreatDoor.Hand
open Go.RowKit
variable {B : Nat}
set_option linter.unusedVariables false
set_option linter.unusedSimpArgs false
set_option maxHeartbeats 4000000 in
set_option maxRecDepth 100000 in
theorem stage_force0 (sb cb : Nat) (p : Int) (w : World) (h : StageIn w sb cb p) : Calls Tryz.prog 124 #[.pointer (some ⟨sb, 0, none⟩), .int .i64 0, .slice none 0 0] w fun e w' => e = .returned (.tuple #[]) ∧ Below w.heap.size w w' := by
  have HN := Lib.hid (stage_state sb cb p w h)
  clear h
  go_enter Tryz.func124, Tryz.ntmps124
  go_wp2_with fail
  refine HN.out.mono ?_
  rintro e w1 ⟨rfl, hb1⟩
  go_wp2_with fail
  refine bodyPost_ret (results_none rfl _ _ _) rfl ?_
  exact ⟨rfl, hb1⟩
theorem ByteIn.below {w w' : World} {g o : Nat} (h : ByteIn w g o) (hg : g < w.heap.size) (hb : Below w.heap.size w w') : ByteIn w' g o := (hb.cell (p := ⟨g, o, none⟩) hg).trans h
set_option maxHeartbeats 4000000 in
set_option maxRecDepth 100000 in
theorem stage_force1 (sb cb g o c : Nat) (p : Int) (w : World) (h : StageIn w sb cb p) (hc : CargoIn w cb (.slice none 0 0)) (hb : ByteIn w g o) (hg : g < w.heap.size) (hBw : B ≤ w.heap.size) : Calls Tryz.prog 124 #[.pointer (some ⟨sb, 0, none⟩), .int .i64 0, .slice (some ⟨g, o, none⟩) 1 c] w fun e w' => e = .returned (.tuple #[]) ∧ Has B w' cb 1 ∧ Fr (fun b => b = cb) w w' := by
  have HBw := Lib.hid hBw
  clear hBw
  have HN := Lib.hid (stage_state sb cb p w h)
  have HS := Lib.hid h
  have HC := Lib.hid hc
  have HBY := Lib.hid hb
  clear h hc hb
  go_enter Tryz.func124, Tryz.ntmps124
  go_wp2_with fail
  refine HN.out.mono ?_
  rintro e w1 ⟨rfl, hb1⟩
  have h1 := HS.out.below hb1
  have c0 := h1.cells 0
  have c2 := h1.cells 2
  have c14 := h1.cells 14
  simp only [stageC, List.getElem?_toArray, List.getElem?_cons_zero, List.getElem?_cons_succ] at c0 c2 c14
  have HP := Lib.hid (cargo_put (B := B) cb g o c w1 ((hb1.block cb (blk_lt HC.out)).trans HC.out) (HBY.out.below hg hb1) (Nat.lt_of_lt_of_le hg hb1.size) (Nat.le_trans HBw.out hb1.size))
  have HB1 := Lib.hid hb1
  clear hb1 h1
  go_wp2_with fail
  refine HP.out.mono ?_
  rintro e w2 ⟨rfl, hh2, hf2⟩
  have H2 := Lib.hid (show Has B w2 cb 1 ∧ Fr (fun b => b = cb) w w2 from ⟨hh2, Fr.below_then HB1.out hf2⟩)
  clear hh2 hf2
  go_wp2_with fail
  refine bodyPost_end (results_none rfl _ _ _) rfl ?_
  exact ⟨rfl, H2.out⟩
set_option maxHeartbeats 4000000 in
set_option maxRecDepth 100000 in
theorem stage_put (sb cb g o c : Nat) (hc1 : 1 ≤ c) (p : Int) (w : World) (h : StageIn w sb cb p) (hc : CargoIn w cb (.slice none 0 0)) (hb : ByteIn w g o) (hg : g < w.heap.size) (hBw : B ≤ w.heap.size) : Calls Tryz.prog 120 #[.pointer (some ⟨sb, 0, none⟩), .int .i64 0, .slice (some ⟨g, o, none⟩) 1 c] w fun e w' => e = .returned (.int .i64 1) ∧ Has B w' cb 1 ∧ Fr (fun b => b = cb) w w' := by
  have HBw := Lib.hid hBw
  clear hBw
  have HN := Lib.hid (stage_state sb cb p w h)
  have HS := Lib.hid h
  have HC := Lib.hid hc
  have HBY := Lib.hid hb
  clear h hc hb
  go_enter Tryz.func120, Tryz.ntmps120
  go_wp2_with fail
  refine HN.out.mono ?_
  rintro e w1 ⟨rfl, hb1⟩
  have h1 := HS.out.below hb1
  have c17 := h1.cells 17
  simp only [stageC, List.getElem?_toArray, List.getElem?_cons_zero, List.getElem?_cons_succ] at c17
  have hc1' : CargoIn w1 cb (.slice none 0 0) := (hb1.block cb (blk_lt HC.out)).trans HC.out
  have HF := Lib.hid (stage_free (B := 0) sb cb p w1 h1 (.none _ _ hc1'))
  have HB1 := Lib.hid hb1
  have HC1 := Lib.hid hc1'
  have HS1 := Lib.hid h1
  clear hb1 h1 hc1'
  go_wp2_with fail
  refine HF.out.mono ?_
  rintro e w2 ⟨rfl, hb2⟩
  have HP := Lib.hid (stage_force1 (B := B) sb cb g o c p w2 (HS1.out.below hb2) ((hb2.block cb (blk_lt HC1.out)).trans HC1.out) ((HBY.out.below hg HB1.out).below (Nat.lt_of_lt_of_le hg HB1.out.size) hb2) (Nat.lt_of_lt_of_le (Nat.lt_of_lt_of_le hg HB1.out.size) hb2.size) (Nat.le_trans HBw.out (Nat.le_trans HB1.out.size hb2.size)))
  have HB2 := Lib.hid (below_step HB1.out hb2)
  clear hb2
  go_wp2_with fail
  refine HP.out.mono ?_
  rintro e w3 ⟨rfl, hh2, hf2⟩
  have H2 := Lib.hid (show Has B w3 cb 1 ∧ Fr (fun b => b = cb) w w3 from ⟨hh2, Fr.below_then HB2.out hf2⟩)
  clear hh2 hf2
  go_wp2_with fail
  go_ret
  exact ⟨rfl, H2.out⟩
set_option maxHeartbeats 4000000 in
set_option maxRecDepth 100000 in
theorem stage_all (sb : Nat) (n : Int) (w : World) : Calls Tryz.prog 237 #[.pointer (some ⟨sb, 0, none⟩), .int .i64 n] w fun e w' => e = .returned (.int .i64 n) ∧ w = w' := by
  go_enter Tryz.func237, Tryz.ntmps237
  go_wp2_with fail
  go_ret
  exact ⟨rfl, rfl⟩
theorem stage_not {w : World} {sb cb k : Nat} {p : Int} (h : StageIn w sb cb p) (hh : Has B w cb k) : ¬ (sb = cb ∨ isP B w sb) := by
  rintro (rfl | ⟨_, cur, hc⟩)
  · have key : ∀ u, CargoIn w sb u → False := by
      intro u hu
      unfold StageIn at h
      unfold CargoIn at hu
      rw [h] at hu
      injection hu with h1
      injection h1 with _ h2
      exact absurd h2 (by decide)
    rcases hh with ⟨a, c, h1⟩ | ⟨g, c, h1, _, _, _⟩ <;> exact key _ h1
  · unfold StageIn at h
    rw [h] at hc
    injection hc with h1
    injection h1 with _ h2
    exact absurd h2 (by decide)
def ff (f : Nat) : Value := .func (.func f) #[] #[]
def waysA : Array Value := #[ff 237, ff 237, ff 238, ff 239, ff 240, ff 237, ff 241, ff 237]
set_option maxHeartbeats 4000000 in
set_option maxRecDepth 100000 in
theorem ways_calls (w : World) : Calls Tryz.prog 193 #[] w fun e w' => e = .returned (.agg waysA) ∧ Below w.heap.size w w' := by
  go_enter Tryz.func193, Tryz.ntmps193
  go_wp2_with fail
  refine bodyPost_ret (v := .agg waysA) ?_ ?_ ?_
  · simp [results, Tryz.results193, go_sem, waysA, ff]
  · rfl
  exact ⟨rfl, below_alloc (Below.refl _ w) _ (Nat.le_refl _)⟩
set_option maxHeartbeats 16000000 in
set_option maxRecDepth 100000 in
theorem stage_take0 (sb cb : Nat) (m : Int) (hm : 1 ≤ m) (p : Int) (hp : 0 ≤ p) (hp2 : p ≤ 100) (w : World) (h : StageIn w sb cb p) (hh : Has B w cb 0) : Calls Tryz.prog 125 #[.pointer (some ⟨sb, 0, none⟩), .int .i64 0, .int .i64 m] w fun e w' => e = .returned (.slice none 0 0) ∧ Below w.heap.size w w' := by
  have HN := Lib.hid (stage_state sb cb p w h)
  have HS := Lib.hid h
  have HH := Lib.hid hh
  have hix : ∀ W, (Instr.index 257 (.agg waysA) (.int .i64 0)).run Tryz.prog W = .ok (.func (.func 237) #[] #[]) W := fun W => by kernel_rfl
  have hm1 : decide (m < 1) = false := decide_eq_false (by omega)
  clear h hh
  go_enter Tryz.func125, Tryz.ntmps125
  go_wp2_with fail
  refine HN.out.mono ?_
  rintro e w1 ⟨rfl, hb1⟩
  have h1 := HS.out.below hb1
  have hz1 := blk_lt h1
  have c0 := h1.cells 0
  have c2 := h1.cells 2
  have c14 := h1.cells 14
  simp only [stageC, List.getElem?_toArray, List.getElem?_cons_zero, List.getElem?_cons_succ] at c0 c2 c14
  have HS1 := Lib.hid h1
  have HH1 := Lib.hid (HH.out.below hb1)
  have HB1 := Lib.hid hb1
  clear hb1 h1
  go_wp2_with fail
  refine start_n (S := fun W => W.cell? ⟨sb, 0, none⟩ = some (.pointer (some ⟨cb, 0, none⟩)) ∧ W.cell? ⟨sb, 14, none⟩ = some (.int .i64 0)) 12 #[false, false, false, false, false, false, false, false, false, false, false, false] (by kernel_rfl) rfl rfl ?_ (fun hHeld => ?_)
  · (try dsimp only)
    exact ⟨c0, c14⟩
  refine take_n 0 (some 17) #[true, false, false, false, false, false, false, false, false, false, false, false] (v := ?_) (a' := ?_) rfl rfl rfl (by kernel_rfl) (by kernel_rfl) (by kernel_rfl) (fun _ _ _ _ h => h) (Or.inl ⟨by rfl, ?_⟩) hHeld ?_ ?_
  rotate_left 2
  · intro w hSw
    (try dsimp only at hSw)
    go_simp
    all_goals (with_reducible rfl)
  · simp only [Act.put, List.setIfInBounds_toArray, List.set_cons_zero, List.set_cons_succ]
    rfl
  refine take_n 1 (some 18) #[true, true, false, false, false, false, false, false, false, false, false, false] (v := ?_) (a' := ?_) rfl rfl rfl (by kernel_rfl) (by kernel_rfl) (by kernel_rfl) (fun _ _ _ _ h => h) (Or.inl ⟨by rfl, ?_⟩) hHeld ?_ ?_
  rotate_left 2
  · intro w hSw
    (try dsimp only at hSw)
    go_simp
    all_goals (with_reducible rfl)
  · simp only [Act.put, List.setIfInBounds_toArray, List.set_cons_zero, List.set_cons_succ]
    rfl
  refine take_n 2 (some 19) #[true, true, true, false, false, false, false, false, false, false, false, false] (v := ?_) (a' := ?_) rfl rfl rfl (by kernel_rfl) (by kernel_rfl) (by kernel_rfl) (fun _ _ _ _ h => h) (Or.inl ⟨by rfl, ?_⟩) hHeld ?_ ?_
  rotate_left 2
  · intro w hSw
    (try dsimp only at hSw)
    go_simp
    all_goals (with_reducible rfl)
  · simp only [Act.put, List.setIfInBounds_toArray, List.set_cons_zero, List.set_cons_succ]
    rfl
  refine take_n 3 (some 20) #[true, true, true, true, false, false, false, false, false, false, false, false] (v := ?_) (a' := ?_) rfl rfl rfl (by kernel_rfl) (by kernel_rfl) (by kernel_rfl) (fun _ _ _ _ h => h) (Or.inl ⟨by rfl, ?_⟩) hHeld ?_ ?_
  rotate_left 2
  · intro w hSw
    (try dsimp only at hSw)
    go_simp
    all_goals (with_reducible rfl)
  · simp only [Act.put, List.setIfInBounds_toArray, List.set_cons_zero, List.set_cons_succ]
    rfl
  refine take_n 4 (some 21) #[true, true, true, true, true, false, false, false, false, false, false, false] (v := ?_) (a' := ?_) rfl rfl rfl (by kernel_rfl) (by kernel_rfl) (by kernel_rfl) (fun _ _ _ _ h => h) (Or.inl ⟨by rfl, ?_⟩) hHeld ?_ ?_
  rotate_left 2
  · intro w hSw
    (try dsimp only at hSw)
    go_simp
    all_goals (with_reducible rfl)
  · simp only [Act.put, List.setIfInBounds_toArray, List.set_cons_zero, List.set_cons_succ]
    rfl
  refine take_n 5 (some 22) #[true, true, true, true, true, true, false, false, false, false, false, false] (v := ?_) (a' := ?_) rfl rfl rfl (by kernel_rfl) (by kernel_rfl) (by kernel_rfl) (fun _ _ _ _ h => h) (Or.inl ⟨by rfl, ?_⟩) hHeld ?_ ?_
  rotate_left 2
  · intro w hSw
    (try dsimp only at hSw)
    go_simp
    all_goals (with_reducible rfl)
  · simp only [Act.put, List.setIfInBounds_toArray, List.set_cons_zero, List.set_cons_succ]
    rfl
  refine take_n 6 (some 23) #[true, true, true, true, true, true, true, false, false, false, false, false] (v := ?_) (a' := ?_) rfl rfl rfl (by kernel_rfl) (by kernel_rfl) (by kernel_rfl) (fun _ _ _ _ h => h) (Or.inl ⟨by rfl, ?_⟩) hHeld ?_ ?_
  rotate_left 2
  · intro w hSw
    (try dsimp only at hSw)
    go_simp
    all_goals (with_reducible rfl)
  · simp only [Act.put, List.setIfInBounds_toArray, List.set_cons_zero, List.set_cons_succ]
    rfl
  refine take_n 7 (some 24) #[true, true, true, true, true, true, true, true, false, false, false, false] (v := ?_) (a' := ?_) rfl rfl rfl (by kernel_rfl) (by kernel_rfl) (by kernel_rfl) (fun _ _ _ _ h => h) (Or.inl ⟨by rfl, ?_⟩) hHeld ?_ ?_
  rotate_left 2
  · intro w hSw
    (try dsimp only at hSw)
    go_simp
    all_goals (with_reducible rfl)
  · simp only [Act.put, List.setIfInBounds_toArray, List.set_cons_zero, List.set_cons_succ]
    rfl
  refine take_n 9 (some 26) #[true, true, true, true, true, true, true, true, false, true, false, false] (v := ?_) (a' := ?_) rfl rfl rfl (by kernel_rfl) (by kernel_rfl) (by kernel_rfl) (fun _ _ _ _ h => h) (Or.inl ⟨by rfl, ?_⟩) hHeld ?_ ?_
  rotate_left 2
  · intro w hSw
    (try dsimp only at hSw)
    go_simp
    all_goals (with_reducible rfl)
  · simp only [Act.put, List.setIfInBounds_toArray, List.set_cons_zero, List.set_cons_succ]
    rfl
  refine one_n 8 #[true, true, true, true, true, true, true, true, true, true, false, false] rfl rfl (by kernel_rfl) (fun K hK => ?_)
  go_simp
  refine (cargo_ready cb 0 _ HH1.out.drew).mono ?_
  rintro e w2 ⟨rfl, hb2⟩
  have HB2 := Lib.hid (below_drew hb2)
  clear hb2
  refine hK.out _ ?_ _ ?_ ?_ (fun hHeld => ?_)
  rotate_left
  · (try simp only [Act.put, List.setIfInBounds_toArray, List.set_cons_zero, List.set_cons_succ])
    rfl
  · (try dsimp only)
    exact ⟨(HB2.out.cell (p := ⟨sb, 0, none⟩) hz1).trans hHeld.1, (HB2.out.cell (p := ⟨sb, 14, none⟩) hz1).trans hHeld.2⟩
  clear hK K
  refine take_n 10 (some 27) #[true, true, true, true, true, true, true, true, true, true, true, false] (v := ?_) (a' := ?_) rfl rfl rfl (by kernel_rfl) (by kernel_rfl) (by kernel_rfl) (fun _ _ _ _ h => h) (Or.inl ⟨by rfl, ?_⟩) hHeld ?_ ?_
  rotate_left 2
  · intro w hSw
    (try dsimp only at hSw)
    go_simp
    (try rw [if_neg (by omega)])
    all_goals (with_reducible rfl)
  · simp only [Act.put, List.setIfInBounds_toArray, List.set_cons_zero, List.set_cons_succ]
    rfl
  refine take_n 11 (some 7) #[true, true, true, true, true, true, true, true, true, true, true, true] (v := ?_) (a' := ?_) rfl rfl rfl (by kernel_rfl) (by kernel_rfl) (by kernel_rfl) (fun _ _ _ _ h => h) (Or.inl ⟨by rfl, ?_⟩) hHeld ?_ ?_
  rotate_left 2
  · intro w hSw
    (try dsimp only at hSw)
    go_simp
    all_goals (with_reducible rfl)
  · simp only [Act.put, List.setIfInBounds_toArray, List.set_cons_zero, List.set_cons_succ]
    rfl
  refine wpAnyH_done (by kernel_rfl) ?_ _
  have hz2 : sb < w2.heap.size := Nat.lt_of_lt_of_le hz1 HB2.out.size
  have d0 := (HB2.out.cell (p := ⟨sb, 0, none⟩) hz1).trans c0
  have d2 := (HB2.out.cell (p := ⟨sb, 2, none⟩) hz1).trans c2
  have d14 := (HB2.out.cell (p := ⟨sb, 14, none⟩) hz1).trans c14
  have HH2 := Lib.hid (HH1.out.below HB2.out)
  have HS2 := Lib.hid (HS1.out.below HB2.out)
  have HB12 := Lib.hid (below_step HB1.out HB2.out)
  go_wp2_with fail
  refine start_n (S := fun W => W.cell? ⟨sb, 0, none⟩ = some (.pointer (some ⟨cb, 0, none⟩)) ∧ W.cell? ⟨sb, 2, none⟩ = some (.int .i64 0) ∧ W.cell? ⟨sb, 14, none⟩ = some (.int .i64 0)) 20 #[false, false, false, false, false, false, false, false, false, false, false, false, false, false, false, false, false, false, false, false] (by kernel_rfl) rfl rfl ?_ (fun hHeld => ?_)
  · (try dsimp only)
    exact ⟨d0, d2, d14⟩
  refine take_n 0 (some 28) #[true, false, false, false, false, false, false, false, false, false, false, false, false, false, false, false, false, false, false, false] (v := ?_) (a' := ?_) rfl rfl rfl (by kernel_rfl) (by kernel_rfl) (by kernel_rfl) (fun _ _ _ _ h => h) (Or.inl ⟨by rfl, ?_⟩) hHeld ?_ ?_
  rotate_left 2
  · intro w hSw
    (try dsimp only at hSw)
    go_simp
    all_goals (with_reducible rfl)
  · simp only [Act.put, List.setIfInBounds_toArray, List.set_cons_zero, List.set_cons_succ]
    rfl
  refine take_n 1 (some 29) #[true, true, false, false, false, false, false, false, false, false, false, false, false, false, false, false, false, false, false, false] (v := ?_) (a' := ?_) rfl rfl rfl (by kernel_rfl) (by kernel_rfl) (by kernel_rfl) (fun _ _ _ _ h => h) (Or.inl ⟨by rfl, ?_⟩) hHeld ?_ ?_
  rotate_left 2
  · intro w hSw
    (try dsimp only at hSw)
    go_simp
    all_goals (with_reducible rfl)
  · simp only [Act.put, List.setIfInBounds_toArray, List.set_cons_zero, List.set_cons_succ]
    rfl
  refine take_n 2 (some 30) #[true, true, true, false, false, false, false, false, false, false, false, false, false, false, false, false, false, false, false, false] (v := ?_) (a' := ?_) rfl rfl rfl (by kernel_rfl) (by kernel_rfl) (by kernel_rfl) (fun _ _ _ _ h => h) (Or.inl ⟨by rfl, ?_⟩) hHeld ?_ ?_
  rotate_left 2
  · intro w hSw
    (try dsimp only at hSw)
    go_simp
    all_goals (with_reducible rfl)
  · simp only [Act.put, List.setIfInBounds_toArray, List.set_cons_zero, List.set_cons_succ]
    rfl
  refine take_n 3 (some 31) #[true, true, true, true, false, false, false, false, false, false, false, false, false, false, false, false, false, false, false, false] (v := ?_) (a' := ?_) rfl rfl rfl (by kernel_rfl) (by kernel_rfl) (by kernel_rfl) (fun _ _ _ _ h => h) (Or.inl ⟨by rfl, ?_⟩) hHeld ?_ ?_
  rotate_left 2
  · intro w hSw
    (try dsimp only at hSw)
    go_simp
    all_goals (with_reducible rfl)
  · simp only [Act.put, List.setIfInBounds_toArray, List.set_cons_zero, List.set_cons_succ]
    rfl
  refine take_n 4 (some 32) #[true, true, true, true, true, false, false, false, false, false, false, false, false, false, false, false, false, false, false, false] (v := ?_) (a' := ?_) rfl rfl rfl (by kernel_rfl) (by kernel_rfl) (by kernel_rfl) (fun _ _ _ _ h => h) (Or.inl ⟨by rfl, ?_⟩) hHeld ?_ ?_
  rotate_left 2
  · intro w hSw
    (try dsimp only at hSw)
    go_simp
    all_goals (with_reducible rfl)
  · simp only [Act.put, List.setIfInBounds_toArray, List.set_cons_zero, List.set_cons_succ]
    rfl
  refine take_n 5 (some 33) #[true, true, true, true, true, true, false, false, false, false, false, false, false, false, false, false, false, false, false, false] (v := ?_) (a' := ?_) rfl rfl rfl (by kernel_rfl) (by kernel_rfl) (by kernel_rfl) (fun _ _ _ _ h => h) (Or.inl ⟨by rfl, ?_⟩) hHeld ?_ ?_
  rotate_left 2
  · intro w hSw
    (try dsimp only at hSw)
    go_simp
    all_goals (with_reducible rfl)
  · simp only [Act.put, List.setIfInBounds_toArray, List.set_cons_zero, List.set_cons_succ]
    rfl
  refine take_n 6 (some 34) #[true, true, true, true, true, true, true, false, false, false, false, false, false, false, false, false, false, false, false, false] (v := ?_) (a' := ?_) rfl rfl rfl (by kernel_rfl) (by kernel_rfl) (by kernel_rfl) (fun _ _ _ _ h => h) (Or.inl ⟨by rfl, ?_⟩) hHeld ?_ ?_
  rotate_left 2
  · intro w hSw
    (try dsimp only at hSw)
    go_simp
    all_goals (with_reducible rfl)
  · simp only [Act.put, List.setIfInBounds_toArray, List.set_cons_zero, List.set_cons_succ]
    rfl
  refine take_n 7 (some 35) #[true, true, true, true, true, true, true, true, false, false, false, false, false, false, false, false, false, false, false, false] (v := ?_) (a' := ?_) rfl rfl rfl (by kernel_rfl) (by kernel_rfl) (by kernel_rfl) (fun _ _ _ _ h => h) (Or.inl ⟨by rfl, ?_⟩) hHeld ?_ ?_
  rotate_left 2
  · intro w hSw
    (try dsimp only at hSw)
    go_simp
    all_goals (with_reducible rfl)
  · simp only [Act.put, List.setIfInBounds_toArray, List.set_cons_zero, List.set_cons_succ]
    rfl
  refine take_n 9 (some 37) #[true, true, true, true, true, true, true, true, false, true, false, false, false, false, false, false, false, false, false, false] (v := ?_) (a' := ?_) rfl rfl rfl (by kernel_rfl) (by kernel_rfl) (by kernel_rfl) (fun _ _ _ _ h => h) (Or.inl ⟨by rfl, ?_⟩) hHeld ?_ ?_
  rotate_left 2
  · intro w hSw
    (try dsimp only at hSw)
    go_simp
    all_goals (with_reducible rfl)
  · simp only [Act.put, List.setIfInBounds_toArray, List.set_cons_zero, List.set_cons_succ]
    rfl
  refine take_n 10 (some 38) #[true, true, true, true, true, true, true, true, false, true, true, false, false, false, false, false, false, false, false, false] (v := ?_) (a' := ?_) rfl rfl rfl (by kernel_rfl) (by kernel_rfl) (by kernel_rfl) (fun _ _ _ _ h => h) (Or.inl ⟨by rfl, ?_⟩) hHeld ?_ ?_
  rotate_left 2
  · intro w hSw
    (try dsimp only at hSw)
    go_simp
    all_goals (with_reducible rfl)
  · simp only [Act.put, List.setIfInBounds_toArray, List.set_cons_zero, List.set_cons_succ]
    rfl
  refine take_n 11 (some 39) #[true, true, true, true, true, true, true, true, false, true, true, true, false, false, false, false, false, false, false, false] (v := ?_) (a' := ?_) rfl rfl rfl (by kernel_rfl) (by kernel_rfl) (by kernel_rfl) (fun _ _ _ _ h => h) (Or.inl ⟨by rfl, ?_⟩) hHeld ?_ ?_
  rotate_left 2
  · intro w hSw
    (try dsimp only at hSw)
    go_simp
    all_goals (with_reducible rfl)
  · simp only [Act.put, List.setIfInBounds_toArray, List.set_cons_zero, List.set_cons_succ]
    rfl
  refine take_n 12 (some 40) #[true, true, true, true, true, true, true, true, false, true, true, true, true, false, false, false, false, false, false, false] (v := ?_) (a' := ?_) rfl rfl rfl (by kernel_rfl) (by kernel_rfl) (by kernel_rfl) (fun _ _ _ _ h => h) (Or.inl ⟨by rfl, ?_⟩) hHeld ?_ ?_
  rotate_left 2
  · intro w hSw
    (try dsimp only at hSw)
    go_simp
    all_goals (with_reducible rfl)
  · simp only [Act.put, List.setIfInBounds_toArray, List.set_cons_zero, List.set_cons_succ]
    rfl
  refine take_n 13 (some 41) #[true, true, true, true, true, true, true, true, false, true, true, true, true, true, false, false, false, false, false, false] (v := ?_) (a' := ?_) rfl rfl rfl (by kernel_rfl) (by kernel_rfl) (by kernel_rfl) (fun _ _ _ _ h => h) (Or.inl ⟨by rfl, ?_⟩) hHeld ?_ ?_
  rotate_left 2
  · intro w hSw
    (try dsimp only at hSw)
    go_simp
    all_goals (with_reducible rfl)
  · simp only [Act.put, List.setIfInBounds_toArray, List.set_cons_zero, List.set_cons_succ]
    rfl
  refine take_n 15 (some 43) #[true, true, true, true, true, true, true, true, false, true, true, true, true, true, false, true, false, false, false, false] (v := ?_) (a' := ?_) rfl rfl rfl (by kernel_rfl) (by kernel_rfl) (by kernel_rfl) (fun _ _ _ _ h => h) (Or.inl ⟨by rfl, ?_⟩) hHeld ?_ ?_
  rotate_left 2
  · intro w hSw
    (try dsimp only at hSw)
    go_simp
    all_goals (with_reducible rfl)
  · simp only [Act.put, List.setIfInBounds_toArray, List.set_cons_zero, List.set_cons_succ]
    rfl
  refine take_n 16 (some 44) #[true, true, true, true, true, true, true, true, false, true, true, true, true, true, false, true, true, false, false, false] (v := ?_) (a' := ?_) rfl rfl rfl (by kernel_rfl) (by kernel_rfl) (by kernel_rfl) (fun _ _ _ _ h => h) (Or.inl ⟨by rfl, ?_⟩) hHeld ?_ ?_
  rotate_left 2
  · intro w hSw
    (try dsimp only at hSw)
    go_simp
    all_goals (with_reducible rfl)
  · simp only [Act.put, List.setIfInBounds_toArray, List.set_cons_zero, List.set_cons_succ]
    rfl
  refine one_n 8 #[true, true, true, true, true, true, true, true, true, true, true, true, true, true, false, true, true, false, false, false] rfl rfl (by kernel_rfl) (fun K hK => ?_)
  go_simp
  refine (ways_calls _).mono ?_
  rintro e w3 ⟨rfl, hb3⟩
  have HB3 := Lib.hid (below_drew hb3)
  have hz3 : sb < w3.heap.size := Nat.lt_of_lt_of_le hz2 HB3.out.size
  clear hb3
  refine hK.out _ ?_ _ ?_ ?_ (fun hHeld => ?_)
  rotate_left
  · (try simp only [Act.put, List.setIfInBounds_toArray, List.set_cons_zero, List.set_cons_succ])
    rfl
  · (try dsimp only)
    exact ⟨(HB3.out.cell (p := ⟨sb, 0, none⟩) hz2).trans hHeld.1, (HB3.out.cell (p := ⟨sb, 2, none⟩) hz2).trans hHeld.2.1, (HB3.out.cell (p := ⟨sb, 14, none⟩) hz2).trans hHeld.2.2⟩
  clear hK K
  refine take_n 14 (some 42) #[true, true, true, true, true, true, true, true, true, true, true, true, true, true, true, true, true, false, false, false] (v := ?_) (a' := ?_) rfl rfl rfl (by kernel_rfl) (by kernel_rfl) (by kernel_rfl) (fun _ _ _ _ h => h) (Or.inl ⟨by rfl, ?_⟩) hHeld ?_ ?_
  rotate_left 2
  · intro w hSw
    (try dsimp only at hSw)
    go_simp
    all_goals (with_reducible rfl)
  · simp only [Act.put, List.setIfInBounds_toArray, List.set_cons_zero, List.set_cons_succ]
    rfl
  refine one_n 17 #[true, true, true, true, true, true, true, true, true, true, true, true, true, true, true, true, true, true, false, false] rfl rfl (by kernel_rfl) (fun K hK => ?_)
  go_simp
  refine (stage_all sb _ _).mono ?_
  rintro e w4 ⟨rfl, rfl⟩
  refine hK.out _ ?_ _ ?_ ?_ (fun hHeld => ?_)
  rotate_left
  · (try simp only [Act.put, List.setIfInBounds_toArray, List.set_cons_zero, List.set_cons_succ])
    rfl
  · (try dsimp only)
    go_keep
  clear hK K
  refine one_n 18 #[true, true, true, true, true, true, true, true, true, true, true, true, true, true, true, true, true, true, true, false] rfl rfl (by kernel_rfl) (fun K hK => ?_)
  go_simp
  refine (cargo_take0 cb _ (HH2.out.below HB3.out)).mono ?_
  rintro e w5 ⟨rfl, hb5⟩
  have HB5 := Lib.hid hb5
  clear hb5
  refine hK.out _ ?_ _ ?_ ?_ (fun hHeld => ?_)
  rotate_left
  · (try simp only [Act.put, List.setIfInBounds_toArray, List.set_cons_zero, List.set_cons_succ])
    rfl
  · (try dsimp only)
    exact ⟨(HB5.out.cell (p := ⟨sb, 0, none⟩) hz3).trans hHeld.1, (HB5.out.cell (p := ⟨sb, 2, none⟩) hz3).trans hHeld.2.1, (HB5.out.cell (p := ⟨sb, 14, none⟩) hz3).trans hHeld.2.2⟩
  clear hK K
  refine take_n 19 (some 8) #[true, true, true, true, true, true, true, true, true, true, true, true, true, true, true, true, true, true, true, true] (v := ?_) (a' := ?_) rfl rfl rfl (by kernel_rfl) (by kernel_rfl) (by kernel_rfl) (fun _ _ _ _ h => h) (Or.inl ⟨by rfl, ?_⟩) hHeld ?_ ?_
  rotate_left 2
  · intro w hSw
    (try dsimp only at hSw)
    go_simp
    all_goals (with_reducible rfl)
  · simp only [Act.put, List.setIfInBounds_toArray, List.set_cons_zero, List.set_cons_succ]
    rfl
  refine wpAnyH_done (by kernel_rfl) ?_ _
  have hs5 := (HS2.out.below HB3.out).below HB5.out
  have k16 := hs5.cells 16
  have k16f := blk_frozen hs5 16
  simp only [stageC, List.getElem?_toArray, List.getElem?_cons_zero, List.getElem?_cons_succ] at k16
  have hsid := setCell_id k16
  have HB15 := Lib.hid (below_step HB12.out (below_step HB3.out HB5.out))
  clear hs5
  go_wp2_with fail
  go_ret
  exact ⟨rfl, HB15.out⟩
set_option maxHeartbeats 16000000 in
set_option maxRecDepth 100000 in
theorem stage_take1 (sb cb : Nat) (m : Int) (hm : 1 ≤ m) (p : Int) (hp : 0 ≤ p) (hp2 : p ≤ 100) (w : World) (h : StageIn w sb cb p) (hh : Has B w cb 1) : Calls Tryz.prog 125 #[.pointer (some ⟨sb, 0, none⟩), .int .i64 0, .int .i64 m] w fun e w' => ∃ g c, e = .returned (.slice (some ⟨g, 0, none⟩) 1 c) ∧ w.heap.size ≤ g ∧ g < w'.heap.size ∧ ByteIn w' g 0 ∧ Has B w' cb 0 ∧ StageIn w' sb cb (p + 1) ∧ Fr (fun b => b = cb ∨ b = sb ∨ isP B w b) w w' := by
  have HN := Lib.hid (stage_state sb cb p w h)
  have HS := Lib.hid h
  have HH := Lib.hid hh
  have hix : ∀ W, (Instr.index 257 (.agg waysA) (.int .i64 0)).run Tryz.prog W = .ok (.func (.func 237) #[] #[]) W := fun W => by kernel_rfl
  have hm1 : decide (m < 1) = false := decide_eq_false (by omega)
  clear h hh
  go_enter Tryz.func125, Tryz.ntmps125
  go_wp2_with fail
  refine HN.out.mono ?_
  rintro e w1 ⟨rfl, hb1⟩
  have h1 := HS.out.below hb1
  have hz1 := blk_lt h1
  have c0 := h1.cells 0
  have c2 := h1.cells 2
  have c14 := h1.cells 14
  simp only [stageC, List.getElem?_toArray, List.getElem?_cons_zero, List.getElem?_cons_succ] at c0 c2 c14
  have HS1 := Lib.hid h1
  have HH1 := Lib.hid (HH.out.below hb1)
  have HB1 := Lib.hid hb1
  clear hb1 h1
  go_wp2_with fail
  refine start_n (S := fun W => W.cell? ⟨sb, 0, none⟩ = some (.pointer (some ⟨cb, 0, none⟩)) ∧ W.cell? ⟨sb, 14, none⟩ = some (.int .i64 0)) 12 #[false, false, false, false, false, false, false, false, false, false, false, false] (by kernel_rfl) rfl rfl ?_ (fun hHeld => ?_)
  · (try dsimp only)
    exact ⟨c0, c14⟩
  refine take_n 0 (some 17) #[true, false, false, false, false, false, false, false, false, false, false, false] (v := ?_) (a' := ?_) rfl rfl rfl (by kernel_rfl) (by kernel_rfl) (by kernel_rfl) (fun _ _ _ _ h => h) (Or.inl ⟨by rfl, ?_⟩) hHeld ?_ ?_
  rotate_left 2
  · intro w hSw
    (try dsimp only at hSw)
    go_simp
    all_goals (with_reducible rfl)
  · simp only [Act.put, List.setIfInBounds_toArray, List.set_cons_zero, List.set_cons_succ]
    rfl
  refine take_n 1 (some 18) #[true, true, false, false, false, false, false, false, false, false, false, false] (v := ?_) (a' := ?_) rfl rfl rfl (by kernel_rfl) (by kernel_rfl) (by kernel_rfl) (fun _ _ _ _ h => h) (Or.inl ⟨by rfl, ?_⟩) hHeld ?_ ?_
  rotate_left 2
  · intro w hSw
    (try dsimp only at hSw)
    go_simp
    all_goals (with_reducible rfl)
  · simp only [Act.put, List.setIfInBounds_toArray, List.set_cons_zero, List.set_cons_succ]
    rfl
  refine take_n 2 (some 19) #[true, true, true, false, false, false, false, false, false, false, false, false] (v := ?_) (a' := ?_) rfl rfl rfl (by kernel_rfl) (by kernel_rfl) (by kernel_rfl) (fun _ _ _ _ h => h) (Or.inl ⟨by rfl, ?_⟩) hHeld ?_ ?_
  rotate_left 2
  · intro w hSw
    (try dsimp only at hSw)
    go_simp
    all_goals (with_reducible rfl)
  · simp only [Act.put, List.setIfInBounds_toArray, List.set_cons_zero, List.set_cons_succ]
    rfl
  refine take_n 3 (some 20) #[true, true, true, true, false, false, false, false, false, false, false, false] (v := ?_) (a' := ?_) rfl rfl rfl (by kernel_rfl) (by kernel_rfl) (by kernel_rfl) (fun _ _ _ _ h => h) (Or.inl ⟨by rfl, ?_⟩) hHeld ?_ ?_
  rotate_left 2
  · intro w hSw
    (try dsimp only at hSw)
    go_simp
    all_goals (with_reducible rfl)
  · simp only [Act.put, List.setIfInBounds_toArray, List.set_cons_zero, List.set_cons_succ]
    rfl
  refine take_n 4 (some 21) #[true, true, true, true, true, false, false, false, false, false, false, false] (v := ?_) (a' := ?_) rfl rfl rfl (by kernel_rfl) (by kernel_rfl) (by kernel_rfl) (fun _ _ _ _ h => h) (Or.inl ⟨by rfl, ?_⟩) hHeld ?_ ?_
  rotate_left 2
  · intro w hSw
    (try dsimp only at hSw)
    go_simp
    all_goals (with_reducible rfl)
  · simp only [Act.put, List.setIfInBounds_toArray, List.set_cons_zero, List.set_cons_succ]
    rfl
  refine take_n 5 (some 22) #[true, true, true, true, true, true, false, false, false, false, false, false] (v := ?_) (a' := ?_) rfl rfl rfl (by kernel_rfl) (by kernel_rfl) (by kernel_rfl) (fun _ _ _ _ h => h) (Or.inl ⟨by rfl, ?_⟩) hHeld ?_ ?_
  rotate_left 2
  · intro w hSw
    (try dsimp only at hSw)
    go_simp
    all_goals (with_reducible rfl)
  · simp only [Act.put, List.setIfInBounds_toArray, List.set_cons_zero, List.set_cons_succ]
    rfl
  refine take_n 6 (some 23) #[true, true, true, true, true, true, true, false, false, false, false, false] (v := ?_) (a' := ?_) rfl rfl rfl (by kernel_rfl) (by kernel_rfl) (by kernel_rfl) (fun _ _ _ _ h => h) (Or.inl ⟨by rfl, ?_⟩) hHeld ?_ ?_
  rotate_left 2
  · intro w hSw
    (try dsimp only at hSw)
    go_simp
    all_goals (with_reducible rfl)
  · simp only [Act.put, List.setIfInBounds_toArray, List.set_cons_zero, List.set_cons_succ]
    rfl
  refine take_n 7 (some 24) #[true, true, true, true, true, true, true, true, false, false, false, false] (v := ?_) (a' := ?_) rfl rfl rfl (by kernel_rfl) (by kernel_rfl) (by kernel_rfl) (fun _ _ _ _ h => h) (Or.inl ⟨by rfl, ?_⟩) hHeld ?_ ?_
  rotate_left 2
  · intro w hSw
    (try dsimp only at hSw)
    go_simp
    all_goals (with_reducible rfl)
  · simp only [Act.put, List.setIfInBounds_toArray, List.set_cons_zero, List.set_cons_succ]
    rfl
  refine take_n 9 (some 26) #[true, true, true, true, true, true, true, true, false, true, false, false] (v := ?_) (a' := ?_) rfl rfl rfl (by kernel_rfl) (by kernel_rfl) (by kernel_rfl) (fun _ _ _ _ h => h) (Or.inl ⟨by rfl, ?_⟩) hHeld ?_ ?_
  rotate_left 2
  · intro w hSw
    (try dsimp only at hSw)
    go_simp
    all_goals (with_reducible rfl)
  · simp only [Act.put, List.setIfInBounds_toArray, List.set_cons_zero, List.set_cons_succ]
    rfl
  refine one_n 8 #[true, true, true, true, true, true, true, true, true, true, false, false] rfl rfl (by kernel_rfl) (fun K hK => ?_)
  go_simp
  refine (cargo_ready cb 1 _ HH1.out.drew).mono ?_
  rintro e w2 ⟨rfl, hb2⟩
  have HB2 := Lib.hid (below_drew hb2)
  clear hb2
  refine hK.out _ ?_ _ ?_ ?_ (fun hHeld => ?_)
  rotate_left
  · (try simp only [Act.put, List.setIfInBounds_toArray, List.set_cons_zero, List.set_cons_succ])
    rfl
  · (try dsimp only)
    exact ⟨(HB2.out.cell (p := ⟨sb, 0, none⟩) hz1).trans hHeld.1, (HB2.out.cell (p := ⟨sb, 14, none⟩) hz1).trans hHeld.2⟩
  clear hK K
  refine take_n 10 (some 27) #[true, true, true, true, true, true, true, true, true, true, true, false] (v := ?_) (a' := ?_) rfl rfl rfl (by kernel_rfl) (by kernel_rfl) (by kernel_rfl) (fun _ _ _ _ h => h) (Or.inl ⟨by rfl, ?_⟩) hHeld ?_ ?_
  rotate_left 2
  · intro w hSw
    (try dsimp only at hSw)
    go_simp
    (try rw [if_neg (by omega)])
    all_goals (with_reducible rfl)
  · simp only [Act.put, List.setIfInBounds_toArray, List.set_cons_zero, List.set_cons_succ]
    rfl
  refine take_n 11 (some 7) #[true, true, true, true, true, true, true, true, true, true, true, true] (v := ?_) (a' := ?_) rfl rfl rfl (by kernel_rfl) (by kernel_rfl) (by kernel_rfl) (fun _ _ _ _ h => h) (Or.inl ⟨by rfl, ?_⟩) hHeld ?_ ?_
  rotate_left 2
  · intro w hSw
    (try dsimp only at hSw)
    go_simp
    all_goals (with_reducible rfl)
  · simp only [Act.put, List.setIfInBounds_toArray, List.set_cons_zero, List.set_cons_succ]
    rfl
  refine wpAnyH_done (by kernel_rfl) ?_ _
  have hz2 : sb < w2.heap.size := Nat.lt_of_lt_of_le hz1 HB2.out.size
  have d0 := (HB2.out.cell (p := ⟨sb, 0, none⟩) hz1).trans c0
  have d2 := (HB2.out.cell (p := ⟨sb, 2, none⟩) hz1).trans c2
  have d14 := (HB2.out.cell (p := ⟨sb, 14, none⟩) hz1).trans c14
  have HH2 := Lib.hid (HH1.out.below HB2.out)
  have HS2 := Lib.hid (HS1.out.below HB2.out)
  have HB12 := Lib.hid (below_step HB1.out HB2.out)
  go_wp2_with fail
  refine start_n (S := fun W => W.cell? ⟨sb, 0, none⟩ = some (.pointer (some ⟨cb, 0, none⟩)) ∧ W.cell? ⟨sb, 2, none⟩ = some (.int .i64 0) ∧ W.cell? ⟨sb, 14, none⟩ = some (.int .i64 0)) 20 #[false, false, false, false, false, false, false, false, false, false, false, false, false, false, false, false, false, false, false, false] (by kernel_rfl) rfl rfl ?_ (fun hHeld => ?_)
  · (try dsimp only)
    exact ⟨d0, d2, d14⟩
  refine take_n 0 (some 28) #[true, false, false, false, false, false, false, false, false, false, false, false, false, false, false, false, false, false, false, false] (v := ?_) (a' := ?_) rfl rfl rfl (by kernel_rfl) (by kernel_rfl) (by kernel_rfl) (fun _ _ _ _ h => h) (Or.inl ⟨by rfl, ?_⟩) hHeld ?_ ?_
  rotate_left 2
  · intro w hSw
    (try dsimp only at hSw)
    go_simp
    all_goals (with_reducible rfl)
  · simp only [Act.put, List.setIfInBounds_toArray, List.set_cons_zero, List.set_cons_succ]
    rfl
  refine take_n 1 (some 29) #[true, true, false, false, false, false, false, false, false, false, false, false, false, false, false, false, false, false, false, false] (v := ?_) (a' := ?_) rfl rfl rfl (by kernel_rfl) (by kernel_rfl) (by kernel_rfl) (fun _ _ _ _ h => h) (Or.inl ⟨by rfl, ?_⟩) hHeld ?_ ?_
  rotate_left 2
  · intro w hSw
    (try dsimp only at hSw)
    go_simp
    all_goals (with_reducible rfl)
  · simp only [Act.put, List.setIfInBounds_toArray, List.set_cons_zero, List.set_cons_succ]
    rfl
  refine take_n 2 (some 30) #[true, true, true, false, false, false, false, false, false, false, false, false, false, false, false, false, false, false, false, false] (v := ?_) (a' := ?_) rfl rfl rfl (by kernel_rfl) (by kernel_rfl) (by kernel_rfl) (fun _ _ _ _ h => h) (Or.inl ⟨by rfl, ?_⟩) hHeld ?_ ?_
  rotate_left 2
  · intro w hSw
    (try dsimp only at hSw)
    go_simp
    all_goals (with_reducible rfl)
  · simp only [Act.put, List.setIfInBounds_toArray, List.set_cons_zero, List.set_cons_succ]
    rfl
  refine take_n 3 (some 31) #[true, true, true, true, false, false, false, false, false, false, false, false, false, false, false, false, false, false, false, false] (v := ?_) (a' := ?_) rfl rfl rfl (by kernel_rfl) (by kernel_rfl) (by kernel_rfl) (fun _ _ _ _ h => h) (Or.inl ⟨by rfl, ?_⟩) hHeld ?_ ?_
  rotate_left 2
  · intro w hSw
    (try dsimp only at hSw)
    go_simp
    all_goals (with_reducible rfl)
  · simp only [Act.put, List.setIfInBounds_toArray, List.set_cons_zero, List.set_cons_succ]
    rfl
  refine take_n 4 (some 32) #[true, true, true, true, true, false, false, false, false, false, false, false, false, false, false, false, false, false, false, false] (v := ?_) (a' := ?_) rfl rfl rfl (by kernel_rfl) (by kernel_rfl) (by kernel_rfl) (fun _ _ _ _ h => h) (Or.inl ⟨by rfl, ?_⟩) hHeld ?_ ?_
  rotate_left 2
  · intro w hSw
    (try dsimp only at hSw)
    go_simp
    all_goals (with_reducible rfl)
  · simp only [Act.put, List.setIfInBounds_toArray, List.set_cons_zero, List.set_cons_succ]
    rfl
  refine take_n 5 (some 33) #[true, true, true, true, true, true, false, false, false, false, false, false, false, false, false, false, false, false, false, false] (v := ?_) (a' := ?_) rfl rfl rfl (by kernel_rfl) (by kernel_rfl) (by kernel_rfl) (fun _ _ _ _ h => h) (Or.inl ⟨by rfl, ?_⟩) hHeld ?_ ?_
  rotate_left 2
  · intro w hSw
    (try dsimp only at hSw)
    go_simp
    all_goals (with_reducible rfl)
  · simp only [Act.put, List.setIfInBounds_toArray, List.set_cons_zero, List.set_cons_succ]
    rfl
  refine take_n 6 (some 34) #[true, true, true, true, true, true, true, false, false, false, false, false, false, false, false, false, false, false, false, false] (v := ?_) (a' := ?_) rfl rfl rfl (by kernel_rfl) (by kernel_rfl) (by kernel_rfl) (fun _ _ _ _ h => h) (Or.inl ⟨by rfl, ?_⟩) hHeld ?_ ?_
  rotate_left 2
  · intro w hSw
    (try dsimp only at hSw)
    go_simp
    all_goals (with_reducible rfl)
  · simp only [Act.put, List.setIfInBounds_toArray, List.set_cons_zero, List.set_cons_succ]
    rfl
  refine take_n 7 (some 35) #[true, true, true, true, true, true, true, true, false, false, false, false, false, false, false, false, false, false, false, false] (v := ?_) (a' := ?_) rfl rfl rfl (by kernel_rfl) (by kernel_rfl) (by kernel_rfl) (fun _ _ _ _ h => h) (Or.inl ⟨by rfl, ?_⟩) hHeld ?_ ?_
  rotate_left 2
  · intro w hSw
    (try dsimp only at hSw)
    go_simp
    all_goals (with_reducible rfl)
  · simp only [Act.put, List.setIfInBounds_toArray, List.set_cons_zero, List.set_cons_succ]
    rfl
  refine take_n 9 (some 37) #[true, true, true, true, true, true, true, true, false, true, false, false, false, false, false, false, false, false, false, false] (v := ?_) (a' := ?_) rfl rfl rfl (by kernel_rfl) (by kernel_rfl) (by kernel_rfl) (fun _ _ _ _ h => h) (Or.inl ⟨by rfl, ?_⟩) hHeld ?_ ?_
  rotate_left 2
  · intro w hSw
    (try dsimp only at hSw)
    go_simp
    all_goals (with_reducible rfl)
  · simp only [Act.put, List.setIfInBounds_toArray, List.set_cons_zero, List.set_cons_succ]
    rfl
  refine take_n 10 (some 38) #[true, true, true, true, true, true, true, true, false, true, true, false, false, false, false, false, false, false, false, false] (v := ?_) (a' := ?_) rfl rfl rfl (by kernel_rfl) (by kernel_rfl) (by kernel_rfl) (fun _ _ _ _ h => h) (Or.inl ⟨by rfl, ?_⟩) hHeld ?_ ?_
  rotate_left 2
  · intro w hSw
    (try dsimp only at hSw)
    go_simp
    all_goals (with_reducible rfl)
  · simp only [Act.put, List.setIfInBounds_toArray, List.set_cons_zero, List.set_cons_succ]
    rfl
  refine take_n 11 (some 39) #[true, true, true, true, true, true, true, true, false, true, true, true, false, false, false, false, false, false, false, false] (v := ?_) (a' := ?_) rfl rfl rfl (by kernel_rfl) (by kernel_rfl) (by kernel_rfl) (fun _ _ _ _ h => h) (Or.inl ⟨by rfl, ?_⟩) hHeld ?_ ?_
  rotate_left 2
  · intro w hSw
    (try dsimp only at hSw)
    go_simp
    all_goals (with_reducible rfl)
  · simp only [Act.put, List.setIfInBounds_toArray, List.set_cons_zero, List.set_cons_succ]
    rfl
  refine take_n 12 (some 40) #[true, true, true, true, true, true, true, true, false, true, true, true, true, false, false, false, false, false, false, false] (v := ?_) (a' := ?_) rfl rfl rfl (by kernel_rfl) (by kernel_rfl) (by kernel_rfl) (fun _ _ _ _ h => h) (Or.inl ⟨by rfl, ?_⟩) hHeld ?_ ?_
  rotate_left 2
  · intro w hSw
    (try dsimp only at hSw)
    go_simp
    all_goals (with_reducible rfl)
  · simp only [Act.put, List.setIfInBounds_toArray, List.set_cons_zero, List.set_cons_succ]
    rfl
  refine take_n 13 (some 41) #[true, true, true, true, true, true, true, true, false, true, true, true, true, true, false, false, false, false, false, false] (v := ?_) (a' := ?_) rfl rfl rfl (by kernel_rfl) (by kernel_rfl) (by kernel_rfl) (fun _ _ _ _ h => h) (Or.inl ⟨by rfl, ?_⟩) hHeld ?_ ?_
  rotate_left 2
  · intro w hSw
    (try dsimp only at hSw)
    go_simp
    all_goals (with_reducible rfl)
  · simp only [Act.put, List.setIfInBounds_toArray, List.set_cons_zero, List.set_cons_succ]
    rfl
  refine take_n 15 (some 43) #[true, true, true, true, true, true, true, true, false, true, true, true, true, true, false, true, false, false, false, false] (v := ?_) (a' := ?_) rfl rfl rfl (by kernel_rfl) (by kernel_rfl) (by kernel_rfl) (fun _ _ _ _ h => h) (Or.inl ⟨by rfl, ?_⟩) hHeld ?_ ?_
  rotate_left 2
  · intro w hSw
    (try dsimp only at hSw)
    go_simp
    all_goals (with_reducible rfl)
  · simp only [Act.put, List.setIfInBounds_toArray, List.set_cons_zero, List.set_cons_succ]
    rfl
  refine take_n 16 (some 44) #[true, true, true, true, true, true, true, true, false, true, true, true, true, true, false, true, true, false, false, false] (v := ?_) (a' := ?_) rfl rfl rfl (by kernel_rfl) (by kernel_rfl) (by kernel_rfl) (fun _ _ _ _ h => h) (Or.inl ⟨by rfl, ?_⟩) hHeld ?_ ?_
  rotate_left 2
  · intro w hSw
    (try dsimp only at hSw)
    go_simp
    all_goals (with_reducible rfl)
  · simp only [Act.put, List.setIfInBounds_toArray, List.set_cons_zero, List.set_cons_succ]
    rfl
  refine one_n 8 #[true, true, true, true, true, true, true, true, true, true, true, true, true, true, false, true, true, false, false, false] rfl rfl (by kernel_rfl) (fun K hK => ?_)
  go_simp
  refine (ways_calls _).mono ?_
  rintro e w3 ⟨rfl, hb3⟩
  have HB3 := Lib.hid (below_drew hb3)
  have hz3 : sb < w3.heap.size := Nat.lt_of_lt_of_le hz2 HB3.out.size
  clear hb3
  refine hK.out _ ?_ _ ?_ ?_ (fun hHeld => ?_)
  rotate_left
  · (try simp only [Act.put, List.setIfInBounds_toArray, List.set_cons_zero, List.set_cons_succ])
    rfl
  · (try dsimp only)
    exact ⟨(HB3.out.cell (p := ⟨sb, 0, none⟩) hz2).trans hHeld.1, (HB3.out.cell (p := ⟨sb, 2, none⟩) hz2).trans hHeld.2.1, (HB3.out.cell (p := ⟨sb, 14, none⟩) hz2).trans hHeld.2.2⟩
  clear hK K
  refine take_n 14 (some 42) #[true, true, true, true, true, true, true, true, true, true, true, true, true, true, true, true, true, false, false, false] (v := ?_) (a' := ?_) rfl rfl rfl (by kernel_rfl) (by kernel_rfl) (by kernel_rfl) (fun _ _ _ _ h => h) (Or.inl ⟨by rfl, ?_⟩) hHeld ?_ ?_
  rotate_left 2
  · intro w hSw
    (try dsimp only at hSw)
    go_simp
    all_goals (with_reducible rfl)
  · simp only [Act.put, List.setIfInBounds_toArray, List.set_cons_zero, List.set_cons_succ]
    rfl
  refine one_n 17 #[true, true, true, true, true, true, true, true, true, true, true, true, true, true, true, true, true, true, false, false] rfl rfl (by kernel_rfl) (fun K hK => ?_)
  go_simp
  refine (stage_all sb _ _).mono ?_
  rintro e w4 ⟨rfl, rfl⟩
  refine hK.out _ ?_ _ ?_ ?_ (fun hHeld => ?_)
  rotate_left
  · (try simp only [Act.put, List.setIfInBounds_toArray, List.set_cons_zero, List.set_cons_succ])
    rfl
  · (try dsimp only)
    go_keep
  clear hK K
  refine one_n 18 #[true, true, true, true, true, true, true, true, true, true, true, true, true, true, true, true, true, true, true, false] rfl rfl (by kernel_rfl) (fun K hK => ?_)
  go_simp
  refine (cargo_take1 cb _ (HH2.out.below HB3.out)).mono ?_
  rintro e w5 ⟨g5, c5, rfl, hB5, hl5, hby5, hh5, hf5⟩
  have H5 := Lib.hid (And.intro hB5 (And.intro hl5 (And.intro hby5 (And.intro hh5 hf5))))
  have hsb5 : ¬ (sb = cb ∨ isP B w3 sb) := stage_not (HS2.out.below HB3.out) (HH2.out.below HB3.out)
  clear hB5 hl5 hby5 hh5 hf5
  refine hK.out _ ?_ _ ?_ ?_ (fun hHeld => ?_)
  rotate_left
  · (try simp only [Act.put, List.setIfInBounds_toArray, List.set_cons_zero, List.set_cons_succ])
    rfl
  · (try dsimp only)
    exact ⟨(World.cell?_of_block (H5.out.2.2.2.2.block (⟨sb, 0, none⟩ : Addr).block hz3 hsb5)).trans hHeld.1, (World.cell?_of_block (H5.out.2.2.2.2.block (⟨sb, 2, none⟩ : Addr).block hz3 hsb5)).trans hHeld.2.1, (World.cell?_of_block (H5.out.2.2.2.2.block (⟨sb, 14, none⟩ : Addr).block hz3 hsb5)).trans hHeld.2.2⟩
  clear hK K
  refine take_n 19 (some 8) #[true, true, true, true, true, true, true, true, true, true, true, true, true, true, true, true, true, true, true, true] (v := ?_) (a' := ?_) rfl rfl rfl (by kernel_rfl) (by kernel_rfl) (by kernel_rfl) (fun _ _ _ _ h => h) (Or.inl ⟨by rfl, ?_⟩) hHeld ?_ ?_
  rotate_left 2
  · intro w hSw
    (try dsimp only at hSw)
    go_simp
    all_goals (with_reducible rfl)
  · simp only [Act.put, List.setIfInBounds_toArray, List.set_cons_zero, List.set_cons_succ]
    rfl
  refine wpAnyH_done (by kernel_rfl) ?_ _
  have hs3 := HS2.out.below HB3.out
  have hs5 : StageIn w5 sb cb p := (H5.out.2.2.2.2.block sb hz3 hsb5).trans hs3
  have k16 := hs5.cells 16
  have k16f := blk_frozen hs5 16
  simp only [stageC, List.getElem?_toArray, List.getElem?_cons_zero, List.getElem?_cons_succ] at k16
  have hb13 := below_step HB12.out HB3.out
  have hne : g5 ≠ sb := by have := H5.out.1; omega
  have hnc : cb ≠ sb := fun e => hsb5 (.inl e.symm)
  have hres : w.heap.size ≤ g5 ∧ g5 < (w5.setCell ⟨sb, 16, none⟩ (.int .i64 (p + 1))).heap.size ∧ ByteIn (w5.setCell ⟨sb, 16, none⟩ (.int .i64 (p + 1))) g5 0 ∧ Has B (w5.setCell ⟨sb, 16, none⟩ (.int .i64 (p + 1))) cb 0 ∧ StageIn (w5.setCell ⟨sb, 16, none⟩ (.int .i64 (p + 1))) sb cb (p + 1) ∧ Fr (fun b => b = cb ∨ b = sb ∨ isP B w b) w (w5.setCell ⟨sb, 16, none⟩ (.int .i64 (p + 1))) := by
    refine ⟨Nat.le_trans hb13.size H5.out.1, by rw [set_size]; exact H5.out.2.1, ?_, ?_, blk_set hs5 16 _, ?_⟩
    · exact (World.cell?_setCell_other _ _ _ _ (by intro e; injection e; omega)).trans H5.out.2.2.1
    · rcases H5.out.2.2.2.1 with ⟨a, c, h1⟩
      exact .none a c ((heap_setCell_ne _ _ _ _ (by show cb ≠ sb; exact hnc)).trans h1)
    · refine Fr.set ?_ (p := ⟨sb, 16, none⟩) (.inl (.inr (.inl rfl))) _
      refine Fr.trans (Fr.of_below (X := fun _ => False) hb13) H5.out.2.2.2.2 (fun _ e => e.elim) ?_
      rintro i hi (rfl | ⟨hBi, cur, hc⟩)
      · exact .inl rfl
      · exact .inr (.inr ⟨hBi, cur, (hb13.block i hi).symm.trans hc⟩)
  have HRES := Lib.hid hres
  clear hres hs5 hs3 hb13
  go_wp2_with fail
  go_ret
  exact ⟨g5, c5, rfl, HRES.out⟩
end Go.Proofs.YtdpfmemcpipbkaaGreatDoor.Hand
end
section
/- A chain without toxics. -/
namespace Go.Proofs.YtdpfmemcpipbkaaGreatDoor.Hand
open Go.RowKit
variable {B : Nat}
set_option linter.unusedVariables false
set_option linter.unusedSimpArgs false
/-- A block of cells. -/
def Blk (w : World) (b : Nat) (cs : Array Value) (t : TypeId) : Prop := w.heap[b]? = some (.cells cs t (0, 0))
theorem Blk.ne {w : World} {b b' : Nat} {cs cs' : Array Value} {t t' : TypeId} (h : Blk w b cs t) (h' : Blk w b' cs' t') (hn : t ≠ t') : b ≠ b' := by
  rintro rfl
  unfold Blk at h h'
  rw [h] at h'
  injection h' with h1
  injection h1 with _ h2
  exact hn h2
/-- Where all blocks of cells lie as they lay. -/
def AsLay (w w' : World) : Prop := ∀ b cs t, Blk w b cs t → Blk w' b cs t
theorem AsLay.of_below {w w' : World} (h : Below w.heap.size w w') : AsLay w w' := fun b cs t hb => (h.block b (blk_lt hb)).trans hb
theorem AsLay.of_grown {w w' : World} {row : Option Nat} (hg : w.grownBy w' row) (hr : ∀ r, row = some r → ∃ o : Obj, w.heap[r]? = some o ∧ o.isCells = false) : AsLay w w' := by
  intro b cs t hb
  refine (hg.block b (blk_lt hb) ?_).trans hb
  intro e
  obtain ⟨o, ho, hc⟩ := hr b e.symm
  unfold Blk at hb
  rw [hb] at ho
  injection ho with h1
  subst h1
  exact absurd hc (by simp [Obj.isCells])
theorem AsLay.trans {a b c : World} (h : AsLay a b) (k : AsLay b c) : AsLay a c := fun x cs t hx => k x cs t (h x cs t hx)
theorem Has.lay {w w' : World} {cb k : Nat} (h : Has B w cb k) (hb : AsLay w w') : Has B w' cb k := by
  rcases h with ⟨a, c, h⟩ | ⟨g, c, h, ⟨cur, hp, p01⟩, hc1, hBg⟩
  · exact .none a c (hb _ _ _ h)
  · exact .one g c (hb _ _ _ h) ⟨cur, hb _ _ _ hp, p01⟩ hc1 hBg
theorem Has.cargo {w : World} {cb k : Nat} (h : Has B w cb k) : ∃ u, CargoIn w cb u := by
  rcases h with ⟨a, c, h⟩ | ⟨g, c, h, _, _, _⟩ <;> exact ⟨_, h⟩
/-- The blocks of a chain of two parts: the chain, its parts' row, both parts, stages, cargoes. -/
structure CI where
  (h la p0 p1 s0 s1 c0 c1 B : Nat)
structure CI.Ge (i : CI) (B : Nat) : Prop where
  b : B ≤ i.B
  h : B ≤ i.h
  la : B ≤ i.la
  p0 : B ≤ i.p0
  p1 : B ≤ i.p1
  s0 : B ≤ i.s0
  s1 : B ≤ i.s1
  c0 : B ≤ i.c0
  c1 : B ≤ i.c1
structure ChainAt (w : World) (i : CI) (q0 q1 : Int) (k0 k1 : Nat) : Prop where
  chain : Blk w i.h #[.slice (some ⟨i.la, 0, none⟩) 2 2, .int .i64 5, .int .i64 0, .bool false, .int .i64 0] 181
  list : Blk w i.la #[.pointer (some ⟨i.p0, 0, none⟩), .pointer (some ⟨i.p1, 0, none⟩)] 176
  part0 : Blk w i.p0 #[.pointer (some ⟨i.s0, 0, none⟩), .bool false] 178
  part1 : Blk w i.p1 #[.pointer (some ⟨i.s1, 0, none⟩), .bool false] 178
  st0 : StageIn w i.s0 i.c0 q0
  st1 : StageIn w i.s1 i.c1 q1
  has0 : Has i.B w i.c0 k0
  has1 : Has i.B w i.c1 k1
  nes : i.s0 ≠ i.s1
  nec : i.c0 ≠ i.c1
  hb : i.B ≤ i.h
theorem ChainAt.lay {w w' : World} {i : CI} {q0 q1 : Int} {k0 k1 : Nat} (h : ChainAt w i q0 q1 k0 k1) (hb : AsLay w w') : ChainAt w' i q0 q1 k0 k1 :=
  ⟨hb _ _ _ h.chain, hb _ _ _ h.list, hb _ _ _ h.part0, hb _ _ _ h.part1, hb _ _ _ h.st0, hb _ _ _ h.st1, h.has0.lay hb, h.has1.lay hb, h.nes, h.nec, h.hb⟩
theorem CargoIn.lay {w w' : World} {cb : Nat} {u : Value} (h : CargoIn w cb u) (hb : AsLay w w') : CargoIn w' cb u := hb _ _ _ h
set_option maxHeartbeats 8000000 in
set_option maxRecDepth 100000 in
theorem chain_new (w : World) : Calls Tryz.prog 64 #[.int .i64 5, .int .i64 0] w fun e w' => ∃ i : CI, e = .returned (.tuple #[.pointer (some ⟨i.h, 0, none⟩), .int .i64 0]) ∧ i.Ge w.heap.size ∧ ChainAt w' i 0 0 0 0 ∧ CargoIn w' i.c0 (.slice none 0 0) ∧ CargoIn w' i.c1 (.slice none 0 0) ∧ Below w.heap.size w w' := by
  have HN := fun W => Lib.hid (stage_new W)
  unfold tox0 at HN
  go_enter Tryz.func64, Tryz.ntmps64
  go_wp2_with fail
  refine (HN _).out.mono ?_
  rintro e w1 ⟨s0, c0, rfl, g1, g2, l1, l2, st0, cg0, hb1⟩
  have H1 := Lib.hid (And.intro g1 (And.intro g2 (And.intro l1 (And.intro l2 (And.intro st0 (And.intro cg0 hb1))))))
  clear g1 g2 l1 l2 st0 cg0 hb1
  go_wp2_with fail
  refine (HN _).out.mono ?_
  rintro e w2 ⟨s1, c1, rfl, g1, g2, l1, l2, st1, cg1, hb2⟩
  have H2 := Lib.hid (And.intro g1 (And.intro g2 (And.intro l1 (And.intro l2 (And.intro st1 (And.intro cg1 hb2))))))
  clear g1 g2 l1 l2 st1 cg1 hb2
  go_wp2_with fail
  refine bodyPost_ret (results_tmp2 rfl _ _ _) rfl ?_
  obtain ⟨a1, a2, a3, a4, a5, a6, a7⟩ := H1.out
  obtain ⟨b1, b2, b3, b4, b5, b6, b7⟩ := H2.out
  have sz1 := a7.size
  have sz2 := b7.size
  have e0 := heap_alloc_new w2 (.cells #[.pointer (some ⟨s0, 0, none⟩), .bool false] 178)
  have e1 := heap_alloc_new (w2.alloc (.cells #[.pointer (some ⟨s0, 0, none⟩), .bool false] 178)) (.cells #[.pointer (some ⟨s1, 0, none⟩), .bool false] 178)
  have e2 := heap_alloc_new ((w2.alloc (.cells #[.pointer (some ⟨s0, 0, none⟩), .bool false] 178)).alloc (.cells #[.pointer (some ⟨s1, 0, none⟩), .bool false] 178)) (.cells #[.pointer (some ⟨w2.heap.size, 0, none⟩), .pointer (some ⟨w2.heap.size + 1, 0, none⟩)] 176)
  have e3 := heap_alloc_new (((w2.alloc (.cells #[.pointer (some ⟨s0, 0, none⟩), .bool false] 178)).alloc (.cells #[.pointer (some ⟨s1, 0, none⟩), .bool false] 178)).alloc (.cells #[.pointer (some ⟨w2.heap.size, 0, none⟩), .pointer (some ⟨w2.heap.size + 1, 0, none⟩)] 176)) (.cells #[.slice (some ⟨w2.heap.size + 1 + 1, 0, none⟩) 2 2, .int .i64 5, .int .i64 0, .bool false, .int .i64 0] 181)
  simp only [World.size_alloc] at e0 e1 e2 e3
  have hal : Below w2.heap.size w2 ((((w2.alloc (.cells #[.pointer (some ⟨s0, 0, none⟩), .bool false] 178)).alloc (.cells #[.pointer (some ⟨s1, 0, none⟩), .bool false] 178)).alloc (.cells #[.pointer (some ⟨w2.heap.size, 0, none⟩), .pointer (some ⟨w2.heap.size + 1, 0, none⟩)] 176)).alloc (.cells #[.slice (some ⟨w2.heap.size + 1 + 1, 0, none⟩) 2 2, .int .i64 5, .int .i64 0, .bool false, .int .i64 0] 181)) := below_alloc (below_alloc (below_alloc (below_alloc (Below.refl _ w2) _ (Nat.le_refl _)) _ (Nat.le_refl _)) _ (Nat.le_refl _)) _ (Nat.le_refl _)
  have l12 := AsLay.of_below b7
  have l25 := AsLay.of_below hal
  refine ⟨⟨w2.heap.size + 1 + 1 + 1, w2.heap.size + 1 + 1, w2.heap.size, w2.heap.size + 1, s0, s1, c0, c1, w.heap.size⟩, rfl, ⟨Nat.le_refl _, by show _ ≤ _ + 1 + 1 + 1; omega, by show _ ≤ _ + 1 + 1; omega, by show _ ≤ w2.heap.size; omega, by show _ ≤ _ + 1; omega, a1, by show _ ≤ s1; omega, a2, by show _ ≤ c1; omega⟩, ⟨e3, heap_old _ e2, heap_old _ (heap_old _ (heap_old _ e0)), heap_old _ (heap_old _ e1), l25 _ _ _ (l12 _ _ _ a5), l25 _ _ _ b5, .none _ _ (l25 _ _ _ (l12 _ _ _ a6)), .none _ _ (l25 _ _ _ b6), by show s0 ≠ s1; omega, by show c0 ≠ c1; omega, by show w.heap.size ≤ w2.heap.size + 1 + 1 + 1; omega⟩, l25 _ _ _ (l12 _ _ _ a6), l25 _ _ _ b6, below_step (below_step a7 b7) hal⟩
def OfStage (w : World) (b : Nat) : Prop := ∃ cs t, Blk w b cs t ∧ (t = 287 ∨ t = 244 ∨ t = 296)
theorem Blk.fr {X : Nat → Prop} {w w' : World} {b : Nat} {cs : Array Value} {t : TypeId} (h : Blk w b cs t) (hf : Fr X w w') (hx : ¬ X b) : Blk w' b cs t := (hf.block b (blk_lt h) hx).trans h
theorem OfStage.not {w : World} {b : Nat} {cs : Array Value} {t : TypeId} (h : Blk w b cs t) (h1 : t ≠ 287) (h2 : t ≠ 244) (h3 : t ≠ 296) : ¬ OfStage w b := by
  rintro ⟨cs', t', h', ht⟩
  rcases ht with rfl | rfl | rfl
  · exact h.ne h' h1 rfl
  · exact h.ne h' h2 rfl
  · exact h.ne h' h3 rfl
theorem ChainAt.turn {X : Nat → Prop} {w w' : World} {i : CI} {q0 q1 r0 r1 : Int} {k0 k1 m0 m1 : Nat} (h : ChainAt w i q0 q1 k0 k1) (hf : Fr X w w') (hX : ∀ b, X b → OfStage w b) (t0 : StageIn w' i.s0 i.c0 r0) (t1 : StageIn w' i.s1 i.c1 r1) (a0 : Has i.B w' i.c0 m0) (a1 : Has i.B w' i.c1 m1) : ChainAt w' i r0 r1 m0 m1 :=
  ⟨h.chain.fr hf (fun e => OfStage.not h.chain (by decide) (by decide) (by decide) (hX _ e)), h.list.fr hf (fun e => OfStage.not h.list (by decide) (by decide) (by decide) (hX _ e)), h.part0.fr hf (fun e => OfStage.not h.part0 (by decide) (by decide) (by decide) (hX _ e)), h.part1.fr hf (fun e => OfStage.not h.part1 (by decide) (by decide) (by decide) (hX _ e)), t0, t1, a0, a1, h.nes, h.nec, h.hb⟩
theorem StageIn.ne_cargo {w : World} {sb cb cb' : Nat} {p : Int} {u : Value} (h : StageIn w sb cb p) (h' : CargoIn w cb' u) : sb ≠ cb' := Blk.ne (w := w) h h' (by decide)
theorem Has.fr0 {X : Nat → Prop} {w w' : World} {cb : Nat} (h : Has B w cb 0) (hf : Fr X w w') (hx : ¬ X cb) : Has B w' cb 0 := by
  rcases h with ⟨a, c, h⟩
  exact .none a c (Blk.fr h hf hx)
/-- A byte came into the first cargo. -/
theorem ChainAt.put0 {w w' : World} {i : CI} {q0 q1 : Int} {k0 k : Nat} (h : ChainAt w i q0 q1 k0 0) (hf : Fr (fun b => b = i.c0) w w') (hh : Has i.B w' i.c0 k) : ChainAt w' i q0 q1 k 0 := by
  obtain ⟨u, hu⟩ := h.has0.cargo
  exact h.turn hf (fun b e => ⟨_, _, e ▸ hu, .inl rfl⟩) (Blk.fr h.st0 hf (h.st0.ne_cargo hu)) (Blk.fr h.st1 hf (h.st1.ne_cargo hu)) hh (h.has1.fr0 hf (fun e => h.nec e.symm))
/-- .. into the second one. -/
theorem ChainAt.put1 {w w' : World} {i : CI} {q0 q1 : Int} {k1 k : Nat} (h : ChainAt w i q0 q1 0 k1) (hf : Fr (fun b => b = i.c1) w w') (hh : Has i.B w' i.c1 k) : ChainAt w' i q0 q1 0 k := by
  obtain ⟨u, hu⟩ := h.has1.cargo
  exact h.turn hf (fun b e => ⟨_, _, e ▸ hu, .inl rfl⟩) (Blk.fr h.st0 hf (h.st0.ne_cargo hu)) (Blk.fr h.st1 hf (h.st1.ne_cargo hu)) (h.has0.fr0 hf h.nec) hh
theorem isP.ofStage {w : World} {b : Nat} (h : isP B w b) : OfStage w b := by
  obtain ⟨_, cur, h⟩ := h
  exact ⟨_, _, h, .inr (.inr rfl)⟩
theorem isP.not {w : World} {b : Nat} {cs : Array Value} {t : TypeId} (h : Blk w b cs t) (h1 : t ≠ 296) : ¬ isP B w b := by
  rintro ⟨_, cur, h'⟩
  exact Blk.ne h h' h1 rfl
/-- The byte went out of the first stage. -/
theorem ChainAt.take0 {w w' : World} {i : CI} {q0 q1 r : Int} {k0 : Nat} (h : ChainAt w i q0 q1 k0 0) (hf : Fr (fun b => b = i.c0 ∨ b = i.s0 ∨ isP i.B w b) w w') (hh : Has i.B w' i.c0 0) (hs : StageIn w' i.s0 i.c0 r) : ChainAt w' i r q1 0 0 := by
  obtain ⟨u, hu⟩ := h.has0.cargo
  obtain ⟨u1, hu1⟩ := h.has1.cargo
  refine h.turn hf ?_ hs (Blk.fr h.st1 hf ?_) hh (h.has1.fr0 hf ?_)
  · rintro b (rfl | rfl | hp)
    · exact ⟨_, _, hu, .inl rfl⟩
    · exact ⟨_, _, h.st0, .inr (.inl rfl)⟩
    · exact hp.ofStage
  · rintro (e | e | hp)
    · exact h.st1.ne_cargo hu e
    · exact h.nes e.symm
    · exact isP.not h.st1 (by decide) hp
  · rintro (e | e | hp)
    · exact h.nec e.symm
    · exact h.st0.ne_cargo hu1 e.symm
    · exact isP.not hu1 (by decide) hp
/-- .. out of the second one. -/
theorem ChainAt.take1 {w w' : World} {i : CI} {q0 q1 r : Int} {k1 : Nat} (h : ChainAt w i q0 q1 0 k1) (hf : Fr (fun b => b = i.c1 ∨ b = i.s1 ∨ isP i.B w b) w w') (hh : Has i.B w' i.c1 0) (hs : StageIn w' i.s1 i.c1 r) : ChainAt w' i q0 r 0 0 := by
  obtain ⟨u, hu⟩ := h.has1.cargo
  obtain ⟨u0, hu0⟩ := h.has0.cargo
  refine h.turn hf ?_ (Blk.fr h.st0 hf ?_) hs (h.has0.fr0 hf ?_) hh
  · rintro b (rfl | rfl | hp)
    · exact ⟨_, _, hu, .inl rfl⟩
    · exact ⟨_, _, h.st1, .inr (.inl rfl)⟩
    · exact hp.ofStage
  · rintro (e | e | hp)
    · exact h.st0.ne_cargo hu e
    · exact h.nes e
    · exact isP.not h.st0 (by decide) hp
  · rintro (e | e | hp)
    · exact h.nec e
    · exact h.st1.ne_cargo hu0 e.symm
    · exact isP.not hu0 (by decide) hp
set_option maxHeartbeats 8000000 in
set_option maxRecDepth 100000 in
theorem chain_put (i : CI) (g o c : Nat) (hc1 : 1 ≤ c) (w : World) (h : ChainAt w i 0 0 0 0) (hc : CargoIn w i.c0 (.slice none 0 0)) (hb : ByteIn w g o) (hg : g < w.heap.size) : Calls Tryz.prog 68 #[.pointer (some ⟨i.h, 0, none⟩), .int .i64 0, .slice (some ⟨g, o, none⟩) 1 c] w fun e w' => e = .returned (.int .i64 1) ∧ ChainAt w' i 0 0 1 0 ∧ Fr (fun b => b = i.c0) w w' := by
  have HP := Lib.hid (stage_put (B := i.B) i.s0 i.c0 g o c hc1 0 w h.st0 hc hb hg (Nat.le_trans h.hb (Nat.le_of_lt (blk_lt h.chain))))
  have a0 := blk_cell h.chain 0
  have a3 := blk_cell h.chain 3
  have a4 := blk_cell h.chain 4
  have l0 := blk_cell h.list 0
  have p0 := blk_cell h.part0 0
  simp only [List.getElem?_toArray, List.getElem?_cons_zero, List.getElem?_cons_succ] at a0 a3 a4 l0 p0
  have H := Lib.hid h
  clear h hc hb
  go_enter Tryz.func68, Tryz.ntmps68
  go_wp2_with fail
  refine HP.out.mono ?_
  rintro e w1 ⟨rfl, hh, hf⟩
  have H1 := Lib.hid (And.intro (H.out.put0 hf hh) hf)
  clear hh hf
  go_wp2_with fail
  go_ret
  exact ⟨rfl, H1.out⟩
set_option maxHeartbeats 8000000 in
set_option maxRecDepth 100000 in
theorem chain_broken (i : CI) (q0 q1 : Int) (k0 k1 : Nat) (w : World) (h : ChainAt w i q0 q1 k0 k1) : Calls Tryz.prog 121 #[.pointer (some ⟨i.h, 0, none⟩), .int .i64 0] w fun e w' => e = .returned (.bool false) ∧ Below w.heap.size w w' := by
  have a0 := blk_cell h.chain 0
  have l0 := blk_cell h.list 0
  have l1 := blk_cell h.list 1
  have p0 := blk_cell h.part0 0
  have p1 := blk_cell h.part1 0
  simp only [List.getElem?_toArray, List.getElem?_cons_zero, List.getElem?_cons_succ] at a0 l0 l1 p0 p1
  have HS0 := Lib.hid (stage_state i.s0 i.c0 q0 w h.st0)
  have H := Lib.hid h
  have z1 := blk_lt h.list
  have z2 := blk_lt h.part1
  clear h
  go_enter Tryz.func121, Tryz.ntmps121
  go_wp2_with fail
  refine wp_loop_rounds 3 ?_
  rw [rounds_succ]
  go_wp2_with fail
  refine HS0.out.mono ?_
  rintro e w1 ⟨rfl, hb1⟩
  have l1' := (hb1.cell (p := ⟨i.la, 1, none⟩) z1).trans l1
  have p1' := (hb1.cell (p := ⟨i.p1, 0, none⟩) z2).trans p1
  have HS1 := Lib.hid (stage_state i.s1 i.c1 q1 w1 (H.out.st1.below hb1))
  have HB1 := Lib.hid hb1
  clear hb1
  go_wp2_with fail
  rw [rounds_succ]
  go_wp2_with fail
  refine HS1.out.mono ?_
  rintro e w2 ⟨rfl, hb2⟩
  have HB2 := Lib.hid (below_step HB1.out hb2)
  clear hb2
  go_wp2_with fail
  rw [rounds_succ]
  go_wp2_with fail
  go_ret
  exact ⟨rfl, HB2.out⟩
set_option maxHeartbeats 8000000 in
set_option maxRecDepth 100000 in
theorem pairs_calls (i : CI) (w : World) : Calls Tryz.prog 122 #[.pointer (some ⟨i.h, 0, none⟩)] w fun e w' => e = .returned (.func (.func 185) #[] #[.pointer (some ⟨w.heap.size, 0, none⟩)]) ∧ w' = w.alloc (.cells #[.pointer (some ⟨i.h, 0, none⟩)] 137) := by
  go_enter Tryz.func122, Tryz.ntmps122
  go_wp2_with fail
  go_ret
  exact ⟨rfl, rfl⟩
end Go.Proofs.YtdpfmemcpipbkaaGreatDoor.Hand
end
