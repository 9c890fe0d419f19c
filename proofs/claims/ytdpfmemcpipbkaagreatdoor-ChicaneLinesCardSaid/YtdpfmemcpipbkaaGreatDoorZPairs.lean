/- chain.Take. -/
import Derived.Test.YtdpfmemcpipbkaaGreatDoorZMove
import Derived.RangeFuncNested
import Derived.RangeFuncBound
import Derived.RangeFuncCalls
import Derived.OrdersIn
import Derived.TacticsIn
section
namespace Go.Proofs.YtdpfmemcpipbkaaGreatDoor.Hand
open Go.RowKit
set_option linter.unusedVariables false
set_option linter.unusedSimpArgs false
set_option maxHeartbeats 8000000 in
set_option maxRecDepth 100000 in
theorem chain_take0 (i : CI) (q0 q1 : Int) (hq : 0 ≤ q1) (hq' : q1 ≤ 100) (w : World) (h : ChainAt w i q0 q1 0 0) : Calls Tryz.prog 71 #[.pointer (some ⟨i.h, 0, none⟩), .int .i64 0, .int .i64 1] w fun e w' => e = .returned (.slice none 0 0) ∧ Below w.heap.size w w' := by
  have a0 := blk_cell h.chain 0
  have a4 := blk_cell h.chain 4
  have l1 := blk_cell h.list 1
  have p1 := blk_cell h.part1 0
  simp only [List.getElem?_toArray, List.getElem?_cons_zero, List.getElem?_cons_succ] at a0 a4 l1 p1
  have kw1 : IntKind.i64.wrap 1 = 1 := rfl
  have kt1 : Int.toNat 1 = 1 := rfl
  have zh := blk_lt h.chain
  have zl := blk_lt h.list
  have zp := blk_lt h.part1
  have H := Lib.hid h
  clear h
  go_enter Tryz.func71, Tryz.ntmps71
  go_wp2_with fail
  refine start_n (S := fun W => W.cell? ⟨i.h, 0, none⟩ = some (.slice (some ⟨i.la, 0, none⟩) 2 2) ∧ W.cell? ⟨i.la, 1, none⟩ = some (.pointer (some ⟨i.p1, 0, none⟩)) ∧ W.cell? ⟨i.p1, 0, none⟩ = some (.pointer (some ⟨i.s1, 0, none⟩))) 19 #[false, false, false, false, false, false, false, false, false, false, false, false, false, false, false, false, false, false, false] (by kernel_rfl) rfl rfl ?_ (fun hHeld => ?_)
  · (try dsimp only)
    exact ⟨a0, l1, p1⟩
  refine take_n 0 (some 12) #[true, false, false, false, false, false, false, false, false, false, false, false, false, false, false, false, false, false, false] (v := ?_) (a' := ?_) rfl rfl rfl (by kernel_rfl) (by kernel_rfl) (by kernel_rfl) (fun _ _ _ _ h => h) (Or.inl ⟨by rfl, ?_⟩) hHeld ?_ ?_
  rotate_left 2
  · intro w hSw
    (try dsimp only at hSw)
    go_simp
    all_goals (with_reducible rfl)
  · simp only [Act.put, List.setIfInBounds_toArray, List.set_cons_zero, List.set_cons_succ]
    rfl
  refine take_n 1 (some 13) #[true, true, false, false, false, false, false, false, false, false, false, false, false, false, false, false, false, false, false] (v := ?_) (a' := ?_) rfl rfl rfl (by kernel_rfl) (by kernel_rfl) (by kernel_rfl) (fun _ _ _ _ h => h) (Or.inl ⟨by rfl, ?_⟩) hHeld ?_ ?_
  rotate_left 2
  · intro w hSw
    (try dsimp only at hSw)
    go_simp
    all_goals (with_reducible rfl)
  · simp only [Act.put, List.setIfInBounds_toArray, List.set_cons_zero, List.set_cons_succ]
    rfl
  refine take_n 2 (some 14) #[true, true, true, false, false, false, false, false, false, false, false, false, false, false, false, false, false, false, false] (v := ?_) (a' := ?_) rfl rfl rfl (by kernel_rfl) (by kernel_rfl) (by kernel_rfl) (fun _ _ _ _ h => h) (Or.inl ⟨by rfl, ?_⟩) hHeld ?_ ?_
  rotate_left 2
  · intro w hSw
    (try dsimp only at hSw)
    go_simp
    all_goals (with_reducible rfl)
  · simp only [Act.put, List.setIfInBounds_toArray, List.set_cons_zero, List.set_cons_succ]
    rfl
  refine take_n 3 (some 15) #[true, true, true, true, false, false, false, false, false, false, false, false, false, false, false, false, false, false, false] (v := ?_) (a' := ?_) rfl rfl rfl (by kernel_rfl) (by kernel_rfl) (by kernel_rfl) (fun _ _ _ _ h => h) (Or.inl ⟨by rfl, ?_⟩) hHeld ?_ ?_
  rotate_left 2
  · intro w hSw
    (try dsimp only at hSw)
    go_simp
    all_goals (with_reducible rfl)
  · simp only [Act.put, List.setIfInBounds_toArray, List.set_cons_zero, List.set_cons_succ]
    rfl
  refine take_n 4 (some 16) #[true, true, true, true, true, false, false, false, false, false, false, false, false, false, false, false, false, false, false] (v := ?_) (a' := ?_) rfl rfl rfl (by kernel_rfl) (by kernel_rfl) (by kernel_rfl) (fun _ _ _ _ h => h) (Or.inl ⟨by rfl, ?_⟩) hHeld ?_ ?_
  rotate_left 2
  · intro w hSw
    (try dsimp only at hSw)
    go_simp
    all_goals (with_reducible rfl)
  · simp only [Act.put, List.setIfInBounds_toArray, List.set_cons_zero, List.set_cons_succ]
    rfl
  refine take_n 5 (some 17) #[true, true, true, true, true, true, false, false, false, false, false, false, false, false, false, false, false, false, false] (v := ?_) (a' := ?_) rfl rfl rfl (by kernel_rfl) (by kernel_rfl) (by kernel_rfl) (fun _ _ _ _ h => h) (Or.inl ⟨by rfl, ?_⟩) hHeld ?_ ?_
  rotate_left 2
  · intro w hSw
    (try dsimp only at hSw)
    go_simp
    all_goals (with_reducible rfl)
  · simp only [Act.put, List.setIfInBounds_toArray, List.set_cons_zero, List.set_cons_succ]
    rfl
  refine take_n 6 (some 18) #[true, true, true, true, true, true, true, false, false, false, false, false, false, false, false, false, false, false, false] (v := ?_) (a' := ?_) rfl rfl rfl (by kernel_rfl) (by kernel_rfl) (by kernel_rfl) (fun _ _ _ _ h => h) (Or.inl ⟨by rfl, ?_⟩) hHeld ?_ ?_
  rotate_left 2
  · intro w hSw
    (try dsimp only at hSw)
    go_simp
    all_goals (with_reducible rfl)
  · simp only [Act.put, List.setIfInBounds_toArray, List.set_cons_zero, List.set_cons_succ]
    rfl
  refine take_n 7 (some 19) #[true, true, true, true, true, true, true, true, false, false, false, false, false, false, false, false, false, false, false] (v := ?_) (a' := ?_) rfl rfl rfl (by kernel_rfl) (by kernel_rfl) (by kernel_rfl) (fun _ _ _ _ h => h) (Or.inl ⟨by rfl, ?_⟩) hHeld ?_ ?_
  rotate_left 2
  · intro w hSw
    (try dsimp only at hSw)
    go_simp
    all_goals (with_reducible rfl)
  · simp only [Act.put, List.setIfInBounds_toArray, List.set_cons_zero, List.set_cons_succ]
    rfl
  refine take_n 8 (some 20) #[true, true, true, true, true, true, true, true, true, false, false, false, false, false, false, false, false, false, false] (v := ?_) (a' := ?_) rfl rfl rfl (by kernel_rfl) (by kernel_rfl) (by kernel_rfl) (fun _ _ _ _ h => h) (Or.inl ⟨by rfl, ?_⟩) hHeld ?_ ?_
  rotate_left 2
  · intro w hSw
    (try dsimp only at hSw)
    go_simp
    all_goals (with_reducible rfl)
  · simp only [Act.put, List.setIfInBounds_toArray, List.set_cons_zero, List.set_cons_succ]
    rfl
  refine take_n 9 (some 21) #[true, true, true, true, true, true, true, true, true, true, false, false, false, false, false, false, false, false, false] (v := ?_) (a' := ?_) rfl rfl rfl (by kernel_rfl) (by kernel_rfl) (by kernel_rfl) (fun _ _ _ _ h => h) (Or.inl ⟨by rfl, ?_⟩) hHeld ?_ ?_
  rotate_left 2
  · intro w hSw
    (try dsimp only at hSw)
    go_simp
    all_goals (with_reducible rfl)
  · simp only [Act.put, List.setIfInBounds_toArray, List.set_cons_zero, List.set_cons_succ]
    rfl
  refine take_n 10 (some 22) #[true, true, true, true, true, true, true, true, true, true, true, false, false, false, false, false, false, false, false] (v := ?_) (a' := ?_) rfl rfl rfl (by kernel_rfl) (by kernel_rfl) (by kernel_rfl) (fun _ _ _ _ h => h) (Or.inl ⟨by rfl, ?_⟩) hHeld ?_ ?_
  rotate_left 2
  · intro w hSw
    (try dsimp only at hSw)
    go_simp
    all_goals (with_reducible rfl)
  · simp only [Act.put, List.setIfInBounds_toArray, List.set_cons_zero, List.set_cons_succ]
    rfl
  refine take_n 11 (some 23) #[true, true, true, true, true, true, true, true, true, true, true, true, false, false, false, false, false, false, false] (v := ?_) (a' := ?_) rfl rfl rfl (by kernel_rfl) (by kernel_rfl) (by kernel_rfl) (fun _ _ _ _ h => h) (Or.inl ⟨by rfl, ?_⟩) hHeld ?_ ?_
  rotate_left 2
  · intro w hSw
    (try dsimp only at hSw)
    go_simp
    all_goals (with_reducible rfl)
  · simp only [Act.put, List.setIfInBounds_toArray, List.set_cons_zero, List.set_cons_succ]
    rfl
  refine take_n 12 (some 24) #[true, true, true, true, true, true, true, true, true, true, true, true, true, false, false, false, false, false, false] (v := ?_) (a' := ?_) rfl rfl rfl (by kernel_rfl) (by kernel_rfl) (by kernel_rfl) (fun _ _ _ _ h => h) (Or.inl ⟨by rfl, ?_⟩) hHeld ?_ ?_
  rotate_left 2
  · intro w hSw
    (try dsimp only at hSw)
    go_simp
    all_goals (with_reducible rfl)
  · simp only [Act.put, List.setIfInBounds_toArray, List.set_cons_zero, List.set_cons_succ]
    rfl
  refine take_n 13 (some 25) #[true, true, true, true, true, true, true, true, true, true, true, true, true, true, false, false, false, false, false] (v := ?_) (a' := ?_) rfl rfl rfl (by kernel_rfl) (by kernel_rfl) (by kernel_rfl) (fun _ _ _ _ h => h) (Or.inl ⟨by rfl, ?_⟩) hHeld ?_ ?_
  rotate_left 2
  · intro w hSw
    (try dsimp only at hSw)
    go_simp
    all_goals (with_reducible rfl)
  · simp only [Act.put, List.setIfInBounds_toArray, List.set_cons_zero, List.set_cons_succ]
    rfl
  refine take_n 14 (some 26) #[true, true, true, true, true, true, true, true, true, true, true, true, true, true, true, false, false, false, false] (v := ?_) (a' := ?_) rfl rfl rfl (by kernel_rfl) (by kernel_rfl) (by kernel_rfl) (fun _ _ _ _ h => h) (Or.inl ⟨by rfl, ?_⟩) hHeld ?_ ?_
  rotate_left 2
  · intro w hSw
    (try dsimp only at hSw)
    go_simp
    all_goals (with_reducible rfl)
  · simp only [Act.put, List.setIfInBounds_toArray, List.set_cons_zero, List.set_cons_succ]
    rfl
  refine take_n 15 (some 27) #[true, true, true, true, true, true, true, true, true, true, true, true, true, true, true, true, false, false, false] (v := ?_) (a' := ?_) rfl rfl rfl (by kernel_rfl) (by kernel_rfl) (by kernel_rfl) (fun _ _ _ _ h => h) (Or.inl ⟨by rfl, ?_⟩) hHeld ?_ ?_
  rotate_left 2
  · intro w hSw
    (try dsimp only at hSw)
    go_simp
    all_goals (with_reducible rfl)
  · simp only [Act.put, List.setIfInBounds_toArray, List.set_cons_zero, List.set_cons_succ]
    rfl
  refine take_n 16 (some 28) #[true, true, true, true, true, true, true, true, true, true, true, true, true, true, true, true, true, false, false] (v := ?_) (a' := ?_) rfl rfl rfl (by kernel_rfl) (by kernel_rfl) (by kernel_rfl) (fun _ _ _ _ h => h) (Or.inl ⟨by rfl, ?_⟩) hHeld ?_ ?_
  rotate_left 2
  · intro w hSw
    (try dsimp only at hSw)
    go_simp
    all_goals (with_reducible rfl)
  · simp only [Act.put, List.setIfInBounds_toArray, List.set_cons_zero, List.set_cons_succ]
    rfl
  refine one_n 17 #[true, true, true, true, true, true, true, true, true, true, true, true, true, true, true, true, true, true, false] rfl rfl (by kernel_rfl) (fun K hK => ?_)
  go_simp
  refine (stage_take0 i.s1 i.c1 1 (by omega) q1 hq hq' _ (H.out.lay (AsLay.of_below ((Below.refl _ w).drew))).st1 (H.out.lay (AsLay.of_below ((Below.refl _ w).drew))).has1).mono ?_
  rintro e w1 ⟨rfl, hb1⟩
  have HB1 := Lib.hid (below_drew hb1)
  clear hb1
  refine hK.out _ ?_ _ ?_ ?_ (fun hHeld => ?_)
  rotate_left
  · (try simp only [Act.put, List.setIfInBounds_toArray, List.set_cons_zero, List.set_cons_succ])
    rfl
  · (try dsimp only)
    exact ⟨(HB1.out.cell (p := ⟨i.h, 0, none⟩) zh).trans hHeld.1, (HB1.out.cell (p := ⟨i.la, 1, none⟩) zl).trans hHeld.2.1, (HB1.out.cell (p := ⟨i.p1, 0, none⟩) zp).trans hHeld.2.2⟩
  clear hK K
  refine take_n 18 (some 6) #[true, true, true, true, true, true, true, true, true, true, true, true, true, true, true, true, true, true, true] (v := ?_) (a' := ?_) rfl rfl rfl (by kernel_rfl) (by kernel_rfl) (by kernel_rfl) (fun _ _ _ _ h => h) (Or.inl ⟨by rfl, ?_⟩) hHeld ?_ ?_
  rotate_left 2
  · intro w hSw
    (try dsimp only at hSw)
    go_simp
    all_goals (with_reducible rfl)
  · simp only [Act.put, List.setIfInBounds_toArray, List.set_cons_zero, List.set_cons_succ]
    rfl
  refine wpAnyH_done (by kernel_rfl) ?_ _
  go_wp2_with fail
  go_ret
  exact ⟨rfl, HB1.out⟩
set_option maxHeartbeats 8000000 in
set_option maxRecDepth 100000 in
theorem chain_take1 (i : CI) (q0 q1 : Int) (hq : 0 ≤ q1) (hq' : q1 ≤ 100) (w : World) (h : ChainAt w i q0 q1 0 1) : Calls Tryz.prog 71 #[.pointer (some ⟨i.h, 0, none⟩), .int .i64 0, .int .i64 1] w fun e w' => ∃ g c, e = .returned (.slice (some ⟨g, 0, none⟩) 1 c) ∧ w.heap.size ≤ g ∧ g < w'.heap.size ∧ ByteIn w' g 0 ∧ ChainAt w' i q0 (q1 + 1) 0 0 ∧ Fr (fun b => b = i.c1 ∨ b = i.s1 ∨ isP i.B w b) w w' := by
  have a0 := blk_cell h.chain 0
  have a4 := blk_cell h.chain 4
  have l1 := blk_cell h.list 1
  have p1 := blk_cell h.part1 0
  simp only [List.getElem?_toArray, List.getElem?_cons_zero, List.getElem?_cons_succ] at a0 a4 l1 p1
  have kw1 : IntKind.i64.wrap 1 = 1 := rfl
  have kt1 : Int.toNat 1 = 1 := rfl
  have zh := blk_lt h.chain
  have zl := blk_lt h.list
  have zp := blk_lt h.part1
  have H := Lib.hid h
  clear h
  go_enter Tryz.func71, Tryz.ntmps71
  go_wp2_with fail
  refine start_n (S := fun W => W.cell? ⟨i.h, 0, none⟩ = some (.slice (some ⟨i.la, 0, none⟩) 2 2) ∧ W.cell? ⟨i.la, 1, none⟩ = some (.pointer (some ⟨i.p1, 0, none⟩)) ∧ W.cell? ⟨i.p1, 0, none⟩ = some (.pointer (some ⟨i.s1, 0, none⟩))) 19 #[false, false, false, false, false, false, false, false, false, false, false, false, false, false, false, false, false, false, false] (by kernel_rfl) rfl rfl ?_ (fun hHeld => ?_)
  · (try dsimp only)
    exact ⟨a0, l1, p1⟩
  refine take_n 0 (some 12) #[true, false, false, false, false, false, false, false, false, false, false, false, false, false, false, false, false, false, false] (v := ?_) (a' := ?_) rfl rfl rfl (by kernel_rfl) (by kernel_rfl) (by kernel_rfl) (fun _ _ _ _ h => h) (Or.inl ⟨by rfl, ?_⟩) hHeld ?_ ?_
  rotate_left 2
  · intro w hSw
    (try dsimp only at hSw)
    go_simp
    all_goals (with_reducible rfl)
  · simp only [Act.put, List.setIfInBounds_toArray, List.set_cons_zero, List.set_cons_succ]
    rfl
  refine take_n 1 (some 13) #[true, true, false, false, false, false, false, false, false, false, false, false, false, false, false, false, false, false, false] (v := ?_) (a' := ?_) rfl rfl rfl (by kernel_rfl) (by kernel_rfl) (by kernel_rfl) (fun _ _ _ _ h => h) (Or.inl ⟨by rfl, ?_⟩) hHeld ?_ ?_
  rotate_left 2
  · intro w hSw
    (try dsimp only at hSw)
    go_simp
    all_goals (with_reducible rfl)
  · simp only [Act.put, List.setIfInBounds_toArray, List.set_cons_zero, List.set_cons_succ]
    rfl
  refine take_n 2 (some 14) #[true, true, true, false, false, false, false, false, false, false, false, false, false, false, false, false, false, false, false] (v := ?_) (a' := ?_) rfl rfl rfl (by kernel_rfl) (by kernel_rfl) (by kernel_rfl) (fun _ _ _ _ h => h) (Or.inl ⟨by rfl, ?_⟩) hHeld ?_ ?_
  rotate_left 2
  · intro w hSw
    (try dsimp only at hSw)
    go_simp
    all_goals (with_reducible rfl)
  · simp only [Act.put, List.setIfInBounds_toArray, List.set_cons_zero, List.set_cons_succ]
    rfl
  refine take_n 3 (some 15) #[true, true, true, true, false, false, false, false, false, false, false, false, false, false, false, false, false, false, false] (v := ?_) (a' := ?_) rfl rfl rfl (by kernel_rfl) (by kernel_rfl) (by kernel_rfl) (fun _ _ _ _ h => h) (Or.inl ⟨by rfl, ?_⟩) hHeld ?_ ?_
  rotate_left 2
  · intro w hSw
    (try dsimp only at hSw)
    go_simp
    all_goals (with_reducible rfl)
  · simp only [Act.put, List.setIfInBounds_toArray, List.set_cons_zero, List.set_cons_succ]
    rfl
  refine take_n 4 (some 16) #[true, true, true, true, true, false, false, false, false, false, false, false, false, false, false, false, false, false, false] (v := ?_) (a' := ?_) rfl rfl rfl (by kernel_rfl) (by kernel_rfl) (by kernel_rfl) (fun _ _ _ _ h => h) (Or.inl ⟨by rfl, ?_⟩) hHeld ?_ ?_
  rotate_left 2
  · intro w hSw
    (try dsimp only at hSw)
    go_simp
    all_goals (with_reducible rfl)
  · simp only [Act.put, List.setIfInBounds_toArray, List.set_cons_zero, List.set_cons_succ]
    rfl
  refine take_n 5 (some 17) #[true, true, true, true, true, true, false, false, false, false, false, false, false, false, false, false, false, false, false] (v := ?_) (a' := ?_) rfl rfl rfl (by kernel_rfl) (by kernel_rfl) (by kernel_rfl) (fun _ _ _ _ h => h) (Or.inl ⟨by rfl, ?_⟩) hHeld ?_ ?_
  rotate_left 2
  · intro w hSw
    (try dsimp only at hSw)
    go_simp
    all_goals (with_reducible rfl)
  · simp only [Act.put, List.setIfInBounds_toArray, List.set_cons_zero, List.set_cons_succ]
    rfl
  refine take_n 6 (some 18) #[true, true, true, true, true, true, true, false, false, false, false, false, false, false, false, false, false, false, false] (v := ?_) (a' := ?_) rfl rfl rfl (by kernel_rfl) (by kernel_rfl) (by kernel_rfl) (fun _ _ _ _ h => h) (Or.inl ⟨by rfl, ?_⟩) hHeld ?_ ?_
  rotate_left 2
  · intro w hSw
    (try dsimp only at hSw)
    go_simp
    all_goals (with_reducible rfl)
  · simp only [Act.put, List.setIfInBounds_toArray, List.set_cons_zero, List.set_cons_succ]
    rfl
  refine take_n 7 (some 19) #[true, true, true, true, true, true, true, true, false, false, false, false, false, false, false, false, false, false, false] (v := ?_) (a' := ?_) rfl rfl rfl (by kernel_rfl) (by kernel_rfl) (by kernel_rfl) (fun _ _ _ _ h => h) (Or.inl ⟨by rfl, ?_⟩) hHeld ?_ ?_
  rotate_left 2
  · intro w hSw
    (try dsimp only at hSw)
    go_simp
    all_goals (with_reducible rfl)
  · simp only [Act.put, List.setIfInBounds_toArray, List.set_cons_zero, List.set_cons_succ]
    rfl
  refine take_n 8 (some 20) #[true, true, true, true, true, true, true, true, true, false, false, false, false, false, false, false, false, false, false] (v := ?_) (a' := ?_) rfl rfl rfl (by kernel_rfl) (by kernel_rfl) (by kernel_rfl) (fun _ _ _ _ h => h) (Or.inl ⟨by rfl, ?_⟩) hHeld ?_ ?_
  rotate_left 2
  · intro w hSw
    (try dsimp only at hSw)
    go_simp
    all_goals (with_reducible rfl)
  · simp only [Act.put, List.setIfInBounds_toArray, List.set_cons_zero, List.set_cons_succ]
    rfl
  refine take_n 9 (some 21) #[true, true, true, true, true, true, true, true, true, true, false, false, false, false, false, false, false, false, false] (v := ?_) (a' := ?_) rfl rfl rfl (by kernel_rfl) (by kernel_rfl) (by kernel_rfl) (fun _ _ _ _ h => h) (Or.inl ⟨by rfl, ?_⟩) hHeld ?_ ?_
  rotate_left 2
  · intro w hSw
    (try dsimp only at hSw)
    go_simp
    all_goals (with_reducible rfl)
  · simp only [Act.put, List.setIfInBounds_toArray, List.set_cons_zero, List.set_cons_succ]
    rfl
  refine take_n 10 (some 22) #[true, true, true, true, true, true, true, true, true, true, true, false, false, false, false, false, false, false, false] (v := ?_) (a' := ?_) rfl rfl rfl (by kernel_rfl) (by kernel_rfl) (by kernel_rfl) (fun _ _ _ _ h => h) (Or.inl ⟨by rfl, ?_⟩) hHeld ?_ ?_
  rotate_left 2
  · intro w hSw
    (try dsimp only at hSw)
    go_simp
    all_goals (with_reducible rfl)
  · simp only [Act.put, List.setIfInBounds_toArray, List.set_cons_zero, List.set_cons_succ]
    rfl
  refine take_n 11 (some 23) #[true, true, true, true, true, true, true, true, true, true, true, true, false, false, false, false, false, false, false] (v := ?_) (a' := ?_) rfl rfl rfl (by kernel_rfl) (by kernel_rfl) (by kernel_rfl) (fun _ _ _ _ h => h) (Or.inl ⟨by rfl, ?_⟩) hHeld ?_ ?_
  rotate_left 2
  · intro w hSw
    (try dsimp only at hSw)
    go_simp
    all_goals (with_reducible rfl)
  · simp only [Act.put, List.setIfInBounds_toArray, List.set_cons_zero, List.set_cons_succ]
    rfl
  refine take_n 12 (some 24) #[true, true, true, true, true, true, true, true, true, true, true, true, true, false, false, false, false, false, false] (v := ?_) (a' := ?_) rfl rfl rfl (by kernel_rfl) (by kernel_rfl) (by kernel_rfl) (fun _ _ _ _ h => h) (Or.inl ⟨by rfl, ?_⟩) hHeld ?_ ?_
  rotate_left 2
  · intro w hSw
    (try dsimp only at hSw)
    go_simp
    all_goals (with_reducible rfl)
  · simp only [Act.put, List.setIfInBounds_toArray, List.set_cons_zero, List.set_cons_succ]
    rfl
  refine take_n 13 (some 25) #[true, true, true, true, true, true, true, true, true, true, true, true, true, true, false, false, false, false, false] (v := ?_) (a' := ?_) rfl rfl rfl (by kernel_rfl) (by kernel_rfl) (by kernel_rfl) (fun _ _ _ _ h => h) (Or.inl ⟨by rfl, ?_⟩) hHeld ?_ ?_
  rotate_left 2
  · intro w hSw
    (try dsimp only at hSw)
    go_simp
    all_goals (with_reducible rfl)
  · simp only [Act.put, List.setIfInBounds_toArray, List.set_cons_zero, List.set_cons_succ]
    rfl
  refine take_n 14 (some 26) #[true, true, true, true, true, true, true, true, true, true, true, true, true, true, true, false, false, false, false] (v := ?_) (a' := ?_) rfl rfl rfl (by kernel_rfl) (by kernel_rfl) (by kernel_rfl) (fun _ _ _ _ h => h) (Or.inl ⟨by rfl, ?_⟩) hHeld ?_ ?_
  rotate_left 2
  · intro w hSw
    (try dsimp only at hSw)
    go_simp
    all_goals (with_reducible rfl)
  · simp only [Act.put, List.setIfInBounds_toArray, List.set_cons_zero, List.set_cons_succ]
    rfl
  refine take_n 15 (some 27) #[true, true, true, true, true, true, true, true, true, true, true, true, true, true, true, true, false, false, false] (v := ?_) (a' := ?_) rfl rfl rfl (by kernel_rfl) (by kernel_rfl) (by kernel_rfl) (fun _ _ _ _ h => h) (Or.inl ⟨by rfl, ?_⟩) hHeld ?_ ?_
  rotate_left 2
  · intro w hSw
    (try dsimp only at hSw)
    go_simp
    all_goals (with_reducible rfl)
  · simp only [Act.put, List.setIfInBounds_toArray, List.set_cons_zero, List.set_cons_succ]
    rfl
  refine take_n 16 (some 28) #[true, true, true, true, true, true, true, true, true, true, true, true, true, true, true, true, true, false, false] (v := ?_) (a' := ?_) rfl rfl rfl (by kernel_rfl) (by kernel_rfl) (by kernel_rfl) (fun _ _ _ _ h => h) (Or.inl ⟨by rfl, ?_⟩) hHeld ?_ ?_
  rotate_left 2
  · intro w hSw
    (try dsimp only at hSw)
    go_simp
    all_goals (with_reducible rfl)
  · simp only [Act.put, List.setIfInBounds_toArray, List.set_cons_zero, List.set_cons_succ]
    rfl
  refine one_n 17 #[true, true, true, true, true, true, true, true, true, true, true, true, true, true, true, true, true, true, false] rfl rfl (by kernel_rfl) (fun K hK => ?_)
  go_simp
  refine (stage_take1 i.s1 i.c1 1 (by omega) q1 hq hq' _ (H.out.lay (AsLay.of_below ((Below.refl _ w).drew))).st1 (H.out.lay (AsLay.of_below ((Below.refl _ w).drew))).has1).mono ?_
  rintro e w1 ⟨g, c, rfl, t1, t2, t3, t4, t5, hf⟩
  have hf' : Fr (fun b => b = i.c1 ∨ b = i.s1 ∨ isP i.B w b) w w1 := ⟨hf.os, hf.tape, hf.output, hf.size, hf.block⟩
  have hc' := H.out.take1 hf' t4 t5
  have H1 := Lib.hid (And.intro t1 (And.intro t2 (And.intro t3 (And.intro hc' hf'))))
  have k0 := blk_cell hc'.chain 0
  have k1 := blk_cell hc'.list 1
  have k2 := blk_cell hc'.part1 0
  simp only [List.getElem?_toArray, List.getElem?_cons_zero, List.getElem?_cons_succ] at k0 k1 k2
  clear t1 t2 t3 t4 t5 hf hf' hc'
  refine hK.out _ ?_ _ ?_ ?_ (fun hHeld => ?_)
  rotate_left
  · (try simp only [Act.put, List.setIfInBounds_toArray, List.set_cons_zero, List.set_cons_succ])
    rfl
  · (try dsimp only)
    exact ⟨k0, k1, k2⟩
  clear hK K
  refine take_n 18 (some 6) #[true, true, true, true, true, true, true, true, true, true, true, true, true, true, true, true, true, true, true] (v := ?_) (a' := ?_) rfl rfl rfl (by kernel_rfl) (by kernel_rfl) (by kernel_rfl) (fun _ _ _ _ h => h) (Or.inl ⟨by rfl, ?_⟩) hHeld ?_ ?_
  rotate_left 2
  · intro w hSw
    (try dsimp only at hSw)
    go_simp
    all_goals (with_reducible rfl)
  · simp only [Act.put, List.setIfInBounds_toArray, List.set_cons_zero, List.set_cons_succ]
    rfl
  refine wpAnyH_done (by kernel_rfl) ?_ _
  go_wp2_with fail
  go_ret
  exact ⟨g, c, rfl, H1.out⟩
end Go.Proofs.YtdpfmemcpipbkaaGreatDoor.Hand
end
section
/- A link. -/
namespace Go.Proofs.YtdpfmemcpipbkaaGreatDoor.Hand
open Go.RowKit
set_option linter.unusedVariables false
set_option linter.unusedSimpArgs false
def linkC (h : Nat) (up : Bool) (seed sent got : Int) : Array Value := #[.pointer (some ⟨h, 0, none⟩), .slice none 0 0, .bool up, .int .u64 seed, .int .i64 0, .int .i64 sent, .int .i64 got, .int .i64 0, .int .i64 0, .bool false]
theorem set_blk {w : World} {lk : Nat} {cs0 : Array Value} {T : TypeId} (h : Blk w lk cs0 T) (k : Nat) (v : Value) {b : Nat} {cs : Array Value} {t : TypeId} (hb : Blk w b cs t) (ht : t ≠ T) : Blk (w.setCell ⟨lk, k, none⟩ v) b cs t :=
  (heap_setCell_ne _ _ _ _ (by show b ≠ lk; exact hb.ne h ht)).trans hb
theorem ChainAt.set {w : World} {lk : Nat} {cs0 : Array Value} {i : CI} {q0 q1 : Int} {k0 k1 : Nat} (h : ChainAt w i q0 q1 k0 k1) (hl : Blk w lk cs0 145) (k : Nat) (v : Value) : ChainAt (w.setCell ⟨lk, k, none⟩ v) i q0 q1 k0 k1 := by
  have hs : ∀ {c m}, Has i.B w c m → Has i.B (w.setCell ⟨lk, k, none⟩ v) c m := by
    intro c m hh
    rcases hh with ⟨a, n, hh⟩ | ⟨g, n, hh, ⟨cur, hp, p01⟩, hc1, hBg⟩
    · exact .none a n (set_blk hl k v hh (by decide))
    · exact .one g n (set_blk hl k v hh (by decide)) ⟨cur, set_blk hl k v hp (by decide), p01⟩ hc1 hBg
  exact ⟨set_blk hl k v h.chain (by decide), set_blk hl k v h.list (by decide), set_blk hl k v h.part0 (by decide), set_blk hl k v h.part1 (by decide), set_blk hl k v h.st0 (by decide), set_blk hl k v h.st1 (by decide), hs h.has0, hs h.has1, h.nes, h.nec, h.hb⟩
set_option maxHeartbeats 4000000 in
set_option maxRecDepth 100000 in
theorem doubles_none (a : Option Addr) (c : Nat) (w : World) : Calls Tryz.prog 66 #[.slice a 0 c] w fun e w' => e = .returned (.bool false) ∧ w = w' := by
  go_enter Tryz.func66, Tryz.ntmps66
  go_wp2_with fail
  refine wp_loop_rounds 1 ?_
  rw [rounds_succ]
  go_wp2_with fail
  go_ret
  exact ⟨rfl, rfl⟩
set_option maxHeartbeats 8000000 in
set_option maxRecDepth 100000 in
theorem link_new (a : Option Addr) (c : Nat) (up : Bool) (seed : Int) (w : World) : Calls Tryz.prog 33 #[.slice a 0 c, .bool up, .int .u64 seed, .int .i64 5, .int .i64 0] w fun e w' => ∃ (lk : Nat) (i : CI), e = .returned (.tuple #[.pointer (some ⟨lk, 0, none⟩), .int .i64 0]) ∧ w.heap.size ≤ lk ∧ i.Ge w.heap.size ∧ Blk w' lk (linkC i.h up seed 0 0) 145 ∧ ChainAt w' i 0 0 0 0 ∧ CargoIn w' i.c0 (.slice none 0 0) ∧ CargoIn w' i.c1 (.slice none 0 0) ∧ Below w.heap.size w w' := by
  have HC := Lib.hid (chain_new w)
  go_enter Tryz.func33, Tryz.ntmps33
  go_wp2_with fail
  refine HC.out.mono ?_
  rintro e w1 ⟨i, rfl, h1, h2, h3, h4, h5⟩
  have H1 := Lib.hid (And.intro h1 (And.intro h2 (And.intro h3 (And.intro h4 h5))))
  clear h1 h2 h3 h4 h5
  go_wp2_with fail
  refine wp_loop_rounds 1 ?_
  rw [rounds_succ]
  go_wp2_with fail
  refine (doubles_none _ _ _).mono ?_
  rintro e w2 ⟨rfl, rfl⟩
  go_wp2_with fail
  refine wp_loop_rounds 1 ?_
  rw [rounds_succ]
  go_wp2_with fail
  refine bodyPost_ret (results_tmp2 rfl _ _ _) rfl ?_
  obtain ⟨h1, h2, h3, h4, h5⟩ := H1.out
  have hal := below_alloc (Below.refl _ w1) (.cells (linkC i.h up seed 0 0) 145) (Nat.le_refl _)
  have l := AsLay.of_below hal
  exact ⟨w1.heap.size, i, rfl, h5.size, h1, heap_alloc_new w1 _, h2.lay l, h3.lay l, h4.lay l, below_step h5 hal⟩
set_option maxHeartbeats 8000000 in
set_option maxRecDepth 100000 in
theorem link_send (lk : Nat) (i : CI) (up : Bool) (seed : Int) (g o c : Nat) (hc1 : 1 ≤ c) (w : World) (hl : Blk w lk (linkC i.h up seed 0 0) 145) (h : ChainAt w i 0 0 0 0) (hc : CargoIn w i.c0 (.slice none 0 0)) (hb : ByteIn w g o) (hg : g < w.heap.size) : Calls Tryz.prog 36 #[.pointer (some ⟨lk, 0, none⟩), .int .i64 0, .slice (some ⟨g, o, none⟩) 1 c] w fun e w' => e = .returned (.int .i64 1) ∧ Blk w' lk (linkC i.h up seed 1 0) 145 ∧ ChainAt w' i 0 0 1 0 ∧ Fr (fun b => b = i.c0 ∨ b = lk) w w' := by
  have HP := Lib.hid (chain_put i g o c hc1 w h hc hb hg)
  have a0 := blk_cell hl 0
  simp only [linkC, List.getElem?_toArray, List.getElem?_cons_zero, List.getElem?_cons_succ] at a0
  obtain ⟨u, hu⟩ := h.has0.cargo
  have hne : lk ≠ i.c0 := Blk.ne hl hu (by decide)
  have HL := Lib.hid hl
  clear h hc hb hl hu
  go_enter Tryz.func36, Tryz.ntmps36
  go_wp2_with fail
  refine HP.out.mono ?_
  rintro e w1 ⟨rfl, hch, hf⟩
  have hl1 := HL.out.fr hf hne
  have a5 := blk_cell hl1 5
  have f5 := blk_frozen hl1 5
  simp only [linkC, List.getElem?_toArray, List.getElem?_cons_zero, List.getElem?_cons_succ] at a5
  have H1 := Lib.hid (And.intro hch (And.intro hf hl1))
  clear hch hf hl1
  go_wp2_with fail
  go_ret
  obtain ⟨hch, hf, hl1⟩ := H1.out
  exact ⟨rfl, blk_set hl1 5 _, hch.set hl1 5 _, (hf.mono (fun _ _ e => .inl e)).set (X := fun b => b = i.c0 ∨ b = lk) (p := ⟨lk, 5, none⟩) (.inl (.inr rfl)) _⟩
end Go.Proofs.YtdpfmemcpipbkaaGreatDoor.Hand
end
section
/- A region that draws its order, in a round: out of the plain walk of it. -/
namespace Go.Proofs.YtdpfmemcpipbkaaGreatDoor.Hand
open Go.RowKit
set_option linter.unusedVariables false
section
variable {P : Program} {ops : Array Oper} {Q : Exit → Act → World → Prop} {S : World → Prop}
theorem depth_round (l : Nat) {p : Prop} (e : (Fence.wide.inRound l).depth.isSome = true) : p := by simp [Fence.wide] at e
/-- An operation that is no defer statement goes in a round as elsewhere. -/
theorem oper_round {o : Oper} {a : Act} {w : World} {K : Act → World → Prop} (l n : Nat) (hd : ∀ c, o.op ≠ .defer c) (h : o.wp P a w K Q) : o.wpIn (Fence.wide.inRound l) n P a w K Q := by
  refine ⟨fun _ _ => trivial, ?_⟩
  rw [show (Fence.wide.inRound l).round = some l from rfl, Oper.semAt_some l _ _ hd]
  unfold Oper.wp at h
  generalize (execOp a.eval o).run P w = r at *
  cases r with
  | ok x w' =>
    cases x with
    | enter f args => exact ⟨fun e => depth_round l e, CallsIn.inRound l (callsIn_wide.2 h)⟩
    | row r args => exact ⟨fun e => depth_round l e, fun c cs _ => let ⟨v, w1, q, s⟩ := h c cs; ⟨v, w1, q, stepsIn_wide.2 s⟩⟩
    | round l' f tmps assign body => exact h.elim
    | value v => exact h
    | skip => exact h
    | defer d => exact h
    | _ => exact h
  | halt x w' => cases x <;> exact h
theorem ops_round (l n : Nat) (hnd : ∀ (i : Nat) (o : Oper), ops[i]? = some o → ∀ c, o.op ≠ .defer c) (hlo : LetsOut Q → False) : ∀ (rs : List Nat) (a : Act) (w : World), wpOps P ops Q rs a w → wpOpsIn (Fence.wide.inRound l) n P ops Q rs a w
  | [], a, w, h => h
  | i :: rest, a, w, h => by
    unfold wpOps at h
    unfold wpOpsIn
    cases ho : ops[i]? with
    | none =>
      simp only [ho] at h ⊢
      exact ops_round l n hnd hlo rest a w h
    | some o =>
      simp only [ho] at h ⊢
      split
      · next hw =>
        simp only [hw, if_true] at h
        rcases h with h | ⟨_, h⟩
        · exact oper_round l n (hnd i o ho) (Oper.wp_mono (fun a w h => ops_round l n hnd hlo rest a w h) h)
        · exact (hlo h).elim
      · next hw =>
        simp only [hw] at h
        exact ⟨fun _ _ => trivial, ops_round l n hnd hlo rest _ w h⟩
def noDefer (ops : Array Oper) : Bool := ops.all fun o => match o.op with | .defer _ => false | _ => true
theorem noDefer_spec (h : noDefer ops = true) : ∀ (i : Nat) (o : Oper), ops[i]? = some o → ∀ c, o.op ≠ .defer c := by
  intro i o ho c e
  unfold noDefer at h
  rw [Array.all_eq_true'] at h
  have := h o (Array.mem_of_getElem? ho)
  rw [e] at this
  exact absurd this (by simp)
theorem start_round (l m : Nat) (n : Nat) (L : Array Bool) {id : Nat} {a : Act} {w : World} (hm : P.follows .mixedOrders = true) (hnd : noDefer ops = true) (hlo : LetsOut Q → False) (hn : ops.size = n) (hL : Array.replicate n false = L) (hS : S w.drew)
    (h : S w.drew → wpAnyH P .any ops Q S n L a w.drew) : (Code.region id ops true).wpIn (Fence.wide.inRound l) m P Q a w := by
  subst hn
  subst hL
  refine wpIn_region_draw fun t => ?_
  simp only [Region.schedule, hm, Bool.true_or, if_true]
  exact ops_round l m (noDefer_spec hnd) hlo _ a _ (wpAny_sound ops.size t _ a _ (wpAny_of_held _ _ _ _ (h hS)))
end
end Go.Proofs.YtdpfmemcpipbkaaGreatDoor.Hand
end
section
/- The pairs of a chain of two parts: one round. -/
namespace Go.Proofs.YtdpfmemcpipbkaaGreatDoor.Hand
open Go.RowKit
set_option linter.unusedVariables false
set_option linter.unusedSimpArgs false
attribute [local go_sem] Oper.semAt_some
section
variable {F : Fence} {n : Nat} {P : Program} {ops : Array Oper} {Q : Exit → Act → World → Prop} {md : Region.Mode}
theorem region_any' {id : Nat} {a : Act} {w : World} (hm : P.follows .mixedOrders = true) (h : wpAnyIn F n P .any ops Q ops.size (Array.replicate ops.size false) a w.drew) : (Code.region id ops true).wpIn F n P Q a w := wpIn_region_any hm h
theorem with_fin {fuel : Nat} {L : Array Bool} {a : Act} {w : World} (m : Nat) (L' : Array Bool) (a' : Act) (fin : wpAnyIn F n P md ops Q m L' a' w) (h : wpAnyIn F n P md ops Q m L' a' w → wpAnyIn F n P md ops Q fuel L a w) : wpAnyIn F n P md ops Q fuel L a w := h fin
theorem take_in (i : Nat) (N : Option Tmp) (L' : Array Bool) {oi : Oper} {v : Value} {fuel : Nat} {L : Array Bool} {a a' : Act} {w : World} (hro : F.round = none) (hi : ops[i]? = some oi) (hN : oi.dst = N) (hL : L.setIfInBounds i true = L') (ha : a.put N v = a')
    (hs : Region.noSelect ops = true) (hf : Region.free md ops L i = true) (hr : (Region.ready md ops L).contains i = true)
    (hQ : ∀ c a w v, Q (.panic c) (a.put N v) w → Q (.panic c) a w) (hy : YieldsFenced P ops oi v a)
    (h : wpAnyIn F n P md ops Q fuel L' a' w) : wpAnyIn F n P md ops Q (fuel + 1) L a w := by
  subst hL
  subst ha
  subst hN
  exact wpAnyIn_take hro hi hs hf hr (fun c a w => hQ c a w v) hy h
theorem two_in (i j : Nat) (Li Lj : Array Bool) {oi oj : Oper} {fuel : Nat} {L : Array Bool} {a : Act} {w : World} (hi : ops[i]? = some oi) (hj : ops[j]? = some oj) (hLi : L.setIfInBounds i true = Li) (hLj : L.setIfInBounds j true = Lj) (hr : Region.ready md ops L = [i, j])
    (h : ∀ K' : Act → World → Prop, Shut (∀ a a' w, a = a' → wpAnyIn F n P md ops Q fuel Li a' w → K' a w) → if Region.wanted oi (yielded ops a.tmps) = true then Oper.wpIn F n P oi a w K' Q else (∀ f, oi.about P w a.eval = some f → F.fn f) ∧ K' (a.put oi.dst undef) w)
    (h2 : ∀ K' : Act → World → Prop, Shut (∀ a a' w, a = a' → wpAnyIn F n P md ops Q fuel Lj a' w → K' a w) → if Region.wanted oj (yielded ops a.tmps) = true then Oper.wpIn F n P oj a w K' Q else (∀ f, oj.about P w a.eval = some f → F.fn f) ∧ K' (a.put oj.dst undef) w) : wpAnyIn F n P md ops Q (fuel + 1) L a w := by
  subst hLi
  subst hLj
  refine wpAnyIn_ready hr (by simp) (AllReadyIn.cons hi (fun K hK => h K (fun a a' w e k => ?_)) (AllReadyIn.cons hj (fun K hK => h2 K (fun a a' w e k => ?_)) AllReadyIn.nil))
  · subst e; exact hK a w k
  · subst e; exact hK a w k
theorem one_in (i : Nat) (Li : Array Bool) {oi : Oper} {fuel : Nat} {L : Array Bool} {a : Act} {w : World} (hi : ops[i]? = some oi) (hLi : L.setIfInBounds i true = Li) (hr : Region.ready md ops L = [i])
    (h : ∀ K' : Act → World → Prop, Shut (∀ a a' w, a = a' → wpAnyIn F n P md ops Q fuel Li a' w → K' a w) → if Region.wanted oi (yielded ops a.tmps) = true then Oper.wpIn F n P oi a w K' Q else (∀ f, oi.about P w a.eval = some f → F.fn f) ∧ K' (a.put oi.dst undef) w) : wpAnyIn F n P md ops Q (fuel + 1) L a w := by
  subst hLi
  refine wpAnyIn_ready hr (by simp) (AllReadyIn.cons hi (fun K hK => h K (fun a a' w e k => ?_)) AllReadyIn.nil)
  subst e
  exact hK a w k
end
/-- These three blocks lie as they lay. -/
def Keep3 (a b c : Nat) (A B : World) : Prop := ∀ cs t, (Blk A a cs t → Blk B a cs t) ∧ (Blk A b cs t → Blk B b cs t) ∧ (Blk A c cs t → Blk B c cs t)
theorem Keep3.of_lay {a b c : Nat} {A B : World} (h : AsLay A B) : Keep3 a b c A B := fun cs t => ⟨h _ _ _, h _ _ _, h _ _ _⟩
theorem Keep3.trans {a b c : Nat} {A B C : World} (h : Keep3 a b c A B) (k : Keep3 a b c B C) : Keep3 a b c A C := fun cs t => ⟨fun x => (k cs t).1 ((h cs t).1 x), fun x => (k cs t).2.1 ((h cs t).2.1 x), fun x => (k cs t).2.2 ((h cs t).2.2 x)⟩
def chainC (i : CI) : Array Value := #[.slice (some ⟨i.la, 0, none⟩) 2 2, .int .i64 5, .int .i64 0, .bool false, .int .i64 0]
def pairA (i : CI) : Array Value := #[.int .i64 1, .agg #[.pointer (some ⟨i.p0, 0, none⟩), .pointer (some ⟨i.p1, 0, none⟩)]]
set_option maxHeartbeats 8000000 in
set_option maxRecDepth 100000 in
theorem pairs1 (n : Nat) (hn : 1 ≤ n) (i : CI) (bx l : Nat) (J Jx : List Unit → World → Prop) (W : World) (hbx : Blk W bx #[.pointer (some ⟨i.h, 0, none⟩)] 137) (hch : Blk W i.h (chainC i) 181) (hla : Blk W i.la #[.pointer (some ⟨i.p0, 0, none⟩), .pointer (some ⟨i.p1, 0, none⟩)] 176) (hJ : AbidesFrom W.heap.size J)
    (hY : ∀ pre x W1, J pre W1 → pre.length < 1 → YieldAt Fence.wide (n - 1) Tryz.prog l (pairA i) W1 fun e W' => (e = .returned (.bool true) ∧ J (pre ++ [x]) W' ∧ Keep3 bx i.h i.la W1 W') ∨ (e = .returned (.bool false) ∧ Jx (pre ++ [x]) W'))
    (h0 : J [] W) : CallsIn Fence.wide n Tryz.prog 185 #[.func (.yield l) #[] #[], .pointer (some ⟨bx, 0, none⟩)] W fun e W' => (∃ v, e = .returned v) ∧ ((∃ ys, ys = [()] ∧ J ys W') ∨ (∃ pre, True ∧ Jx pre W')) := by
  refine callsIn_wide.2 ?_
  have kw0 : IntKind.i64.wrap 0 = 0 := rfl
  have kt0 : Int.toNat 0 = 0 := rfl
  have b0 := blk_cell hbx 0
  have a0 := blk_cell hch 0
  have l0 := blk_cell hla 0
  have l1 := blk_cell hla 1
  unfold chainC at a0
  simp only [List.getElem?_toArray, List.getElem?_cons_zero, List.getElem?_cons_succ] at b0 a0 l0 l1
  have h0' : J [] W.drew := hJ [] W W.drew none h0 (grown_of_below ((Below.refl _ W).drew)) (fun r e => by cases e)
  obtain ⟨fn, tmps, assign, body, hy, hR⟩ := hY [] () W.drew h0' (by decide)
  unfold pairA at hy
  have HBX := Lib.hid hbx
  have HCH := Lib.hid hch
  have HJ := Lib.hid hJ
  have HR := Lib.hid hR
  clear hJ h0 h0' hR hbx hch hY
  go_enter Tryz.func185, Tryz.ntmps185
  go_wp2_with fail
  refine wp_loop_rounds 2 ?_
  rw [rounds_succ]
  go_wp2_with fail
  refine (wpIn_wide (n := n)).1 ?_
  refine region_any' (by kernel_rfl) ?_
  refine with_fin 2 #[true, true, true, true, true, true, true, true, true, true, true, true, true, true, true, true, true, true, false, false] { tmps := #[.func (.yield l) #[] #[], .pointer (some ⟨bx, 0, none⟩), undef, .int .i64 1, .int .i64 1, .pointer (some ⟨i.h, 0, none⟩), .pointer (some ⟨i.h, 0, none⟩), .pointer (some ⟨i.h, 0, none⟩), .slice (some ⟨i.la, 0, none⟩) 2 2, .int .i64 2, .bool true, undef, undef, .func (.yield l) #[] #[], .int .i64 1, .pointer (some ⟨i.h, 0, none⟩), .pointer (some ⟨i.h, 0, none⟩), .pointer (some ⟨i.h, 0, none⟩), .slice (some ⟨i.la, 0, none⟩) 2 2, .int .i64 1, .int .i64 0, .pointer (some ⟨i.la, 0, none⟩), .pointer (some ⟨i.p0, 0, none⟩), .pointer (some ⟨i.h, 0, none⟩), .pointer (some ⟨i.h, 0, none⟩), .pointer (some ⟨i.h, 0, none⟩), .slice (some ⟨i.la, 0, none⟩) 2 2, .int .i64 1, .pointer (some ⟨i.la, 1, none⟩), .pointer (some ⟨i.p1, 0, none⟩), .agg #[.pointer (some ⟨i.p0, 0, none⟩), .pointer (some ⟨i.p1, 0, none⟩)], undef, undef], defers := [] } ?_ (fun H33 => ?_)
  rotate_left
  refine with_fin 4 #[true, true, true, true, true, true, true, true, true, true, true, true, true, true, true, true, false, false, false, false] { tmps := #[.func (.yield l) #[] #[], .pointer (some ⟨bx, 0, none⟩), undef, .int .i64 1, .int .i64 1, .pointer (some ⟨i.h, 0, none⟩), .pointer (some ⟨i.h, 0, none⟩), .pointer (some ⟨i.h, 0, none⟩), .slice (some ⟨i.la, 0, none⟩) 2 2, .int .i64 2, .bool true, undef, undef, .func (.yield l) #[] #[], .int .i64 1, .pointer (some ⟨i.h, 0, none⟩), .pointer (some ⟨i.h, 0, none⟩), .pointer (some ⟨i.h, 0, none⟩), .slice (some ⟨i.la, 0, none⟩) 2 2, .int .i64 1, .int .i64 0, .pointer (some ⟨i.la, 0, none⟩), .pointer (some ⟨i.p0, 0, none⟩), .pointer (some ⟨i.h, 0, none⟩), .pointer (some ⟨i.h, 0, none⟩), .pointer (some ⟨i.h, 0, none⟩), .slice (some ⟨i.la, 0, none⟩) 2 2, .int .i64 1, .pointer (some ⟨i.la, 1, none⟩), undef, undef, undef, undef], defers := [] } ?_ (fun H32 => ?_)
  · refine one_in 16 #[true, true, true, true, true, true, true, true, true, true, true, true, true, true, true, true, true, false, false, false] rfl rfl (by kernel_rfl) (fun K hK => ?_)
    go_simp
    refine hK.out _ ({ tmps := #[.func (.yield l) #[] #[], .pointer (some ⟨bx, 0, none⟩), undef, .int .i64 1, .int .i64 1, .pointer (some ⟨i.h, 0, none⟩), .pointer (some ⟨i.h, 0, none⟩), .pointer (some ⟨i.h, 0, none⟩), .slice (some ⟨i.la, 0, none⟩) 2 2, .int .i64 2, .bool true, undef, undef, .func (.yield l) #[] #[], .int .i64 1, .pointer (some ⟨i.h, 0, none⟩), .pointer (some ⟨i.h, 0, none⟩), .pointer (some ⟨i.h, 0, none⟩), .slice (some ⟨i.la, 0, none⟩) 2 2, .int .i64 1, .int .i64 0, .pointer (some ⟨i.la, 0, none⟩), .pointer (some ⟨i.p0, 0, none⟩), .pointer (some ⟨i.h, 0, none⟩), .pointer (some ⟨i.h, 0, none⟩), .pointer (some ⟨i.h, 0, none⟩), .slice (some ⟨i.la, 0, none⟩) 2 2, .int .i64 1, .pointer (some ⟨i.la, 1, none⟩), .pointer (some ⟨i.p1, 0, none⟩), undef, undef, undef], defers := [] }) _ ?_ ?_
    · first | rfl | simp only [Act.put, List.setIfInBounds_toArray, List.set_cons_zero, List.set_cons_succ]
    refine take_in 17 (some 30) #[true, true, true, true, true, true, true, true, true, true, true, true, true, true, true, true, true, true, false, false] (v := .agg #[.pointer (some ⟨i.p0, 0, none⟩), .pointer (some ⟨i.p1, 0, none⟩)]) (a' := { tmps := #[.func (.yield l) #[] #[], .pointer (some ⟨bx, 0, none⟩), undef, .int .i64 1, .int .i64 1, .pointer (some ⟨i.h, 0, none⟩), .pointer (some ⟨i.h, 0, none⟩), .pointer (some ⟨i.h, 0, none⟩), .slice (some ⟨i.la, 0, none⟩) 2 2, .int .i64 2, .bool true, undef, undef, .func (.yield l) #[] #[], .int .i64 1, .pointer (some ⟨i.h, 0, none⟩), .pointer (some ⟨i.h, 0, none⟩), .pointer (some ⟨i.h, 0, none⟩), .slice (some ⟨i.la, 0, none⟩) 2 2, .int .i64 1, .int .i64 0, .pointer (some ⟨i.la, 0, none⟩), .pointer (some ⟨i.p0, 0, none⟩), .pointer (some ⟨i.h, 0, none⟩), .pointer (some ⟨i.h, 0, none⟩), .pointer (some ⟨i.h, 0, none⟩), .slice (some ⟨i.la, 0, none⟩) 2 2, .int .i64 1, .pointer (some ⟨i.la, 1, none⟩), .pointer (some ⟨i.p1, 0, none⟩), .agg #[.pointer (some ⟨i.p0, 0, none⟩), .pointer (some ⟨i.p1, 0, none⟩)], undef, undef], defers := [] }) rfl rfl rfl rfl rfl (by kernel_rfl) (by kernel_rfl) (by kernel_rfl) (fun _ _ _ _ h => h) ⟨.inl ⟨by rfl, fun w => by go_simp⟩, fun w => rfl⟩ ?_
    exact H33
  refine with_fin 4 #[true, true, true, true, true, true, true, true, true, false, true, true, true, true, true, true, true, false, false, false] { tmps := #[.func (.yield l) #[] #[], .pointer (some ⟨bx, 0, none⟩), undef, .int .i64 1, .int .i64 1, .pointer (some ⟨i.h, 0, none⟩), .pointer (some ⟨i.h, 0, none⟩), .pointer (some ⟨i.h, 0, none⟩), .slice (some ⟨i.la, 0, none⟩) 2 2, .int .i64 2, .bool true, undef, undef, .func (.yield l) #[] #[], .int .i64 1, .pointer (some ⟨i.h, 0, none⟩), .pointer (some ⟨i.h, 0, none⟩), .pointer (some ⟨i.h, 0, none⟩), .slice (some ⟨i.la, 0, none⟩) 2 2, .int .i64 1, .int .i64 0, .pointer (some ⟨i.la, 0, none⟩), undef, .pointer (some ⟨i.h, 0, none⟩), .pointer (some ⟨i.h, 0, none⟩), .pointer (some ⟨i.h, 0, none⟩), .slice (some ⟨i.la, 0, none⟩) 2 2, .int .i64 1, .pointer (some ⟨i.la, 1, none⟩), .pointer (some ⟨i.p1, 0, none⟩), undef, undef, undef], defers := [] } ?_ (fun H23 => ?_)
  · refine one_in 9 #[true, true, true, true, true, true, true, true, true, true, true, true, true, true, true, true, true, false, false, false] rfl rfl (by kernel_rfl) (fun K hK => ?_)
    go_simp
    refine hK.out _ ({ tmps := #[.func (.yield l) #[] #[], .pointer (some ⟨bx, 0, none⟩), undef, .int .i64 1, .int .i64 1, .pointer (some ⟨i.h, 0, none⟩), .pointer (some ⟨i.h, 0, none⟩), .pointer (some ⟨i.h, 0, none⟩), .slice (some ⟨i.la, 0, none⟩) 2 2, .int .i64 2, .bool true, undef, undef, .func (.yield l) #[] #[], .int .i64 1, .pointer (some ⟨i.h, 0, none⟩), .pointer (some ⟨i.h, 0, none⟩), .pointer (some ⟨i.h, 0, none⟩), .slice (some ⟨i.la, 0, none⟩) 2 2, .int .i64 1, .int .i64 0, .pointer (some ⟨i.la, 0, none⟩), .pointer (some ⟨i.p0, 0, none⟩), .pointer (some ⟨i.h, 0, none⟩), .pointer (some ⟨i.h, 0, none⟩), .pointer (some ⟨i.h, 0, none⟩), .slice (some ⟨i.la, 0, none⟩) 2 2, .int .i64 1, .pointer (some ⟨i.la, 1, none⟩), .pointer (some ⟨i.p1, 0, none⟩), undef, undef, undef], defers := [] }) _ ?_ ?_
    · first | rfl | simp only [Act.put, List.setIfInBounds_toArray, List.set_cons_zero, List.set_cons_succ]
    refine take_in 17 (some 30) #[true, true, true, true, true, true, true, true, true, true, true, true, true, true, true, true, true, true, false, false] (v := .agg #[.pointer (some ⟨i.p0, 0, none⟩), .pointer (some ⟨i.p1, 0, none⟩)]) (a' := { tmps := #[.func (.yield l) #[] #[], .pointer (some ⟨bx, 0, none⟩), undef, .int .i64 1, .int .i64 1, .pointer (some ⟨i.h, 0, none⟩), .pointer (some ⟨i.h, 0, none⟩), .pointer (some ⟨i.h, 0, none⟩), .slice (some ⟨i.la, 0, none⟩) 2 2, .int .i64 2, .bool true, undef, undef, .func (.yield l) #[] #[], .int .i64 1, .pointer (some ⟨i.h, 0, none⟩), .pointer (some ⟨i.h, 0, none⟩), .pointer (some ⟨i.h, 0, none⟩), .slice (some ⟨i.la, 0, none⟩) 2 2, .int .i64 1, .int .i64 0, .pointer (some ⟨i.la, 0, none⟩), .pointer (some ⟨i.p0, 0, none⟩), .pointer (some ⟨i.h, 0, none⟩), .pointer (some ⟨i.h, 0, none⟩), .pointer (some ⟨i.h, 0, none⟩), .slice (some ⟨i.la, 0, none⟩) 2 2, .int .i64 1, .pointer (some ⟨i.la, 1, none⟩), .pointer (some ⟨i.p1, 0, none⟩), .agg #[.pointer (some ⟨i.p0, 0, none⟩), .pointer (some ⟨i.p1, 0, none⟩)], undef, undef], defers := [] }) rfl rfl rfl rfl rfl (by kernel_rfl) (by kernel_rfl) (by kernel_rfl) (fun _ _ _ _ h => h) ⟨.inl ⟨by rfl, fun w => by go_simp⟩, fun w => rfl⟩ ?_
    exact H33
  refine with_fin 6 #[true, true, true, true, true, true, true, true, true, true, true, true, true, false, true, false, false, false, false, false] { tmps := #[.func (.yield l) #[] #[], .pointer (some ⟨bx, 0, none⟩), undef, .int .i64 1, .int .i64 1, .pointer (some ⟨i.h, 0, none⟩), .pointer (some ⟨i.h, 0, none⟩), .pointer (some ⟨i.h, 0, none⟩), .slice (some ⟨i.la, 0, none⟩) 2 2, .int .i64 2, .bool true, undef, undef, .func (.yield l) #[] #[], .int .i64 1, .pointer (some ⟨i.h, 0, none⟩), .pointer (some ⟨i.h, 0, none⟩), .pointer (some ⟨i.h, 0, none⟩), .slice (some ⟨i.la, 0, none⟩) 2 2, .int .i64 1, .int .i64 0, .pointer (some ⟨i.la, 0, none⟩), .pointer (some ⟨i.p0, 0, none⟩), .pointer (some ⟨i.h, 0, none⟩), .pointer (some ⟨i.h, 0, none⟩), .pointer (some ⟨i.h, 0, none⟩), undef, .int .i64 1, undef, undef, undef, undef, undef], defers := [] } ?_ (fun H31 => ?_)
  · refine one_in 13 #[true, true, true, true, true, true, true, true, true, true, true, true, true, true, true, false, false, false, false, false] rfl rfl (by kernel_rfl) (fun K hK => ?_)
    go_simp
    refine hK.out _ ({ tmps := #[.func (.yield l) #[] #[], .pointer (some ⟨bx, 0, none⟩), undef, .int .i64 1, .int .i64 1, .pointer (some ⟨i.h, 0, none⟩), .pointer (some ⟨i.h, 0, none⟩), .pointer (some ⟨i.h, 0, none⟩), .slice (some ⟨i.la, 0, none⟩) 2 2, .int .i64 2, .bool true, undef, undef, .func (.yield l) #[] #[], .int .i64 1, .pointer (some ⟨i.h, 0, none⟩), .pointer (some ⟨i.h, 0, none⟩), .pointer (some ⟨i.h, 0, none⟩), .slice (some ⟨i.la, 0, none⟩) 2 2, .int .i64 1, .int .i64 0, .pointer (some ⟨i.la, 0, none⟩), .pointer (some ⟨i.p0, 0, none⟩), .pointer (some ⟨i.h, 0, none⟩), .pointer (some ⟨i.h, 0, none⟩), .pointer (some ⟨i.h, 0, none⟩), .slice (some ⟨i.la, 0, none⟩) 2 2, .int .i64 1, undef, undef, undef, undef, undef], defers := [] }) _ ?_ ?_
    · first | rfl | simp only [Act.put, List.setIfInBounds_toArray, List.set_cons_zero, List.set_cons_succ]
    refine take_in 15 (some 28) #[true, true, true, true, true, true, true, true, true, true, true, true, true, true, true, true, false, false, false, false] (v := .pointer (some ⟨i.la, 1, none⟩)) (a' := { tmps := #[.func (.yield l) #[] #[], .pointer (some ⟨bx, 0, none⟩), undef, .int .i64 1, .int .i64 1, .pointer (some ⟨i.h, 0, none⟩), .pointer (some ⟨i.h, 0, none⟩), .pointer (some ⟨i.h, 0, none⟩), .slice (some ⟨i.la, 0, none⟩) 2 2, .int .i64 2, .bool true, undef, undef, .func (.yield l) #[] #[], .int .i64 1, .pointer (some ⟨i.h, 0, none⟩), .pointer (some ⟨i.h, 0, none⟩), .pointer (some ⟨i.h, 0, none⟩), .slice (some ⟨i.la, 0, none⟩) 2 2, .int .i64 1, .int .i64 0, .pointer (some ⟨i.la, 0, none⟩), .pointer (some ⟨i.p0, 0, none⟩), .pointer (some ⟨i.h, 0, none⟩), .pointer (some ⟨i.h, 0, none⟩), .pointer (some ⟨i.h, 0, none⟩), .slice (some ⟨i.la, 0, none⟩) 2 2, .int .i64 1, .pointer (some ⟨i.la, 1, none⟩), undef, undef, undef, undef], defers := [] }) rfl rfl rfl rfl rfl (by kernel_rfl) (by kernel_rfl) (by kernel_rfl) (fun _ _ _ _ h => h) ⟨.inl ⟨by rfl, fun w => by go_simp⟩, fun w => rfl⟩ ?_
    exact H32
  refine with_fin 5 #[true, true, true, true, true, true, true, true, true, false, true, true, true, true, true, true, false, false, false, false] { tmps := #[.func (.yield l) #[] #[], .pointer (some ⟨bx, 0, none⟩), undef, .int .i64 1, .int .i64 1, .pointer (some ⟨i.h, 0, none⟩), .pointer (some ⟨i.h, 0, none⟩), .pointer (some ⟨i.h, 0, none⟩), .slice (some ⟨i.la, 0, none⟩) 2 2, .int .i64 2, .bool true, undef, undef, .func (.yield l) #[] #[], .int .i64 1, .pointer (some ⟨i.h, 0, none⟩), .pointer (some ⟨i.h, 0, none⟩), .pointer (some ⟨i.h, 0, none⟩), .slice (some ⟨i.la, 0, none⟩) 2 2, .int .i64 1, .int .i64 0, .pointer (some ⟨i.la, 0, none⟩), undef, .pointer (some ⟨i.h, 0, none⟩), .pointer (some ⟨i.h, 0, none⟩), .pointer (some ⟨i.h, 0, none⟩), .slice (some ⟨i.la, 0, none⟩) 2 2, .int .i64 1, .pointer (some ⟨i.la, 1, none⟩), undef, undef, undef, undef], defers := [] } ?_ (fun H22 => ?_)
  · refine two_in 9 16 #[true, true, true, true, true, true, true, true, true, true, true, true, true, true, true, true, false, false, false, false] #[true, true, true, true, true, true, true, true, true, false, true, true, true, true, true, true, true, false, false, false] rfl rfl rfl rfl (by kernel_rfl) (fun K hK => ?_) (fun K hK => ?_)
    · go_simp
      refine hK.out _ ({ tmps := #[.func (.yield l) #[] #[], .pointer (some ⟨bx, 0, none⟩), undef, .int .i64 1, .int .i64 1, .pointer (some ⟨i.h, 0, none⟩), .pointer (some ⟨i.h, 0, none⟩), .pointer (some ⟨i.h, 0, none⟩), .slice (some ⟨i.la, 0, none⟩) 2 2, .int .i64 2, .bool true, undef, undef, .func (.yield l) #[] #[], .int .i64 1, .pointer (some ⟨i.h, 0, none⟩), .pointer (some ⟨i.h, 0, none⟩), .pointer (some ⟨i.h, 0, none⟩), .slice (some ⟨i.la, 0, none⟩) 2 2, .int .i64 1, .int .i64 0, .pointer (some ⟨i.la, 0, none⟩), .pointer (some ⟨i.p0, 0, none⟩), .pointer (some ⟨i.h, 0, none⟩), .pointer (some ⟨i.h, 0, none⟩), .pointer (some ⟨i.h, 0, none⟩), .slice (some ⟨i.la, 0, none⟩) 2 2, .int .i64 1, .pointer (some ⟨i.la, 1, none⟩), undef, undef, undef, undef], defers := [] }) _ ?_ ?_
      · first | rfl | simp only [Act.put, List.setIfInBounds_toArray, List.set_cons_zero, List.set_cons_succ]
      exact H32
    · go_simp
      refine hK.out _ ({ tmps := #[.func (.yield l) #[] #[], .pointer (some ⟨bx, 0, none⟩), undef, .int .i64 1, .int .i64 1, .pointer (some ⟨i.h, 0, none⟩), .pointer (some ⟨i.h, 0, none⟩), .pointer (some ⟨i.h, 0, none⟩), .slice (some ⟨i.la, 0, none⟩) 2 2, .int .i64 2, .bool true, undef, undef, .func (.yield l) #[] #[], .int .i64 1, .pointer (some ⟨i.h, 0, none⟩), .pointer (some ⟨i.h, 0, none⟩), .pointer (some ⟨i.h, 0, none⟩), .slice (some ⟨i.la, 0, none⟩) 2 2, .int .i64 1, .int .i64 0, .pointer (some ⟨i.la, 0, none⟩), undef, .pointer (some ⟨i.h, 0, none⟩), .pointer (some ⟨i.h, 0, none⟩), .pointer (some ⟨i.h, 0, none⟩), .slice (some ⟨i.la, 0, none⟩) 2 2, .int .i64 1, .pointer (some ⟨i.la, 1, none⟩), .pointer (some ⟨i.p1, 0, none⟩), undef, undef, undef], defers := [] }) _ ?_ ?_
      · first | rfl | simp only [Act.put, List.setIfInBounds_toArray, List.set_cons_zero, List.set_cons_succ]
      exact H23
  refine with_fin 6 #[true, true, true, true, true, false, true, true, false, false, true, true, true, true, true, true, true, false, false, false] { tmps := #[.func (.yield l) #[] #[], .pointer (some ⟨bx, 0, none⟩), undef, .int .i64 1, .int .i64 1, .pointer (some ⟨i.h, 0, none⟩), .pointer (some ⟨i.h, 0, none⟩), .pointer (some ⟨i.h, 0, none⟩), .slice (some ⟨i.la, 0, none⟩) 2 2, .int .i64 2, .bool true, undef, undef, .func (.yield l) #[] #[], .int .i64 1, .pointer (some ⟨i.h, 0, none⟩), .pointer (some ⟨i.h, 0, none⟩), .pointer (some ⟨i.h, 0, none⟩), undef, .int .i64 1, .int .i64 0, undef, undef, .pointer (some ⟨i.h, 0, none⟩), .pointer (some ⟨i.h, 0, none⟩), .pointer (some ⟨i.h, 0, none⟩), .slice (some ⟨i.la, 0, none⟩) 2 2, .int .i64 1, .pointer (some ⟨i.la, 1, none⟩), .pointer (some ⟨i.p1, 0, none⟩), undef, undef, undef], defers := [] } ?_ (fun H13 => ?_)
  · refine one_in 5 #[true, true, true, true, true, true, true, true, false, false, true, true, true, true, true, true, true, false, false, false] rfl rfl (by kernel_rfl) (fun K hK => ?_)
    go_simp
    refine hK.out _ ({ tmps := #[.func (.yield l) #[] #[], .pointer (some ⟨bx, 0, none⟩), undef, .int .i64 1, .int .i64 1, .pointer (some ⟨i.h, 0, none⟩), .pointer (some ⟨i.h, 0, none⟩), .pointer (some ⟨i.h, 0, none⟩), .slice (some ⟨i.la, 0, none⟩) 2 2, .int .i64 2, .bool true, undef, undef, .func (.yield l) #[] #[], .int .i64 1, .pointer (some ⟨i.h, 0, none⟩), .pointer (some ⟨i.h, 0, none⟩), .pointer (some ⟨i.h, 0, none⟩), .slice (some ⟨i.la, 0, none⟩) 2 2, .int .i64 1, .int .i64 0, undef, undef, .pointer (some ⟨i.h, 0, none⟩), .pointer (some ⟨i.h, 0, none⟩), .pointer (some ⟨i.h, 0, none⟩), .slice (some ⟨i.la, 0, none⟩) 2 2, .int .i64 1, .pointer (some ⟨i.la, 1, none⟩), .pointer (some ⟨i.p1, 0, none⟩), undef, undef, undef], defers := [] }) _ ?_ ?_
    · first | rfl | simp only [Act.put, List.setIfInBounds_toArray, List.set_cons_zero, List.set_cons_succ]
    refine take_in 8 (some 21) #[true, true, true, true, true, true, true, true, true, false, true, true, true, true, true, true, true, false, false, false] (v := .pointer (some ⟨i.la, 0, none⟩)) (a' := { tmps := #[.func (.yield l) #[] #[], .pointer (some ⟨bx, 0, none⟩), undef, .int .i64 1, .int .i64 1, .pointer (some ⟨i.h, 0, none⟩), .pointer (some ⟨i.h, 0, none⟩), .pointer (some ⟨i.h, 0, none⟩), .slice (some ⟨i.la, 0, none⟩) 2 2, .int .i64 2, .bool true, undef, undef, .func (.yield l) #[] #[], .int .i64 1, .pointer (some ⟨i.h, 0, none⟩), .pointer (some ⟨i.h, 0, none⟩), .pointer (some ⟨i.h, 0, none⟩), .slice (some ⟨i.la, 0, none⟩) 2 2, .int .i64 1, .int .i64 0, .pointer (some ⟨i.la, 0, none⟩), undef, .pointer (some ⟨i.h, 0, none⟩), .pointer (some ⟨i.h, 0, none⟩), .pointer (some ⟨i.h, 0, none⟩), .slice (some ⟨i.la, 0, none⟩) 2 2, .int .i64 1, .pointer (some ⟨i.la, 1, none⟩), .pointer (some ⟨i.p1, 0, none⟩), undef, undef, undef], defers := [] }) rfl rfl rfl rfl rfl (by kernel_rfl) (by kernel_rfl) (by kernel_rfl) (fun _ _ _ _ h => h) ⟨.inl ⟨by rfl, fun w => by go_simp⟩, fun w => rfl⟩ ?_
    exact H23
  refine with_fin 9 #[true, true, true, true, true, true, true, true, true, true, false, false, false, false, true, false, false, false, false, false] { tmps := #[.func (.yield l) #[] #[], .pointer (some ⟨bx, 0, none⟩), undef, .int .i64 1, .int .i64 1, .pointer (some ⟨i.h, 0, none⟩), .pointer (some ⟨i.h, 0, none⟩), .pointer (some ⟨i.h, 0, none⟩), .slice (some ⟨i.la, 0, none⟩) 2 2, .int .i64 2, .bool true, undef, undef, .func (.yield l) #[] #[], .int .i64 1, .pointer (some ⟨i.h, 0, none⟩), .pointer (some ⟨i.h, 0, none⟩), .pointer (some ⟨i.h, 0, none⟩), .slice (some ⟨i.la, 0, none⟩) 2 2, .int .i64 1, .int .i64 0, .pointer (some ⟨i.la, 0, none⟩), .pointer (some ⟨i.p0, 0, none⟩), undef, undef, undef, undef, .int .i64 1, undef, undef, undef, undef, undef], defers := [] } ?_ (fun H30 => ?_)
  · refine one_in 10 #[true, true, true, true, true, true, true, true, true, true, true, false, false, false, true, false, false, false, false, false] rfl rfl (by kernel_rfl) (fun K hK => ?_)
    go_simp
    refine hK.out _ ({ tmps := #[.func (.yield l) #[] #[], .pointer (some ⟨bx, 0, none⟩), undef, .int .i64 1, .int .i64 1, .pointer (some ⟨i.h, 0, none⟩), .pointer (some ⟨i.h, 0, none⟩), .pointer (some ⟨i.h, 0, none⟩), .slice (some ⟨i.la, 0, none⟩) 2 2, .int .i64 2, .bool true, undef, undef, .func (.yield l) #[] #[], .int .i64 1, .pointer (some ⟨i.h, 0, none⟩), .pointer (some ⟨i.h, 0, none⟩), .pointer (some ⟨i.h, 0, none⟩), .slice (some ⟨i.la, 0, none⟩) 2 2, .int .i64 1, .int .i64 0, .pointer (some ⟨i.la, 0, none⟩), .pointer (some ⟨i.p0, 0, none⟩), .pointer (some ⟨i.h, 0, none⟩), undef, undef, undef, .int .i64 1, undef, undef, undef, undef, undef], defers := [] }) _ ?_ ?_
    · first | rfl | simp only [Act.put, List.setIfInBounds_toArray, List.set_cons_zero, List.set_cons_succ]
    refine take_in 11 (some 24) #[true, true, true, true, true, true, true, true, true, true, true, true, false, false, true, false, false, false, false, false] (v := .pointer (some ⟨i.h, 0, none⟩)) (a' := { tmps := #[.func (.yield l) #[] #[], .pointer (some ⟨bx, 0, none⟩), undef, .int .i64 1, .int .i64 1, .pointer (some ⟨i.h, 0, none⟩), .pointer (some ⟨i.h, 0, none⟩), .pointer (some ⟨i.h, 0, none⟩), .slice (some ⟨i.la, 0, none⟩) 2 2, .int .i64 2, .bool true, undef, undef, .func (.yield l) #[] #[], .int .i64 1, .pointer (some ⟨i.h, 0, none⟩), .pointer (some ⟨i.h, 0, none⟩), .pointer (some ⟨i.h, 0, none⟩), .slice (some ⟨i.la, 0, none⟩) 2 2, .int .i64 1, .int .i64 0, .pointer (some ⟨i.la, 0, none⟩), .pointer (some ⟨i.p0, 0, none⟩), .pointer (some ⟨i.h, 0, none⟩), .pointer (some ⟨i.h, 0, none⟩), undef, undef, .int .i64 1, undef, undef, undef, undef, undef], defers := [] }) rfl rfl rfl rfl rfl (by kernel_rfl) (by kernel_rfl) (by kernel_rfl) (fun _ _ _ _ h => h) ⟨.inl ⟨by rfl, fun w => by go_simp⟩, fun w => rfl⟩ ?_
    refine take_in 12 (some 25) #[true, true, true, true, true, true, true, true, true, true, true, true, true, false, true, false, false, false, false, false] (v := .pointer (some ⟨i.h, 0, none⟩)) (a' := { tmps := #[.func (.yield l) #[] #[], .pointer (some ⟨bx, 0, none⟩), undef, .int .i64 1, .int .i64 1, .pointer (some ⟨i.h, 0, none⟩), .pointer (some ⟨i.h, 0, none⟩), .pointer (some ⟨i.h, 0, none⟩), .slice (some ⟨i.la, 0, none⟩) 2 2, .int .i64 2, .bool true, undef, undef, .func (.yield l) #[] #[], .int .i64 1, .pointer (some ⟨i.h, 0, none⟩), .pointer (some ⟨i.h, 0, none⟩), .pointer (some ⟨i.h, 0, none⟩), .slice (some ⟨i.la, 0, none⟩) 2 2, .int .i64 1, .int .i64 0, .pointer (some ⟨i.la, 0, none⟩), .pointer (some ⟨i.p0, 0, none⟩), .pointer (some ⟨i.h, 0, none⟩), .pointer (some ⟨i.h, 0, none⟩), .pointer (some ⟨i.h, 0, none⟩), undef, .int .i64 1, undef, undef, undef, undef, undef], defers := [] }) rfl rfl rfl rfl rfl (by kernel_rfl) (by kernel_rfl) (by kernel_rfl) (fun _ _ _ _ h => h) ⟨.inl ⟨by rfl, fun w => by go_simp⟩, fun w => rfl⟩ ?_
    exact H31
  refine with_fin 7 #[true, true, true, true, true, true, true, true, true, false, true, true, true, false, true, false, false, false, false, false] { tmps := #[.func (.yield l) #[] #[], .pointer (some ⟨bx, 0, none⟩), undef, .int .i64 1, .int .i64 1, .pointer (some ⟨i.h, 0, none⟩), .pointer (some ⟨i.h, 0, none⟩), .pointer (some ⟨i.h, 0, none⟩), .slice (some ⟨i.la, 0, none⟩) 2 2, .int .i64 2, .bool true, undef, undef, .func (.yield l) #[] #[], .int .i64 1, .pointer (some ⟨i.h, 0, none⟩), .pointer (some ⟨i.h, 0, none⟩), .pointer (some ⟨i.h, 0, none⟩), .slice (some ⟨i.la, 0, none⟩) 2 2, .int .i64 1, .int .i64 0, .pointer (some ⟨i.la, 0, none⟩), undef, .pointer (some ⟨i.h, 0, none⟩), .pointer (some ⟨i.h, 0, none⟩), .pointer (some ⟨i.h, 0, none⟩), undef, .int .i64 1, undef, undef, undef, undef, undef], defers := [] } ?_ (fun H21 => ?_)
  · refine two_in 9 13 #[true, true, true, true, true, true, true, true, true, true, true, true, true, false, true, false, false, false, false, false] #[true, true, true, true, true, true, true, true, true, false, true, true, true, true, true, false, false, false, false, false] rfl rfl rfl rfl (by kernel_rfl) (fun K hK => ?_) (fun K hK => ?_)
    · go_simp
      refine hK.out _ ({ tmps := #[.func (.yield l) #[] #[], .pointer (some ⟨bx, 0, none⟩), undef, .int .i64 1, .int .i64 1, .pointer (some ⟨i.h, 0, none⟩), .pointer (some ⟨i.h, 0, none⟩), .pointer (some ⟨i.h, 0, none⟩), .slice (some ⟨i.la, 0, none⟩) 2 2, .int .i64 2, .bool true, undef, undef, .func (.yield l) #[] #[], .int .i64 1, .pointer (some ⟨i.h, 0, none⟩), .pointer (some ⟨i.h, 0, none⟩), .pointer (some ⟨i.h, 0, none⟩), .slice (some ⟨i.la, 0, none⟩) 2 2, .int .i64 1, .int .i64 0, .pointer (some ⟨i.la, 0, none⟩), .pointer (some ⟨i.p0, 0, none⟩), .pointer (some ⟨i.h, 0, none⟩), .pointer (some ⟨i.h, 0, none⟩), .pointer (some ⟨i.h, 0, none⟩), undef, .int .i64 1, undef, undef, undef, undef, undef], defers := [] }) _ ?_ ?_
      · first | rfl | simp only [Act.put, List.setIfInBounds_toArray, List.set_cons_zero, List.set_cons_succ]
      exact H31
    · go_simp
      refine hK.out _ ({ tmps := #[.func (.yield l) #[] #[], .pointer (some ⟨bx, 0, none⟩), undef, .int .i64 1, .int .i64 1, .pointer (some ⟨i.h, 0, none⟩), .pointer (some ⟨i.h, 0, none⟩), .pointer (some ⟨i.h, 0, none⟩), .slice (some ⟨i.la, 0, none⟩) 2 2, .int .i64 2, .bool true, undef, undef, .func (.yield l) #[] #[], .int .i64 1, .pointer (some ⟨i.h, 0, none⟩), .pointer (some ⟨i.h, 0, none⟩), .pointer (some ⟨i.h, 0, none⟩), .slice (some ⟨i.la, 0, none⟩) 2 2, .int .i64 1, .int .i64 0, .pointer (some ⟨i.la, 0, none⟩), undef, .pointer (some ⟨i.h, 0, none⟩), .pointer (some ⟨i.h, 0, none⟩), .pointer (some ⟨i.h, 0, none⟩), .slice (some ⟨i.la, 0, none⟩) 2 2, .int .i64 1, undef, undef, undef, undef, undef], defers := [] }) _ ?_ ?_
      · first | rfl | simp only [Act.put, List.setIfInBounds_toArray, List.set_cons_zero, List.set_cons_succ]
      refine take_in 15 (some 28) #[true, true, true, true, true, true, true, true, true, false, true, true, true, true, true, true, false, false, false, false] (v := .pointer (some ⟨i.la, 1, none⟩)) (a' := { tmps := #[.func (.yield l) #[] #[], .pointer (some ⟨bx, 0, none⟩), undef, .int .i64 1, .int .i64 1, .pointer (some ⟨i.h, 0, none⟩), .pointer (some ⟨i.h, 0, none⟩), .pointer (some ⟨i.h, 0, none⟩), .slice (some ⟨i.la, 0, none⟩) 2 2, .int .i64 2, .bool true, undef, undef, .func (.yield l) #[] #[], .int .i64 1, .pointer (some ⟨i.h, 0, none⟩), .pointer (some ⟨i.h, 0, none⟩), .pointer (some ⟨i.h, 0, none⟩), .slice (some ⟨i.la, 0, none⟩) 2 2, .int .i64 1, .int .i64 0, .pointer (some ⟨i.la, 0, none⟩), undef, .pointer (some ⟨i.h, 0, none⟩), .pointer (some ⟨i.h, 0, none⟩), .pointer (some ⟨i.h, 0, none⟩), .slice (some ⟨i.la, 0, none⟩) 2 2, .int .i64 1, .pointer (some ⟨i.la, 1, none⟩), undef, undef, undef, undef], defers := [] }) rfl rfl rfl rfl rfl (by kernel_rfl) (by kernel_rfl) (by kernel_rfl) (fun _ _ _ _ h => h) ⟨.inl ⟨by rfl, fun w => by go_simp⟩, fun w => rfl⟩ ?_
      exact H22
  refine with_fin 7 #[true, true, true, true, true, false, true, true, false, false, true, true, true, true, true, true, false, false, false, false] { tmps := #[.func (.yield l) #[] #[], .pointer (some ⟨bx, 0, none⟩), undef, .int .i64 1, .int .i64 1, .pointer (some ⟨i.h, 0, none⟩), .pointer (some ⟨i.h, 0, none⟩), .pointer (some ⟨i.h, 0, none⟩), .slice (some ⟨i.la, 0, none⟩) 2 2, .int .i64 2, .bool true, undef, undef, .func (.yield l) #[] #[], .int .i64 1, .pointer (some ⟨i.h, 0, none⟩), .pointer (some ⟨i.h, 0, none⟩), .pointer (some ⟨i.h, 0, none⟩), undef, .int .i64 1, .int .i64 0, undef, undef, .pointer (some ⟨i.h, 0, none⟩), .pointer (some ⟨i.h, 0, none⟩), .pointer (some ⟨i.h, 0, none⟩), .slice (some ⟨i.la, 0, none⟩) 2 2, .int .i64 1, .pointer (some ⟨i.la, 1, none⟩), undef, undef, undef, undef], defers := [] } ?_ (fun H12 => ?_)
  · refine two_in 5 16 #[true, true, true, true, true, true, true, true, false, false, true, true, true, true, true, true, false, false, false, false] #[true, true, true, true, true, false, true, true, false, false, true, true, true, true, true, true, true, false, false, false] rfl rfl rfl rfl (by kernel_rfl) (fun K hK => ?_) (fun K hK => ?_)
    · go_simp
      refine hK.out _ ({ tmps := #[.func (.yield l) #[] #[], .pointer (some ⟨bx, 0, none⟩), undef, .int .i64 1, .int .i64 1, .pointer (some ⟨i.h, 0, none⟩), .pointer (some ⟨i.h, 0, none⟩), .pointer (some ⟨i.h, 0, none⟩), .slice (some ⟨i.la, 0, none⟩) 2 2, .int .i64 2, .bool true, undef, undef, .func (.yield l) #[] #[], .int .i64 1, .pointer (some ⟨i.h, 0, none⟩), .pointer (some ⟨i.h, 0, none⟩), .pointer (some ⟨i.h, 0, none⟩), .slice (some ⟨i.la, 0, none⟩) 2 2, .int .i64 1, .int .i64 0, undef, undef, .pointer (some ⟨i.h, 0, none⟩), .pointer (some ⟨i.h, 0, none⟩), .pointer (some ⟨i.h, 0, none⟩), .slice (some ⟨i.la, 0, none⟩) 2 2, .int .i64 1, .pointer (some ⟨i.la, 1, none⟩), undef, undef, undef, undef], defers := [] }) _ ?_ ?_
      · first | rfl | simp only [Act.put, List.setIfInBounds_toArray, List.set_cons_zero, List.set_cons_succ]
      refine take_in 8 (some 21) #[true, true, true, true, true, true, true, true, true, false, true, true, true, true, true, true, false, false, false, false] (v := .pointer (some ⟨i.la, 0, none⟩)) (a' := { tmps := #[.func (.yield l) #[] #[], .pointer (some ⟨bx, 0, none⟩), undef, .int .i64 1, .int .i64 1, .pointer (some ⟨i.h, 0, none⟩), .pointer (some ⟨i.h, 0, none⟩), .pointer (some ⟨i.h, 0, none⟩), .slice (some ⟨i.la, 0, none⟩) 2 2, .int .i64 2, .bool true, undef, undef, .func (.yield l) #[] #[], .int .i64 1, .pointer (some ⟨i.h, 0, none⟩), .pointer (some ⟨i.h, 0, none⟩), .pointer (some ⟨i.h, 0, none⟩), .slice (some ⟨i.la, 0, none⟩) 2 2, .int .i64 1, .int .i64 0, .pointer (some ⟨i.la, 0, none⟩), undef, .pointer (some ⟨i.h, 0, none⟩), .pointer (some ⟨i.h, 0, none⟩), .pointer (some ⟨i.h, 0, none⟩), .slice (some ⟨i.la, 0, none⟩) 2 2, .int .i64 1, .pointer (some ⟨i.la, 1, none⟩), undef, undef, undef, undef], defers := [] }) rfl rfl rfl rfl rfl (by kernel_rfl) (by kernel_rfl) (by kernel_rfl) (fun _ _ _ _ h => h) ⟨.inl ⟨by rfl, fun w => by go_simp⟩, fun w => rfl⟩ ?_
      exact H22
    · go_simp
      refine hK.out _ ({ tmps := #[.func (.yield l) #[] #[], .pointer (some ⟨bx, 0, none⟩), undef, .int .i64 1, .int .i64 1, .pointer (some ⟨i.h, 0, none⟩), .pointer (some ⟨i.h, 0, none⟩), .pointer (some ⟨i.h, 0, none⟩), .slice (some ⟨i.la, 0, none⟩) 2 2, .int .i64 2, .bool true, undef, undef, .func (.yield l) #[] #[], .int .i64 1, .pointer (some ⟨i.h, 0, none⟩), .pointer (some ⟨i.h, 0, none⟩), .pointer (some ⟨i.h, 0, none⟩), undef, .int .i64 1, .int .i64 0, undef, undef, .pointer (some ⟨i.h, 0, none⟩), .pointer (some ⟨i.h, 0, none⟩), .pointer (some ⟨i.h, 0, none⟩), .slice (some ⟨i.la, 0, none⟩) 2 2, .int .i64 1, .pointer (some ⟨i.la, 1, none⟩), .pointer (some ⟨i.p1, 0, none⟩), undef, undef, undef], defers := [] }) _ ?_ ?_
      · first | rfl | simp only [Act.put, List.setIfInBounds_toArray, List.set_cons_zero, List.set_cons_succ]
      exact H13
  refine with_fin 9 #[true, true, false, false, false, false, true, true, false, false, true, true, true, true, true, true, true, false, false, false] { tmps := #[.func (.yield l) #[] #[], .pointer (some ⟨bx, 0, none⟩), undef, .int .i64 1, .int .i64 1, .pointer (some ⟨i.h, 0, none⟩), .pointer (some ⟨i.h, 0, none⟩), .pointer (some ⟨i.h, 0, none⟩), .slice (some ⟨i.la, 0, none⟩) 2 2, .int .i64 2, .bool true, undef, undef, .func (.yield l) #[] #[], .int .i64 1, undef, undef, undef, undef, .int .i64 1, .int .i64 0, undef, undef, .pointer (some ⟨i.h, 0, none⟩), .pointer (some ⟨i.h, 0, none⟩), .pointer (some ⟨i.h, 0, none⟩), .slice (some ⟨i.la, 0, none⟩) 2 2, .int .i64 1, .pointer (some ⟨i.la, 1, none⟩), .pointer (some ⟨i.p1, 0, none⟩), undef, undef, undef], defers := [] } ?_ (fun H03 => ?_)
  · refine one_in 2 #[true, true, true, false, false, false, true, true, false, false, true, true, true, true, true, true, true, false, false, false] rfl rfl (by kernel_rfl) (fun K hK => ?_)
    go_simp
    refine hK.out _ ({ tmps := #[.func (.yield l) #[] #[], .pointer (some ⟨bx, 0, none⟩), undef, .int .i64 1, .int .i64 1, .pointer (some ⟨i.h, 0, none⟩), .pointer (some ⟨i.h, 0, none⟩), .pointer (some ⟨i.h, 0, none⟩), .slice (some ⟨i.la, 0, none⟩) 2 2, .int .i64 2, .bool true, undef, undef, .func (.yield l) #[] #[], .int .i64 1, .pointer (some ⟨i.h, 0, none⟩), undef, undef, undef, .int .i64 1, .int .i64 0, undef, undef, .pointer (some ⟨i.h, 0, none⟩), .pointer (some ⟨i.h, 0, none⟩), .pointer (some ⟨i.h, 0, none⟩), .slice (some ⟨i.la, 0, none⟩) 2 2, .int .i64 1, .pointer (some ⟨i.la, 1, none⟩), .pointer (some ⟨i.p1, 0, none⟩), undef, undef, undef], defers := [] }) _ ?_ ?_
    · first | rfl | simp only [Act.put, List.setIfInBounds_toArray, List.set_cons_zero, List.set_cons_succ]
    refine take_in 3 (some 16) #[true, true, true, true, false, false, true, true, false, false, true, true, true, true, true, true, true, false, false, false] (v := .pointer (some ⟨i.h, 0, none⟩)) (a' := { tmps := #[.func (.yield l) #[] #[], .pointer (some ⟨bx, 0, none⟩), undef, .int .i64 1, .int .i64 1, .pointer (some ⟨i.h, 0, none⟩), .pointer (some ⟨i.h, 0, none⟩), .pointer (some ⟨i.h, 0, none⟩), .slice (some ⟨i.la, 0, none⟩) 2 2, .int .i64 2, .bool true, undef, undef, .func (.yield l) #[] #[], .int .i64 1, .pointer (some ⟨i.h, 0, none⟩), .pointer (some ⟨i.h, 0, none⟩), undef, undef, .int .i64 1, .int .i64 0, undef, undef, .pointer (some ⟨i.h, 0, none⟩), .pointer (some ⟨i.h, 0, none⟩), .pointer (some ⟨i.h, 0, none⟩), .slice (some ⟨i.la, 0, none⟩) 2 2, .int .i64 1, .pointer (some ⟨i.la, 1, none⟩), .pointer (some ⟨i.p1, 0, none⟩), undef, undef, undef], defers := [] }) rfl rfl rfl rfl rfl (by kernel_rfl) (by kernel_rfl) (by kernel_rfl) (fun _ _ _ _ h => h) ⟨.inl ⟨by rfl, fun w => by go_simp⟩, fun w => rfl⟩ ?_
    refine take_in 4 (some 17) #[true, true, true, true, true, false, true, true, false, false, true, true, true, true, true, true, true, false, false, false] (v := .pointer (some ⟨i.h, 0, none⟩)) (a' := { tmps := #[.func (.yield l) #[] #[], .pointer (some ⟨bx, 0, none⟩), undef, .int .i64 1, .int .i64 1, .pointer (some ⟨i.h, 0, none⟩), .pointer (some ⟨i.h, 0, none⟩), .pointer (some ⟨i.h, 0, none⟩), .slice (some ⟨i.la, 0, none⟩) 2 2, .int .i64 2, .bool true, undef, undef, .func (.yield l) #[] #[], .int .i64 1, .pointer (some ⟨i.h, 0, none⟩), .pointer (some ⟨i.h, 0, none⟩), .pointer (some ⟨i.h, 0, none⟩), undef, .int .i64 1, .int .i64 0, undef, undef, .pointer (some ⟨i.h, 0, none⟩), .pointer (some ⟨i.h, 0, none⟩), .pointer (some ⟨i.h, 0, none⟩), .slice (some ⟨i.la, 0, none⟩) 2 2, .int .i64 1, .pointer (some ⟨i.la, 1, none⟩), .pointer (some ⟨i.p1, 0, none⟩), undef, undef, undef], defers := [] }) rfl rfl rfl rfl rfl (by kernel_rfl) (by kernel_rfl) (by kernel_rfl) (fun _ _ _ _ h => h) ⟨.inl ⟨by rfl, fun w => by go_simp⟩, fun w => rfl⟩ ?_
    exact H13
  refine with_fin 10 #[true, true, true, true, true, true, true, true, true, false, false, false, false, false, true, false, false, false, false, false] { tmps := #[.func (.yield l) #[] #[], .pointer (some ⟨bx, 0, none⟩), undef, .int .i64 1, .int .i64 1, .pointer (some ⟨i.h, 0, none⟩), .pointer (some ⟨i.h, 0, none⟩), .pointer (some ⟨i.h, 0, none⟩), .slice (some ⟨i.la, 0, none⟩) 2 2, .int .i64 2, .bool true, undef, undef, .func (.yield l) #[] #[], .int .i64 1, .pointer (some ⟨i.h, 0, none⟩), .pointer (some ⟨i.h, 0, none⟩), .pointer (some ⟨i.h, 0, none⟩), .slice (some ⟨i.la, 0, none⟩) 2 2, .int .i64 1, .int .i64 0, .pointer (some ⟨i.la, 0, none⟩), undef, undef, undef, undef, undef, .int .i64 1, undef, undef, undef, undef, undef], defers := [] } ?_ (fun H20 => ?_)
  · refine two_in 9 10 #[true, true, true, true, true, true, true, true, true, true, false, false, false, false, true, false, false, false, false, false] #[true, true, true, true, true, true, true, true, true, false, true, false, false, false, true, false, false, false, false, false] rfl rfl rfl rfl (by kernel_rfl) (fun K hK => ?_) (fun K hK => ?_)
    · go_simp
      refine hK.out _ ({ tmps := #[.func (.yield l) #[] #[], .pointer (some ⟨bx, 0, none⟩), undef, .int .i64 1, .int .i64 1, .pointer (some ⟨i.h, 0, none⟩), .pointer (some ⟨i.h, 0, none⟩), .pointer (some ⟨i.h, 0, none⟩), .slice (some ⟨i.la, 0, none⟩) 2 2, .int .i64 2, .bool true, undef, undef, .func (.yield l) #[] #[], .int .i64 1, .pointer (some ⟨i.h, 0, none⟩), .pointer (some ⟨i.h, 0, none⟩), .pointer (some ⟨i.h, 0, none⟩), .slice (some ⟨i.la, 0, none⟩) 2 2, .int .i64 1, .int .i64 0, .pointer (some ⟨i.la, 0, none⟩), .pointer (some ⟨i.p0, 0, none⟩), undef, undef, undef, undef, .int .i64 1, undef, undef, undef, undef, undef], defers := [] }) _ ?_ ?_
      · first | rfl | simp only [Act.put, List.setIfInBounds_toArray, List.set_cons_zero, List.set_cons_succ]
      exact H30
    · go_simp
      refine hK.out _ ({ tmps := #[.func (.yield l) #[] #[], .pointer (some ⟨bx, 0, none⟩), undef, .int .i64 1, .int .i64 1, .pointer (some ⟨i.h, 0, none⟩), .pointer (some ⟨i.h, 0, none⟩), .pointer (some ⟨i.h, 0, none⟩), .slice (some ⟨i.la, 0, none⟩) 2 2, .int .i64 2, .bool true, undef, undef, .func (.yield l) #[] #[], .int .i64 1, .pointer (some ⟨i.h, 0, none⟩), .pointer (some ⟨i.h, 0, none⟩), .pointer (some ⟨i.h, 0, none⟩), .slice (some ⟨i.la, 0, none⟩) 2 2, .int .i64 1, .int .i64 0, .pointer (some ⟨i.la, 0, none⟩), undef, .pointer (some ⟨i.h, 0, none⟩), undef, undef, undef, .int .i64 1, undef, undef, undef, undef, undef], defers := [] }) _ ?_ ?_
      · first | rfl | simp only [Act.put, List.setIfInBounds_toArray, List.set_cons_zero, List.set_cons_succ]
      refine take_in 11 (some 24) #[true, true, true, true, true, true, true, true, true, false, true, true, false, false, true, false, false, false, false, false] (v := .pointer (some ⟨i.h, 0, none⟩)) (a' := { tmps := #[.func (.yield l) #[] #[], .pointer (some ⟨bx, 0, none⟩), undef, .int .i64 1, .int .i64 1, .pointer (some ⟨i.h, 0, none⟩), .pointer (some ⟨i.h, 0, none⟩), .pointer (some ⟨i.h, 0, none⟩), .slice (some ⟨i.la, 0, none⟩) 2 2, .int .i64 2, .bool true, undef, undef, .func (.yield l) #[] #[], .int .i64 1, .pointer (some ⟨i.h, 0, none⟩), .pointer (some ⟨i.h, 0, none⟩), .pointer (some ⟨i.h, 0, none⟩), .slice (some ⟨i.la, 0, none⟩) 2 2, .int .i64 1, .int .i64 0, .pointer (some ⟨i.la, 0, none⟩), undef, .pointer (some ⟨i.h, 0, none⟩), .pointer (some ⟨i.h, 0, none⟩), undef, undef, .int .i64 1, undef, undef, undef, undef, undef], defers := [] }) rfl rfl rfl rfl rfl (by kernel_rfl) (by kernel_rfl) (by kernel_rfl) (fun _ _ _ _ h => h) ⟨.inl ⟨by rfl, fun w => by go_simp⟩, fun w => rfl⟩ ?_
      refine take_in 12 (some 25) #[true, true, true, true, true, true, true, true, true, false, true, true, true, false, true, false, false, false, false, false] (v := .pointer (some ⟨i.h, 0, none⟩)) (a' := { tmps := #[.func (.yield l) #[] #[], .pointer (some ⟨bx, 0, none⟩), undef, .int .i64 1, .int .i64 1, .pointer (some ⟨i.h, 0, none⟩), .pointer (some ⟨i.h, 0, none⟩), .pointer (some ⟨i.h, 0, none⟩), .slice (some ⟨i.la, 0, none⟩) 2 2, .int .i64 2, .bool true, undef, undef, .func (.yield l) #[] #[], .int .i64 1, .pointer (some ⟨i.h, 0, none⟩), .pointer (some ⟨i.h, 0, none⟩), .pointer (some ⟨i.h, 0, none⟩), .slice (some ⟨i.la, 0, none⟩) 2 2, .int .i64 1, .int .i64 0, .pointer (some ⟨i.la, 0, none⟩), undef, .pointer (some ⟨i.h, 0, none⟩), .pointer (some ⟨i.h, 0, none⟩), .pointer (some ⟨i.h, 0, none⟩), undef, .int .i64 1, undef, undef, undef, undef, undef], defers := [] }) rfl rfl rfl rfl rfl (by kernel_rfl) (by kernel_rfl) (by kernel_rfl) (fun _ _ _ _ h => h) ⟨.inl ⟨by rfl, fun w => by go_simp⟩, fun w => rfl⟩ ?_
      exact H21
  refine with_fin 9 #[true, true, true, true, true, false, true, true, false, false, true, true, true, false, true, false, false, false, false, false] { tmps := #[.func (.yield l) #[] #[], .pointer (some ⟨bx, 0, none⟩), undef, .int .i64 1, .int .i64 1, .pointer (some ⟨i.h, 0, none⟩), .pointer (some ⟨i.h, 0, none⟩), .pointer (some ⟨i.h, 0, none⟩), .slice (some ⟨i.la, 0, none⟩) 2 2, .int .i64 2, .bool true, undef, undef, .func (.yield l) #[] #[], .int .i64 1, .pointer (some ⟨i.h, 0, none⟩), .pointer (some ⟨i.h, 0, none⟩), .pointer (some ⟨i.h, 0, none⟩), undef, .int .i64 1, .int .i64 0, undef, undef, .pointer (some ⟨i.h, 0, none⟩), .pointer (some ⟨i.h, 0, none⟩), .pointer (some ⟨i.h, 0, none⟩), undef, .int .i64 1, undef, undef, undef, undef, undef], defers := [] } ?_ (fun H11 => ?_)
  · refine two_in 5 13 #[true, true, true, true, true, true, true, true, false, false, true, true, true, false, true, false, false, false, false, false] #[true, true, true, true, true, false, true, true, false, false, true, true, true, true, true, false, false, false, false, false] rfl rfl rfl rfl (by kernel_rfl) (fun K hK => ?_) (fun K hK => ?_)
    · go_simp
      refine hK.out _ ({ tmps := #[.func (.yield l) #[] #[], .pointer (some ⟨bx, 0, none⟩), undef, .int .i64 1, .int .i64 1, .pointer (some ⟨i.h, 0, none⟩), .pointer (some ⟨i.h, 0, none⟩), .pointer (some ⟨i.h, 0, none⟩), .slice (some ⟨i.la, 0, none⟩) 2 2, .int .i64 2, .bool true, undef, undef, .func (.yield l) #[] #[], .int .i64 1, .pointer (some ⟨i.h, 0, none⟩), .pointer (some ⟨i.h, 0, none⟩), .pointer (some ⟨i.h, 0, none⟩), .slice (some ⟨i.la, 0, none⟩) 2 2, .int .i64 1, .int .i64 0, undef, undef, .pointer (some ⟨i.h, 0, none⟩), .pointer (some ⟨i.h, 0, none⟩), .pointer (some ⟨i.h, 0, none⟩), undef, .int .i64 1, undef, undef, undef, undef, undef], defers := [] }) _ ?_ ?_
      · first | rfl | simp only [Act.put, List.setIfInBounds_toArray, List.set_cons_zero, List.set_cons_succ]
      refine take_in 8 (some 21) #[true, true, true, true, true, true, true, true, true, false, true, true, true, false, true, false, false, false, false, false] (v := .pointer (some ⟨i.la, 0, none⟩)) (a' := { tmps := #[.func (.yield l) #[] #[], .pointer (some ⟨bx, 0, none⟩), undef, .int .i64 1, .int .i64 1, .pointer (some ⟨i.h, 0, none⟩), .pointer (some ⟨i.h, 0, none⟩), .pointer (some ⟨i.h, 0, none⟩), .slice (some ⟨i.la, 0, none⟩) 2 2, .int .i64 2, .bool true, undef, undef, .func (.yield l) #[] #[], .int .i64 1, .pointer (some ⟨i.h, 0, none⟩), .pointer (some ⟨i.h, 0, none⟩), .pointer (some ⟨i.h, 0, none⟩), .slice (some ⟨i.la, 0, none⟩) 2 2, .int .i64 1, .int .i64 0, .pointer (some ⟨i.la, 0, none⟩), undef, .pointer (some ⟨i.h, 0, none⟩), .pointer (some ⟨i.h, 0, none⟩), .pointer (some ⟨i.h, 0, none⟩), undef, .int .i64 1, undef, undef, undef, undef, undef], defers := [] }) rfl rfl rfl rfl rfl (by kernel_rfl) (by kernel_rfl) (by kernel_rfl) (fun _ _ _ _ h => h) ⟨.inl ⟨by rfl, fun w => by go_simp⟩, fun w => rfl⟩ ?_
      exact H21
    · go_simp
      refine hK.out _ ({ tmps := #[.func (.yield l) #[] #[], .pointer (some ⟨bx, 0, none⟩), undef, .int .i64 1, .int .i64 1, .pointer (some ⟨i.h, 0, none⟩), .pointer (some ⟨i.h, 0, none⟩), .pointer (some ⟨i.h, 0, none⟩), .slice (some ⟨i.la, 0, none⟩) 2 2, .int .i64 2, .bool true, undef, undef, .func (.yield l) #[] #[], .int .i64 1, .pointer (some ⟨i.h, 0, none⟩), .pointer (some ⟨i.h, 0, none⟩), .pointer (some ⟨i.h, 0, none⟩), undef, .int .i64 1, .int .i64 0, undef, undef, .pointer (some ⟨i.h, 0, none⟩), .pointer (some ⟨i.h, 0, none⟩), .pointer (some ⟨i.h, 0, none⟩), .slice (some ⟨i.la, 0, none⟩) 2 2, .int .i64 1, undef, undef, undef, undef, undef], defers := [] }) _ ?_ ?_
      · first | rfl | simp only [Act.put, List.setIfInBounds_toArray, List.set_cons_zero, List.set_cons_succ]
      refine take_in 15 (some 28) #[true, true, true, true, true, false, true, true, false, false, true, true, true, true, true, true, false, false, false, false] (v := .pointer (some ⟨i.la, 1, none⟩)) (a' := { tmps := #[.func (.yield l) #[] #[], .pointer (some ⟨bx, 0, none⟩), undef, .int .i64 1, .int .i64 1, .pointer (some ⟨i.h, 0, none⟩), .pointer (some ⟨i.h, 0, none⟩), .pointer (some ⟨i.h, 0, none⟩), .slice (some ⟨i.la, 0, none⟩) 2 2, .int .i64 2, .bool true, undef, undef, .func (.yield l) #[] #[], .int .i64 1, .pointer (some ⟨i.h, 0, none⟩), .pointer (some ⟨i.h, 0, none⟩), .pointer (some ⟨i.h, 0, none⟩), undef, .int .i64 1, .int .i64 0, undef, undef, .pointer (some ⟨i.h, 0, none⟩), .pointer (some ⟨i.h, 0, none⟩), .pointer (some ⟨i.h, 0, none⟩), .slice (some ⟨i.la, 0, none⟩) 2 2, .int .i64 1, .pointer (some ⟨i.la, 1, none⟩), undef, undef, undef, undef], defers := [] }) rfl rfl rfl rfl rfl (by kernel_rfl) (by kernel_rfl) (by kernel_rfl) (fun _ _ _ _ h => h) ⟨.inl ⟨by rfl, fun w => by go_simp⟩, fun w => rfl⟩ ?_
      exact H12
  refine with_fin 10 #[true, true, false, false, false, false, true, true, false, false, true, true, true, true, true, true, false, false, false, false] { tmps := #[.func (.yield l) #[] #[], .pointer (some ⟨bx, 0, none⟩), undef, .int .i64 1, .int .i64 1, .pointer (some ⟨i.h, 0, none⟩), .pointer (some ⟨i.h, 0, none⟩), .pointer (some ⟨i.h, 0, none⟩), .slice (some ⟨i.la, 0, none⟩) 2 2, .int .i64 2, .bool true, undef, undef, .func (.yield l) #[] #[], .int .i64 1, undef, undef, undef, undef, .int .i64 1, .int .i64 0, undef, undef, .pointer (some ⟨i.h, 0, none⟩), .pointer (some ⟨i.h, 0, none⟩), .pointer (some ⟨i.h, 0, none⟩), .slice (some ⟨i.la, 0, none⟩) 2 2, .int .i64 1, .pointer (some ⟨i.la, 1, none⟩), undef, undef, undef, undef], defers := [] } ?_ (fun H02 => ?_)
  · refine two_in 2 16 #[true, true, true, false, false, false, true, true, false, false, true, true, true, true, true, true, false, false, false, false] #[true, true, false, false, false, false, true, true, false, false, true, true, true, true, true, true, true, false, false, false] rfl rfl rfl rfl (by kernel_rfl) (fun K hK => ?_) (fun K hK => ?_)
    · go_simp
      refine hK.out _ ({ tmps := #[.func (.yield l) #[] #[], .pointer (some ⟨bx, 0, none⟩), undef, .int .i64 1, .int .i64 1, .pointer (some ⟨i.h, 0, none⟩), .pointer (some ⟨i.h, 0, none⟩), .pointer (some ⟨i.h, 0, none⟩), .slice (some ⟨i.la, 0, none⟩) 2 2, .int .i64 2, .bool true, undef, undef, .func (.yield l) #[] #[], .int .i64 1, .pointer (some ⟨i.h, 0, none⟩), undef, undef, undef, .int .i64 1, .int .i64 0, undef, undef, .pointer (some ⟨i.h, 0, none⟩), .pointer (some ⟨i.h, 0, none⟩), .pointer (some ⟨i.h, 0, none⟩), .slice (some ⟨i.la, 0, none⟩) 2 2, .int .i64 1, .pointer (some ⟨i.la, 1, none⟩), undef, undef, undef, undef], defers := [] }) _ ?_ ?_
      · first | rfl | simp only [Act.put, List.setIfInBounds_toArray, List.set_cons_zero, List.set_cons_succ]
      refine take_in 3 (some 16) #[true, true, true, true, false, false, true, true, false, false, true, true, true, true, true, true, false, false, false, false] (v := .pointer (some ⟨i.h, 0, none⟩)) (a' := { tmps := #[.func (.yield l) #[] #[], .pointer (some ⟨bx, 0, none⟩), undef, .int .i64 1, .int .i64 1, .pointer (some ⟨i.h, 0, none⟩), .pointer (some ⟨i.h, 0, none⟩), .pointer (some ⟨i.h, 0, none⟩), .slice (some ⟨i.la, 0, none⟩) 2 2, .int .i64 2, .bool true, undef, undef, .func (.yield l) #[] #[], .int .i64 1, .pointer (some ⟨i.h, 0, none⟩), .pointer (some ⟨i.h, 0, none⟩), undef, undef, .int .i64 1, .int .i64 0, undef, undef, .pointer (some ⟨i.h, 0, none⟩), .pointer (some ⟨i.h, 0, none⟩), .pointer (some ⟨i.h, 0, none⟩), .slice (some ⟨i.la, 0, none⟩) 2 2, .int .i64 1, .pointer (some ⟨i.la, 1, none⟩), undef, undef, undef, undef], defers := [] }) rfl rfl rfl rfl rfl (by kernel_rfl) (by kernel_rfl) (by kernel_rfl) (fun _ _ _ _ h => h) ⟨.inl ⟨by rfl, fun w => by go_simp⟩, fun w => rfl⟩ ?_
      refine take_in 4 (some 17) #[true, true, true, true, true, false, true, true, false, false, true, true, true, true, true, true, false, false, false, false] (v := .pointer (some ⟨i.h, 0, none⟩)) (a' := { tmps := #[.func (.yield l) #[] #[], .pointer (some ⟨bx, 0, none⟩), undef, .int .i64 1, .int .i64 1, .pointer (some ⟨i.h, 0, none⟩), .pointer (some ⟨i.h, 0, none⟩), .pointer (some ⟨i.h, 0, none⟩), .slice (some ⟨i.la, 0, none⟩) 2 2, .int .i64 2, .bool true, undef, undef, .func (.yield l) #[] #[], .int .i64 1, .pointer (some ⟨i.h, 0, none⟩), .pointer (some ⟨i.h, 0, none⟩), .pointer (some ⟨i.h, 0, none⟩), undef, .int .i64 1, .int .i64 0, undef, undef, .pointer (some ⟨i.h, 0, none⟩), .pointer (some ⟨i.h, 0, none⟩), .pointer (some ⟨i.h, 0, none⟩), .slice (some ⟨i.la, 0, none⟩) 2 2, .int .i64 1, .pointer (some ⟨i.la, 1, none⟩), undef, undef, undef, undef], defers := [] }) rfl rfl rfl rfl rfl (by kernel_rfl) (by kernel_rfl) (by kernel_rfl) (fun _ _ _ _ h => h) ⟨.inl ⟨by rfl, fun w => by go_simp⟩, fun w => rfl⟩ ?_
      exact H12
    · go_simp
      refine hK.out _ ({ tmps := #[.func (.yield l) #[] #[], .pointer (some ⟨bx, 0, none⟩), undef, .int .i64 1, .int .i64 1, .pointer (some ⟨i.h, 0, none⟩), .pointer (some ⟨i.h, 0, none⟩), .pointer (some ⟨i.h, 0, none⟩), .slice (some ⟨i.la, 0, none⟩) 2 2, .int .i64 2, .bool true, undef, undef, .func (.yield l) #[] #[], .int .i64 1, undef, undef, undef, undef, .int .i64 1, .int .i64 0, undef, undef, .pointer (some ⟨i.h, 0, none⟩), .pointer (some ⟨i.h, 0, none⟩), .pointer (some ⟨i.h, 0, none⟩), .slice (some ⟨i.la, 0, none⟩) 2 2, .int .i64 1, .pointer (some ⟨i.la, 1, none⟩), .pointer (some ⟨i.p1, 0, none⟩), undef, undef, undef], defers := [] }) _ ?_ ?_
      · first | rfl | simp only [Act.put, List.setIfInBounds_toArray, List.set_cons_zero, List.set_cons_succ]
      exact H03
  refine with_fin 12 #[true, true, true, true, true, false, true, true, false, false, false, false, false, false, true, false, false, false, false, false] { tmps := #[.func (.yield l) #[] #[], .pointer (some ⟨bx, 0, none⟩), undef, .int .i64 1, .int .i64 1, .pointer (some ⟨i.h, 0, none⟩), .pointer (some ⟨i.h, 0, none⟩), .pointer (some ⟨i.h, 0, none⟩), .slice (some ⟨i.la, 0, none⟩) 2 2, .int .i64 2, .bool true, undef, undef, .func (.yield l) #[] #[], .int .i64 1, .pointer (some ⟨i.h, 0, none⟩), .pointer (some ⟨i.h, 0, none⟩), .pointer (some ⟨i.h, 0, none⟩), undef, .int .i64 1, .int .i64 0, undef, undef, undef, undef, undef, undef, .int .i64 1, undef, undef, undef, undef, undef], defers := [] } ?_ (fun H10 => ?_)
  · refine two_in 5 10 #[true, true, true, true, true, true, true, true, false, false, false, false, false, false, true, false, false, false, false, false] #[true, true, true, true, true, false, true, true, false, false, true, false, false, false, true, false, false, false, false, false] rfl rfl rfl rfl (by kernel_rfl) (fun K hK => ?_) (fun K hK => ?_)
    · go_simp
      refine hK.out _ ({ tmps := #[.func (.yield l) #[] #[], .pointer (some ⟨bx, 0, none⟩), undef, .int .i64 1, .int .i64 1, .pointer (some ⟨i.h, 0, none⟩), .pointer (some ⟨i.h, 0, none⟩), .pointer (some ⟨i.h, 0, none⟩), .slice (some ⟨i.la, 0, none⟩) 2 2, .int .i64 2, .bool true, undef, undef, .func (.yield l) #[] #[], .int .i64 1, .pointer (some ⟨i.h, 0, none⟩), .pointer (some ⟨i.h, 0, none⟩), .pointer (some ⟨i.h, 0, none⟩), .slice (some ⟨i.la, 0, none⟩) 2 2, .int .i64 1, .int .i64 0, undef, undef, undef, undef, undef, undef, .int .i64 1, undef, undef, undef, undef, undef], defers := [] }) _ ?_ ?_
      · first | rfl | simp only [Act.put, List.setIfInBounds_toArray, List.set_cons_zero, List.set_cons_succ]
      refine take_in 8 (some 21) #[true, true, true, true, true, true, true, true, true, false, false, false, false, false, true, false, false, false, false, false] (v := .pointer (some ⟨i.la, 0, none⟩)) (a' := { tmps := #[.func (.yield l) #[] #[], .pointer (some ⟨bx, 0, none⟩), undef, .int .i64 1, .int .i64 1, .pointer (some ⟨i.h, 0, none⟩), .pointer (some ⟨i.h, 0, none⟩), .pointer (some ⟨i.h, 0, none⟩), .slice (some ⟨i.la, 0, none⟩) 2 2, .int .i64 2, .bool true, undef, undef, .func (.yield l) #[] #[], .int .i64 1, .pointer (some ⟨i.h, 0, none⟩), .pointer (some ⟨i.h, 0, none⟩), .pointer (some ⟨i.h, 0, none⟩), .slice (some ⟨i.la, 0, none⟩) 2 2, .int .i64 1, .int .i64 0, .pointer (some ⟨i.la, 0, none⟩), undef, undef, undef, undef, undef, .int .i64 1, undef, undef, undef, undef, undef], defers := [] }) rfl rfl rfl rfl rfl (by kernel_rfl) (by kernel_rfl) (by kernel_rfl) (fun _ _ _ _ h => h) ⟨.inl ⟨by rfl, fun w => by go_simp⟩, fun w => rfl⟩ ?_
      exact H20
    · go_simp
      refine hK.out _ ({ tmps := #[.func (.yield l) #[] #[], .pointer (some ⟨bx, 0, none⟩), undef, .int .i64 1, .int .i64 1, .pointer (some ⟨i.h, 0, none⟩), .pointer (some ⟨i.h, 0, none⟩), .pointer (some ⟨i.h, 0, none⟩), .slice (some ⟨i.la, 0, none⟩) 2 2, .int .i64 2, .bool true, undef, undef, .func (.yield l) #[] #[], .int .i64 1, .pointer (some ⟨i.h, 0, none⟩), .pointer (some ⟨i.h, 0, none⟩), .pointer (some ⟨i.h, 0, none⟩), undef, .int .i64 1, .int .i64 0, undef, undef, .pointer (some ⟨i.h, 0, none⟩), undef, undef, undef, .int .i64 1, undef, undef, undef, undef, undef], defers := [] }) _ ?_ ?_
      · first | rfl | simp only [Act.put, List.setIfInBounds_toArray, List.set_cons_zero, List.set_cons_succ]
      refine take_in 11 (some 24) #[true, true, true, true, true, false, true, true, false, false, true, true, false, false, true, false, false, false, false, false] (v := .pointer (some ⟨i.h, 0, none⟩)) (a' := { tmps := #[.func (.yield l) #[] #[], .pointer (some ⟨bx, 0, none⟩), undef, .int .i64 1, .int .i64 1, .pointer (some ⟨i.h, 0, none⟩), .pointer (some ⟨i.h, 0, none⟩), .pointer (some ⟨i.h, 0, none⟩), .slice (some ⟨i.la, 0, none⟩) 2 2, .int .i64 2, .bool true, undef, undef, .func (.yield l) #[] #[], .int .i64 1, .pointer (some ⟨i.h, 0, none⟩), .pointer (some ⟨i.h, 0, none⟩), .pointer (some ⟨i.h, 0, none⟩), undef, .int .i64 1, .int .i64 0, undef, undef, .pointer (some ⟨i.h, 0, none⟩), .pointer (some ⟨i.h, 0, none⟩), undef, undef, .int .i64 1, undef, undef, undef, undef, undef], defers := [] }) rfl rfl rfl rfl rfl (by kernel_rfl) (by kernel_rfl) (by kernel_rfl) (fun _ _ _ _ h => h) ⟨.inl ⟨by rfl, fun w => by go_simp⟩, fun w => rfl⟩ ?_
      refine take_in 12 (some 25) #[true, true, true, true, true, false, true, true, false, false, true, true, true, false, true, false, false, false, false, false] (v := .pointer (some ⟨i.h, 0, none⟩)) (a' := { tmps := #[.func (.yield l) #[] #[], .pointer (some ⟨bx, 0, none⟩), undef, .int .i64 1, .int .i64 1, .pointer (some ⟨i.h, 0, none⟩), .pointer (some ⟨i.h, 0, none⟩), .pointer (some ⟨i.h, 0, none⟩), .slice (some ⟨i.la, 0, none⟩) 2 2, .int .i64 2, .bool true, undef, undef, .func (.yield l) #[] #[], .int .i64 1, .pointer (some ⟨i.h, 0, none⟩), .pointer (some ⟨i.h, 0, none⟩), .pointer (some ⟨i.h, 0, none⟩), undef, .int .i64 1, .int .i64 0, undef, undef, .pointer (some ⟨i.h, 0, none⟩), .pointer (some ⟨i.h, 0, none⟩), .pointer (some ⟨i.h, 0, none⟩), undef, .int .i64 1, undef, undef, undef, undef, undef], defers := [] }) rfl rfl rfl rfl rfl (by kernel_rfl) (by kernel_rfl) (by kernel_rfl) (fun _ _ _ _ h => h) ⟨.inl ⟨by rfl, fun w => by go_simp⟩, fun w => rfl⟩ ?_
      exact H11
  refine with_fin 12 #[true, true, false, false, false, false, true, true, false, false, true, true, true, false, true, false, false, false, false, false] { tmps := #[.func (.yield l) #[] #[], .pointer (some ⟨bx, 0, none⟩), undef, .int .i64 1, .int .i64 1, .pointer (some ⟨i.h, 0, none⟩), .pointer (some ⟨i.h, 0, none⟩), .pointer (some ⟨i.h, 0, none⟩), .slice (some ⟨i.la, 0, none⟩) 2 2, .int .i64 2, .bool true, undef, undef, .func (.yield l) #[] #[], .int .i64 1, undef, undef, undef, undef, .int .i64 1, .int .i64 0, undef, undef, .pointer (some ⟨i.h, 0, none⟩), .pointer (some ⟨i.h, 0, none⟩), .pointer (some ⟨i.h, 0, none⟩), undef, .int .i64 1, undef, undef, undef, undef, undef], defers := [] } ?_ (fun H01 => ?_)
  · refine two_in 2 13 #[true, true, true, false, false, false, true, true, false, false, true, true, true, false, true, false, false, false, false, false] #[true, true, false, false, false, false, true, true, false, false, true, true, true, true, true, false, false, false, false, false] rfl rfl rfl rfl (by kernel_rfl) (fun K hK => ?_) (fun K hK => ?_)
    · go_simp
      refine hK.out _ ({ tmps := #[.func (.yield l) #[] #[], .pointer (some ⟨bx, 0, none⟩), undef, .int .i64 1, .int .i64 1, .pointer (some ⟨i.h, 0, none⟩), .pointer (some ⟨i.h, 0, none⟩), .pointer (some ⟨i.h, 0, none⟩), .slice (some ⟨i.la, 0, none⟩) 2 2, .int .i64 2, .bool true, undef, undef, .func (.yield l) #[] #[], .int .i64 1, .pointer (some ⟨i.h, 0, none⟩), undef, undef, undef, .int .i64 1, .int .i64 0, undef, undef, .pointer (some ⟨i.h, 0, none⟩), .pointer (some ⟨i.h, 0, none⟩), .pointer (some ⟨i.h, 0, none⟩), undef, .int .i64 1, undef, undef, undef, undef, undef], defers := [] }) _ ?_ ?_
      · first | rfl | simp only [Act.put, List.setIfInBounds_toArray, List.set_cons_zero, List.set_cons_succ]
      refine take_in 3 (some 16) #[true, true, true, true, false, false, true, true, false, false, true, true, true, false, true, false, false, false, false, false] (v := .pointer (some ⟨i.h, 0, none⟩)) (a' := { tmps := #[.func (.yield l) #[] #[], .pointer (some ⟨bx, 0, none⟩), undef, .int .i64 1, .int .i64 1, .pointer (some ⟨i.h, 0, none⟩), .pointer (some ⟨i.h, 0, none⟩), .pointer (some ⟨i.h, 0, none⟩), .slice (some ⟨i.la, 0, none⟩) 2 2, .int .i64 2, .bool true, undef, undef, .func (.yield l) #[] #[], .int .i64 1, .pointer (some ⟨i.h, 0, none⟩), .pointer (some ⟨i.h, 0, none⟩), undef, undef, .int .i64 1, .int .i64 0, undef, undef, .pointer (some ⟨i.h, 0, none⟩), .pointer (some ⟨i.h, 0, none⟩), .pointer (some ⟨i.h, 0, none⟩), undef, .int .i64 1, undef, undef, undef, undef, undef], defers := [] }) rfl rfl rfl rfl rfl (by kernel_rfl) (by kernel_rfl) (by kernel_rfl) (fun _ _ _ _ h => h) ⟨.inl ⟨by rfl, fun w => by go_simp⟩, fun w => rfl⟩ ?_
      refine take_in 4 (some 17) #[true, true, true, true, true, false, true, true, false, false, true, true, true, false, true, false, false, false, false, false] (v := .pointer (some ⟨i.h, 0, none⟩)) (a' := { tmps := #[.func (.yield l) #[] #[], .pointer (some ⟨bx, 0, none⟩), undef, .int .i64 1, .int .i64 1, .pointer (some ⟨i.h, 0, none⟩), .pointer (some ⟨i.h, 0, none⟩), .pointer (some ⟨i.h, 0, none⟩), .slice (some ⟨i.la, 0, none⟩) 2 2, .int .i64 2, .bool true, undef, undef, .func (.yield l) #[] #[], .int .i64 1, .pointer (some ⟨i.h, 0, none⟩), .pointer (some ⟨i.h, 0, none⟩), .pointer (some ⟨i.h, 0, none⟩), undef, .int .i64 1, .int .i64 0, undef, undef, .pointer (some ⟨i.h, 0, none⟩), .pointer (some ⟨i.h, 0, none⟩), .pointer (some ⟨i.h, 0, none⟩), undef, .int .i64 1, undef, undef, undef, undef, undef], defers := [] }) rfl rfl rfl rfl rfl (by kernel_rfl) (by kernel_rfl) (by kernel_rfl) (fun _ _ _ _ h => h) ⟨.inl ⟨by rfl, fun w => by go_simp⟩, fun w => rfl⟩ ?_
      exact H11
    · go_simp
      refine hK.out _ ({ tmps := #[.func (.yield l) #[] #[], .pointer (some ⟨bx, 0, none⟩), undef, .int .i64 1, .int .i64 1, .pointer (some ⟨i.h, 0, none⟩), .pointer (some ⟨i.h, 0, none⟩), .pointer (some ⟨i.h, 0, none⟩), .slice (some ⟨i.la, 0, none⟩) 2 2, .int .i64 2, .bool true, undef, undef, .func (.yield l) #[] #[], .int .i64 1, undef, undef, undef, undef, .int .i64 1, .int .i64 0, undef, undef, .pointer (some ⟨i.h, 0, none⟩), .pointer (some ⟨i.h, 0, none⟩), .pointer (some ⟨i.h, 0, none⟩), .slice (some ⟨i.la, 0, none⟩) 2 2, .int .i64 1, undef, undef, undef, undef, undef], defers := [] }) _ ?_ ?_
      · first | rfl | simp only [Act.put, List.setIfInBounds_toArray, List.set_cons_zero, List.set_cons_succ]
      refine take_in 15 (some 28) #[true, true, false, false, false, false, true, true, false, false, true, true, true, true, true, true, false, false, false, false] (v := .pointer (some ⟨i.la, 1, none⟩)) (a' := { tmps := #[.func (.yield l) #[] #[], .pointer (some ⟨bx, 0, none⟩), undef, .int .i64 1, .int .i64 1, .pointer (some ⟨i.h, 0, none⟩), .pointer (some ⟨i.h, 0, none⟩), .pointer (some ⟨i.h, 0, none⟩), .slice (some ⟨i.la, 0, none⟩) 2 2, .int .i64 2, .bool true, undef, undef, .func (.yield l) #[] #[], .int .i64 1, undef, undef, undef, undef, .int .i64 1, .int .i64 0, undef, undef, .pointer (some ⟨i.h, 0, none⟩), .pointer (some ⟨i.h, 0, none⟩), .pointer (some ⟨i.h, 0, none⟩), .slice (some ⟨i.la, 0, none⟩) 2 2, .int .i64 1, .pointer (some ⟨i.la, 1, none⟩), undef, undef, undef, undef], defers := [] }) rfl rfl rfl rfl rfl (by kernel_rfl) (by kernel_rfl) (by kernel_rfl) (fun _ _ _ _ h => h) ⟨.inl ⟨by rfl, fun w => by go_simp⟩, fun w => rfl⟩ ?_
      exact H02
  refine with_fin 15 #[true, true, false, false, false, false, true, true, false, false, false, false, false, false, true, false, false, false, false, false] { tmps := #[.func (.yield l) #[] #[], .pointer (some ⟨bx, 0, none⟩), undef, .int .i64 1, .int .i64 1, .pointer (some ⟨i.h, 0, none⟩), .pointer (some ⟨i.h, 0, none⟩), .pointer (some ⟨i.h, 0, none⟩), .slice (some ⟨i.la, 0, none⟩) 2 2, .int .i64 2, .bool true, undef, undef, .func (.yield l) #[] #[], .int .i64 1, undef, undef, undef, undef, .int .i64 1, .int .i64 0, undef, undef, undef, undef, undef, undef, .int .i64 1, undef, undef, undef, undef, undef], defers := [] } ?_ (fun H00 => ?_)
  · refine two_in 2 10 #[true, true, true, false, false, false, true, true, false, false, false, false, false, false, true, false, false, false, false, false] #[true, true, false, false, false, false, true, true, false, false, true, false, false, false, true, false, false, false, false, false] rfl rfl rfl rfl (by kernel_rfl) (fun K hK => ?_) (fun K hK => ?_)
    · go_simp
      refine hK.out _ ({ tmps := #[.func (.yield l) #[] #[], .pointer (some ⟨bx, 0, none⟩), undef, .int .i64 1, .int .i64 1, .pointer (some ⟨i.h, 0, none⟩), .pointer (some ⟨i.h, 0, none⟩), .pointer (some ⟨i.h, 0, none⟩), .slice (some ⟨i.la, 0, none⟩) 2 2, .int .i64 2, .bool true, undef, undef, .func (.yield l) #[] #[], .int .i64 1, .pointer (some ⟨i.h, 0, none⟩), undef, undef, undef, .int .i64 1, .int .i64 0, undef, undef, undef, undef, undef, undef, .int .i64 1, undef, undef, undef, undef, undef], defers := [] }) _ ?_ ?_
      · first | rfl | simp only [Act.put, List.setIfInBounds_toArray, List.set_cons_zero, List.set_cons_succ]
      refine take_in 3 (some 16) #[true, true, true, true, false, false, true, true, false, false, false, false, false, false, true, false, false, false, false, false] (v := .pointer (some ⟨i.h, 0, none⟩)) (a' := { tmps := #[.func (.yield l) #[] #[], .pointer (some ⟨bx, 0, none⟩), undef, .int .i64 1, .int .i64 1, .pointer (some ⟨i.h, 0, none⟩), .pointer (some ⟨i.h, 0, none⟩), .pointer (some ⟨i.h, 0, none⟩), .slice (some ⟨i.la, 0, none⟩) 2 2, .int .i64 2, .bool true, undef, undef, .func (.yield l) #[] #[], .int .i64 1, .pointer (some ⟨i.h, 0, none⟩), .pointer (some ⟨i.h, 0, none⟩), undef, undef, .int .i64 1, .int .i64 0, undef, undef, undef, undef, undef, undef, .int .i64 1, undef, undef, undef, undef, undef], defers := [] }) rfl rfl rfl rfl rfl (by kernel_rfl) (by kernel_rfl) (by kernel_rfl) (fun _ _ _ _ h => h) ⟨.inl ⟨by rfl, fun w => by go_simp⟩, fun w => rfl⟩ ?_
      refine take_in 4 (some 17) #[true, true, true, true, true, false, true, true, false, false, false, false, false, false, true, false, false, false, false, false] (v := .pointer (some ⟨i.h, 0, none⟩)) (a' := { tmps := #[.func (.yield l) #[] #[], .pointer (some ⟨bx, 0, none⟩), undef, .int .i64 1, .int .i64 1, .pointer (some ⟨i.h, 0, none⟩), .pointer (some ⟨i.h, 0, none⟩), .pointer (some ⟨i.h, 0, none⟩), .slice (some ⟨i.la, 0, none⟩) 2 2, .int .i64 2, .bool true, undef, undef, .func (.yield l) #[] #[], .int .i64 1, .pointer (some ⟨i.h, 0, none⟩), .pointer (some ⟨i.h, 0, none⟩), .pointer (some ⟨i.h, 0, none⟩), undef, .int .i64 1, .int .i64 0, undef, undef, undef, undef, undef, undef, .int .i64 1, undef, undef, undef, undef, undef], defers := [] }) rfl rfl rfl rfl rfl (by kernel_rfl) (by kernel_rfl) (by kernel_rfl) (fun _ _ _ _ h => h) ⟨.inl ⟨by rfl, fun w => by go_simp⟩, fun w => rfl⟩ ?_
      exact H10
    · go_simp
      refine hK.out _ ({ tmps := #[.func (.yield l) #[] #[], .pointer (some ⟨bx, 0, none⟩), undef, .int .i64 1, .int .i64 1, .pointer (some ⟨i.h, 0, none⟩), .pointer (some ⟨i.h, 0, none⟩), .pointer (some ⟨i.h, 0, none⟩), .slice (some ⟨i.la, 0, none⟩) 2 2, .int .i64 2, .bool true, undef, undef, .func (.yield l) #[] #[], .int .i64 1, undef, undef, undef, undef, .int .i64 1, .int .i64 0, undef, undef, .pointer (some ⟨i.h, 0, none⟩), undef, undef, undef, .int .i64 1, undef, undef, undef, undef, undef], defers := [] }) _ ?_ ?_
      · first | rfl | simp only [Act.put, List.setIfInBounds_toArray, List.set_cons_zero, List.set_cons_succ]
      refine take_in 11 (some 24) #[true, true, false, false, false, false, true, true, false, false, true, true, false, false, true, false, false, false, false, false] (v := .pointer (some ⟨i.h, 0, none⟩)) (a' := { tmps := #[.func (.yield l) #[] #[], .pointer (some ⟨bx, 0, none⟩), undef, .int .i64 1, .int .i64 1, .pointer (some ⟨i.h, 0, none⟩), .pointer (some ⟨i.h, 0, none⟩), .pointer (some ⟨i.h, 0, none⟩), .slice (some ⟨i.la, 0, none⟩) 2 2, .int .i64 2, .bool true, undef, undef, .func (.yield l) #[] #[], .int .i64 1, undef, undef, undef, undef, .int .i64 1, .int .i64 0, undef, undef, .pointer (some ⟨i.h, 0, none⟩), .pointer (some ⟨i.h, 0, none⟩), undef, undef, .int .i64 1, undef, undef, undef, undef, undef], defers := [] }) rfl rfl rfl rfl rfl (by kernel_rfl) (by kernel_rfl) (by kernel_rfl) (fun _ _ _ _ h => h) ⟨.inl ⟨by rfl, fun w => by go_simp⟩, fun w => rfl⟩ ?_
      refine take_in 12 (some 25) #[true, true, false, false, false, false, true, true, false, false, true, true, true, false, true, false, false, false, false, false] (v := .pointer (some ⟨i.h, 0, none⟩)) (a' := { tmps := #[.func (.yield l) #[] #[], .pointer (some ⟨bx, 0, none⟩), undef, .int .i64 1, .int .i64 1, .pointer (some ⟨i.h, 0, none⟩), .pointer (some ⟨i.h, 0, none⟩), .pointer (some ⟨i.h, 0, none⟩), .slice (some ⟨i.la, 0, none⟩) 2 2, .int .i64 2, .bool true, undef, undef, .func (.yield l) #[] #[], .int .i64 1, undef, undef, undef, undef, .int .i64 1, .int .i64 0, undef, undef, .pointer (some ⟨i.h, 0, none⟩), .pointer (some ⟨i.h, 0, none⟩), .pointer (some ⟨i.h, 0, none⟩), undef, .int .i64 1, undef, undef, undef, undef, undef], defers := [] }) rfl rfl rfl rfl rfl (by kernel_rfl) (by kernel_rfl) (by kernel_rfl) (fun _ _ _ _ h => h) ⟨.inl ⟨by rfl, fun w => by go_simp⟩, fun w => rfl⟩ ?_
      exact H01
  refine take_in 0 (some 13) #[true, false, false, false, false, false, false, false, false, false, false, false, false, false, false, false, false, false, false, false] (v := .func (.yield l) #[] #[]) (a' := { tmps := #[.func (.yield l) #[] #[], .pointer (some ⟨bx, 0, none⟩), undef, .int .i64 1, .int .i64 1, .pointer (some ⟨i.h, 0, none⟩), .pointer (some ⟨i.h, 0, none⟩), .pointer (some ⟨i.h, 0, none⟩), .slice (some ⟨i.la, 0, none⟩) 2 2, .int .i64 2, .bool true, undef, undef, .func (.yield l) #[] #[], undef, undef, undef, undef, undef, undef, undef, undef, undef, undef, undef, undef, undef, undef, undef, undef, undef, undef, undef], defers := [] }) rfl rfl rfl rfl rfl (by kernel_rfl) (by kernel_rfl) (by kernel_rfl) (fun _ _ _ _ h => h) ⟨.inl ⟨by rfl, fun w => by go_simp⟩, fun w => rfl⟩ ?_
  refine take_in 1 (some 14) #[true, true, false, false, false, false, false, false, false, false, false, false, false, false, false, false, false, false, false, false] (v := .int .i64 1) (a' := { tmps := #[.func (.yield l) #[] #[], .pointer (some ⟨bx, 0, none⟩), undef, .int .i64 1, .int .i64 1, .pointer (some ⟨i.h, 0, none⟩), .pointer (some ⟨i.h, 0, none⟩), .pointer (some ⟨i.h, 0, none⟩), .slice (some ⟨i.la, 0, none⟩) 2 2, .int .i64 2, .bool true, undef, undef, .func (.yield l) #[] #[], .int .i64 1, undef, undef, undef, undef, undef, undef, undef, undef, undef, undef, undef, undef, undef, undef, undef, undef, undef, undef], defers := [] }) rfl rfl rfl rfl rfl (by kernel_rfl) (by kernel_rfl) (by kernel_rfl) (fun _ _ _ _ h => h) ⟨.inl ⟨by rfl, fun w => by go_simp⟩, fun w => rfl⟩ ?_
  refine take_in 6 (some 19) #[true, true, false, false, false, false, true, false, false, false, false, false, false, false, false, false, false, false, false, false] (v := .int .i64 1) (a' := { tmps := #[.func (.yield l) #[] #[], .pointer (some ⟨bx, 0, none⟩), undef, .int .i64 1, .int .i64 1, .pointer (some ⟨i.h, 0, none⟩), .pointer (some ⟨i.h, 0, none⟩), .pointer (some ⟨i.h, 0, none⟩), .slice (some ⟨i.la, 0, none⟩) 2 2, .int .i64 2, .bool true, undef, undef, .func (.yield l) #[] #[], .int .i64 1, undef, undef, undef, undef, .int .i64 1, undef, undef, undef, undef, undef, undef, undef, undef, undef, undef, undef, undef, undef], defers := [] }) rfl rfl rfl rfl rfl (by kernel_rfl) (by kernel_rfl) (by kernel_rfl) (fun _ _ _ _ h => h) ⟨.inl ⟨by rfl, fun w => by go_simp⟩, fun w => rfl⟩ ?_
  refine take_in 7 (some 20) #[true, true, false, false, false, false, true, true, false, false, false, false, false, false, false, false, false, false, false, false] (v := .int .i64 0) (a' := { tmps := #[.func (.yield l) #[] #[], .pointer (some ⟨bx, 0, none⟩), undef, .int .i64 1, .int .i64 1, .pointer (some ⟨i.h, 0, none⟩), .pointer (some ⟨i.h, 0, none⟩), .pointer (some ⟨i.h, 0, none⟩), .slice (some ⟨i.la, 0, none⟩) 2 2, .int .i64 2, .bool true, undef, undef, .func (.yield l) #[] #[], .int .i64 1, undef, undef, undef, undef, .int .i64 1, .int .i64 0, undef, undef, undef, undef, undef, undef, undef, undef, undef, undef, undef, undef], defers := [] }) rfl rfl rfl rfl rfl (by kernel_rfl) (by kernel_rfl) (by kernel_rfl) (fun _ _ _ _ h => h) ⟨.inl ⟨by rfl, fun w => by go_simp⟩, fun w => rfl⟩ ?_
  refine take_in 14 (some 27) #[true, true, false, false, false, false, true, true, false, false, false, false, false, false, true, false, false, false, false, false] (v := .int .i64 1) (a' := { tmps := #[.func (.yield l) #[] #[], .pointer (some ⟨bx, 0, none⟩), undef, .int .i64 1, .int .i64 1, .pointer (some ⟨i.h, 0, none⟩), .pointer (some ⟨i.h, 0, none⟩), .pointer (some ⟨i.h, 0, none⟩), .slice (some ⟨i.la, 0, none⟩) 2 2, .int .i64 2, .bool true, undef, undef, .func (.yield l) #[] #[], .int .i64 1, undef, undef, undef, undef, .int .i64 1, .int .i64 0, undef, undef, undef, undef, undef, undef, .int .i64 1, undef, undef, undef, undef, undef], defers := [] }) rfl rfl rfl rfl rfl (by kernel_rfl) (by kernel_rfl) (by kernel_rfl) (fun _ _ _ _ h => h) ⟨.inl ⟨by rfl, fun w => by go_simp⟩, fun w => rfl⟩ ?_
  exact H00
  refine one_in 18 #[true, true, true, true, true, true, true, true, true, true, true, true, true, true, true, true, true, true, true, false] rfl rfl (by kernel_rfl) (fun K hK => ?_)
  go_simp
  refine HR.out.mono ?_
  rintro e W' (⟨rfl, hJ', hk⟩ | ⟨rfl, hJx'⟩)
  · refine hK.out _ ({ tmps := #[.func (.yield l) #[] #[], .pointer (some ⟨bx, 0, none⟩), undef, .int .i64 1, .int .i64 1, .pointer (some ⟨i.h, 0, none⟩), .pointer (some ⟨i.h, 0, none⟩), .pointer (some ⟨i.h, 0, none⟩), .slice (some ⟨i.la, 0, none⟩) 2 2, .int .i64 2, .bool true, undef, undef, .func (.yield l) #[] #[], .int .i64 1, .pointer (some ⟨i.h, 0, none⟩), .pointer (some ⟨i.h, 0, none⟩), .pointer (some ⟨i.h, 0, none⟩), .slice (some ⟨i.la, 0, none⟩) 2 2, .int .i64 1, .int .i64 0, .pointer (some ⟨i.la, 0, none⟩), .pointer (some ⟨i.p0, 0, none⟩), .pointer (some ⟨i.h, 0, none⟩), .pointer (some ⟨i.h, 0, none⟩), .pointer (some ⟨i.h, 0, none⟩), .slice (some ⟨i.la, 0, none⟩) 2 2, .int .i64 1, .pointer (some ⟨i.la, 1, none⟩), .pointer (some ⟨i.p1, 0, none⟩), .agg #[.pointer (some ⟨i.p0, 0, none⟩), .pointer (some ⟨i.p1, 0, none⟩)], .bool true, undef], defers := [] }) _ ?_ ?_
    · first | rfl | simp only [Act.put, List.setIfInBounds_toArray, List.set_cons_zero, List.set_cons_succ]
    refine take_in 19 (some 32) #[true, true, true, true, true, true, true, true, true, true, true, true, true, true, true, true, true, true, true, true] (v := .bool false) (a' := { tmps := #[.func (.yield l) #[] #[], .pointer (some ⟨bx, 0, none⟩), undef, .int .i64 1, .int .i64 1, .pointer (some ⟨i.h, 0, none⟩), .pointer (some ⟨i.h, 0, none⟩), .pointer (some ⟨i.h, 0, none⟩), .slice (some ⟨i.la, 0, none⟩) 2 2, .int .i64 2, .bool true, undef, undef, .func (.yield l) #[] #[], .int .i64 1, .pointer (some ⟨i.h, 0, none⟩), .pointer (some ⟨i.h, 0, none⟩), .pointer (some ⟨i.h, 0, none⟩), .slice (some ⟨i.la, 0, none⟩) 2 2, .int .i64 1, .int .i64 0, .pointer (some ⟨i.la, 0, none⟩), .pointer (some ⟨i.p0, 0, none⟩), .pointer (some ⟨i.h, 0, none⟩), .pointer (some ⟨i.h, 0, none⟩), .pointer (some ⟨i.h, 0, none⟩), .slice (some ⟨i.la, 0, none⟩) 2 2, .int .i64 1, .pointer (some ⟨i.la, 1, none⟩), .pointer (some ⟨i.p1, 0, none⟩), .agg #[.pointer (some ⟨i.p0, 0, none⟩), .pointer (some ⟨i.p1, 0, none⟩)], .bool true, .bool false], defers := [] }) rfl rfl rfl rfl rfl (by kernel_rfl) (by kernel_rfl) (by kernel_rfl) (fun _ _ _ _ h => h) ⟨.inl ⟨by rfl, fun w => by go_simp⟩, fun w => rfl⟩ ?_
    refine wpAnyIn_done (by kernel_rfl) ?_ _
    clear hK K
    have b0' := blk_cell ((hk _ _).1 HBX.out) 0
    have a0' := blk_cell ((hk _ _).2.1 HCH.out) 0
    unfold chainC at a0'
    simp only [List.getElem?_toArray, List.getElem?_cons_zero, List.getElem?_cons_succ] at b0' a0'
    have HJ2 := Lib.hid hJ'
    clear hJ' hk
    go_wp2_with fail
    rw [rounds_succ]
    go_wp2_with fail
    go_end0
    exact ⟨⟨_, rfl⟩, .inl ⟨[()], rfl, HJ2.out⟩⟩
  · refine hK.out _ ({ tmps := #[.func (.yield l) #[] #[], .pointer (some ⟨bx, 0, none⟩), undef, .int .i64 1, .int .i64 1, .pointer (some ⟨i.h, 0, none⟩), .pointer (some ⟨i.h, 0, none⟩), .pointer (some ⟨i.h, 0, none⟩), .slice (some ⟨i.la, 0, none⟩) 2 2, .int .i64 2, .bool true, undef, undef, .func (.yield l) #[] #[], .int .i64 1, .pointer (some ⟨i.h, 0, none⟩), .pointer (some ⟨i.h, 0, none⟩), .pointer (some ⟨i.h, 0, none⟩), .slice (some ⟨i.la, 0, none⟩) 2 2, .int .i64 1, .int .i64 0, .pointer (some ⟨i.la, 0, none⟩), .pointer (some ⟨i.p0, 0, none⟩), .pointer (some ⟨i.h, 0, none⟩), .pointer (some ⟨i.h, 0, none⟩), .pointer (some ⟨i.h, 0, none⟩), .slice (some ⟨i.la, 0, none⟩) 2 2, .int .i64 1, .pointer (some ⟨i.la, 1, none⟩), .pointer (some ⟨i.p1, 0, none⟩), .agg #[.pointer (some ⟨i.p0, 0, none⟩), .pointer (some ⟨i.p1, 0, none⟩)], .bool false, undef], defers := [] }) _ ?_ ?_
    · first | rfl | simp only [Act.put, List.setIfInBounds_toArray, List.set_cons_zero, List.set_cons_succ]
    refine take_in 19 (some 32) #[true, true, true, true, true, true, true, true, true, true, true, true, true, true, true, true, true, true, true, true] (v := .bool true) (a' := { tmps := #[.func (.yield l) #[] #[], .pointer (some ⟨bx, 0, none⟩), undef, .int .i64 1, .int .i64 1, .pointer (some ⟨i.h, 0, none⟩), .pointer (some ⟨i.h, 0, none⟩), .pointer (some ⟨i.h, 0, none⟩), .slice (some ⟨i.la, 0, none⟩) 2 2, .int .i64 2, .bool true, undef, undef, .func (.yield l) #[] #[], .int .i64 1, .pointer (some ⟨i.h, 0, none⟩), .pointer (some ⟨i.h, 0, none⟩), .pointer (some ⟨i.h, 0, none⟩), .slice (some ⟨i.la, 0, none⟩) 2 2, .int .i64 1, .int .i64 0, .pointer (some ⟨i.la, 0, none⟩), .pointer (some ⟨i.p0, 0, none⟩), .pointer (some ⟨i.h, 0, none⟩), .pointer (some ⟨i.h, 0, none⟩), .pointer (some ⟨i.h, 0, none⟩), .slice (some ⟨i.la, 0, none⟩) 2 2, .int .i64 1, .pointer (some ⟨i.la, 1, none⟩), .pointer (some ⟨i.p1, 0, none⟩), .agg #[.pointer (some ⟨i.p0, 0, none⟩), .pointer (some ⟨i.p1, 0, none⟩)], .bool false, .bool true], defers := [] }) rfl rfl rfl rfl rfl (by kernel_rfl) (by kernel_rfl) (by kernel_rfl) (fun _ _ _ _ h => h) ⟨.inl ⟨by rfl, fun w => by go_simp⟩, fun w => rfl⟩ ?_
    refine wpAnyIn_done (by kernel_rfl) ?_ _
    clear hK K
    have HJ2 := Lib.hid hJx'
    clear hJx'
    go_wp2_with fail
    refine bodyPost_ret (results_none rfl _ _ _) rfl ?_
    exact ⟨⟨_, rfl⟩, .inr ⟨_, trivial, HJ2.out⟩⟩
end Go.Proofs.YtdpfmemcpipbkaaGreatDoor.Hand
end
