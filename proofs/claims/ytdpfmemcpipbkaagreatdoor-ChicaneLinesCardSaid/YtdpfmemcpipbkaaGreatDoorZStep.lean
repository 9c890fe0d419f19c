/- chain.Step: what lies in the first part goes on to the second one. -/
import Derived.Test.YtdpfmemcpipbkaaGreatDoorZPairs
import Derived.TacticsInMore
import Derived.LoopNIn
import Derived.LoopIn
section
namespace Go.Proofs.YtdpfmemcpipbkaaGreatDoor.Hand
open Go.RowKit
set_option linter.unusedVariables false
set_option linter.unusedSimpArgs false
attribute [local go_sem] Oper.semAt_some
theorem Blk.lay {w w' : World} {b : Nat} {cs : Array Value} {t : TypeId} (h : Blk w b cs t) (hl : AsLay w w') : Blk w' b cs t := hl _ _ _ h
theorem keep3_put (a b c : Nat) (W : World) (l : Nat) (o o' : Obj) (hl : W.heap[l]? = some o) (ho : o.isCells = false) : Keep3 a b c W (W.putObj l o') :=
  Keep3.of_lay (AsLay.of_grown (grownBy_putObj' W l o') (fun r e => by cases e; exact ⟨o, hl, ho⟩))
def sideC (i : CI) : Array Value := #[.pointer (some ⟨i.p0, 0, none⟩), .pointer (some ⟨i.p1, 0, none⟩)]
set_option maxHeartbeats 16000000 in
set_option maxRecDepth 100000 in
theorem chain_step0 (i : CI) (q0 q1 : Int) (hq0 : 0 ≤ q0) (hq0' : q0 ≤ 100) (w : World) (h : ChainAt w i q0 q1 0 0) : Calls Tryz.prog 70 #[.pointer (some ⟨i.h, 0, none⟩), .int .i64 0] w fun e w' => e = .returned (.int .i64 0) ∧ Below w.heap.size w w' := by
  have hb0 : Below w.heap.size w ((w.alloc (.cells #[.pointer (some ⟨i.h, 0, none⟩)] 137)).alloc (.cells #[.int .i64 0] 3)) := below_alloc (below_alloc (Below.refl _ w) _ (Nat.le_refl _)) _ (Nat.le_refl _)
  have b2 : Blk ((w.alloc (.cells #[.pointer (some ⟨i.h, 0, none⟩)] 137)).alloc (.cells #[.int .i64 0] 3)) w.heap.size #[.pointer (some ⟨i.h, 0, none⟩)] 137 := heap_old _ (heap_alloc_new w _)
  have b3 : Blk ((w.alloc (.cells #[.pointer (some ⟨i.h, 0, none⟩)] 137)).alloc (.cells #[.int .i64 0] 3)) (w.heap.size + 1) #[.int .i64 0] 3 := by
    have := heap_alloc_new (w.alloc (.cells #[.pointer (some ⟨i.h, 0, none⟩)] 137)) (.cells #[.int .i64 0] 3)
    rwa [World.size_alloc] at this
  have h0 := h.lay (AsLay.of_below hb0)
  refine (callsIn_wide (n := 6)).1 ?_
  refine callsIn_of_wp_marks Tryz.func70 rfl trivial ?_ rfl
  refine wpIn_wide.2 ?_
  simp only [Tryz.ntmps70, List.size_toArray, List.length_cons, List.length_nil, Nat.reduceAdd, Nat.reduceSub, Array.replicate_succ, Array.replicate_zero, List.push_toArray, List.append_toArray, List.nil_append, List.cons_append]
  have a4 := blk_cell h0.chain 4
  have z4 := blk_lt h0.chain
  simp only [List.getElem?_toArray, List.getElem?_cons_zero, List.getElem?_cons_succ] at a4
  have HB := Lib.hid (chain_broken i q0 q1 0 0 _ h0)
  have H0 := Lib.hid (And.intro hb0 (And.intro b2 (And.intro b3 h0)))
  clear hb0 b2 b3 h0 h
  go_wp2_with fail
  refine HB.out.mono ?_
  rintro e w1 ⟨rfl, hb1⟩
  obtain ⟨hb0, b2, b3, h0⟩ := H0.out
  have hb01 := below_step hb0 hb1
  have l1 := AsLay.of_below hb1
  have b2' := b2.lay l1
  have b3' := b3.lay l1
  have c20 := blk_cell b2' 0
  have c30 := blk_cell b3' 0
  simp only [List.getElem?_toArray, List.getElem?_cons_zero] at c20 c30
  have H1 := Lib.hid (And.intro hb01 (And.intro b2' (And.intro b3' (h0.lay l1))))
  have HP := Lib.hid (pairs_calls i w1)
  clear hb1 hb0 b2 b3 h0 hb01 l1 b2' b3'
  go_wp2_with fail
  refine HP.out.mono ?_
  rintro e w2 ⟨rfl, hw2⟩
  have hb2 : Below w1.heap.size w1 w2 := by rw [hw2]; exact below_alloc (Below.refl _ w1) _ (Nat.le_refl _)
  have bx : Blk w2 w1.heap.size #[.pointer (some ⟨i.h, 0, none⟩)] 137 := by rw [hw2]; exact heap_alloc_new w1 _
  obtain ⟨hb01, b2, b3, h1⟩ := H1.out
  have l2 := AsLay.of_below hb2
  have H2 := Lib.hid (And.intro (below_step hb01 hb2) (And.intro (b2.lay l2) (And.intro (b3.lay l2) (And.intro (h1.lay l2) bx))))
  clear hw2 hb2 bx hb01 b2 b3 h1 l2
  go_wp2_with fail
  obtain ⟨hb2, bb2, bb3, h2, bx⟩ := H2.out
  refine (wpIn_wide (n := 6)).1 ?_
  refine wpIn_rangeFunc_ownH (α := Unit) rfl (by omega) (gf := 185) (lb := #[.pointer (some ⟨w1.heap.size, 0, none⟩)]) rfl trivial (enters_of Tryz.func185 (by kernel_rfl) rfl)
    (encs := fun _ => pairA i) (Kp := Keep3 w1.heap.size i.h i.la) (S := fun ys => ys = [()]) (Sp := fun _ => True) (N := 1) (w0 := w2)
    (fun l J Jx W hW hJ _ hY h0 => pairs1 (6 - 1) (by omega) i w1.heap.size l J Jx W (bx.lay (AsLay.of_below hW)) (h2.chain.lay (AsLay.of_below hW)) (h2.list.lay (AsLay.of_below hW)) hJ hY h0)
    (fun h k => h.trans k) (fun W l o o' _ hl ho _ => keep3_put _ _ _ W l o o' hl ho) (Below.refl _ _) (fun _ => rfl)
    (fun _ W => Below w2.heap.size w2 W) (fun _ _ _ => False)
    (ownFrom_below (Nat.le_refl _) (Nat.le_refl _)) (fun _ _ _ _ _ hs _ _ => hs) (Below.refl _ _)
    (fun _ a' W => ∃ B, w2.heap.size ≤ B ∧ Blk W B (sideC i) 190 ∧ a' = { tmps := #[.pointer (some ⟨i.h, 0, none⟩), .int .i64 0, .pointer (some ⟨w.heap.size, 0, none⟩), .pointer (some ⟨w.heap.size + 1, 0, none⟩), .int .i64 0, undef, .pointer (some ⟨B, 0, none⟩), undef, undef, .pointer (some ⟨i.h, 0, none⟩), .pointer (some ⟨i.h, 0, none⟩), .pointer (some ⟨i.h, 4, none⟩), .int .i64 0, .bool false, undef, undef, undef, undef, .pointer (some ⟨i.h, 0, none⟩), .int .i64 0, .bool false, undef, undef, undef, undef, undef, undef, undef, .pointer (some ⟨i.h, 0, none⟩), .func (.func 185) #[] #[.pointer (some ⟨w1.heap.size, 0, none⟩)], .int .i64 1, .agg (sideC i), undef, undef, undef, undef, undef, undef, undef, undef, undef, undef, undef, undef, undef, undef, undef, undef, undef, undef, undef, undef, undef, undef, undef, undef, undef, undef, undef, undef, undef, undef, undef, undef, undef, undef, undef, undef, undef, undef, undef, undef, undef, undef, undef, undef, undef, undef, undef, undef, undef, undef, undef, undef, undef, undef, undef, undef, undef, undef, undef, undef, undef, undef, undef, undef, undef, undef, undef, undef, undef, undef, undef, undef, undef, undef, undef, undef], defers := [] })
    (fun x a' => fun _ A B row hs hg hr => by
      obtain ⟨b, h1, h2, h3⟩ := hs
      exact ⟨b, h1, h2.lay (AsLay.of_grown hg (fun r e => (hr r e).2)), h3⟩) ?assign ?body ?done ?stop
  case assign =>
    intro l pre x W K hi hK
    unfold pairA
    gi_wp2
    exact hK _ _ ((KeepsOthers.alloc _ _).from _) (Keep3.of_lay (AsLay.of_below (below_alloc (Below.refl _ W) _ (Nat.le_refl _)))) (below_alloc hi _ (Nat.le_refl _)) ⟨W.heap.size, hi.size, heap_alloc_new W _, rfl⟩
  case body =>
    rintro l pre x a' W hl _ hI ⟨B, hB, bB, rfl⟩ hlen
    have lW := AsLay.of_below hI
    have hA := h2.lay lW
    have g0 := blk_cell bB 0
    have g1 := blk_cell bB 1
    have p0 := blk_cell hA.part0 0
    have p1 := blk_cell hA.part1 0
    have n0 := blk_cell (bb3.lay lW) 0
    unfold sideC at g0 g1
    simp only [List.getElem?_toArray, List.getElem?_cons_zero, List.getElem?_cons_succ] at g0 g1 p0 p1 n0
    have zB := blk_lt bB
    have zp0 := blk_lt hA.part0
    have zp1 := blk_lt hA.part1
    have zn := blk_lt (bb3.lay lW)
    have HA := Lib.hid hA
    have HI := Lib.hid hI
    clear hA hI lW
    gi_wp2
    refine start_round (S := fun W => W.cell? ⟨B, 1, none⟩ = some (.pointer (some ⟨i.p1, 0, none⟩)) ∧ W.cell? ⟨i.p1, 0, none⟩ = some (.pointer (some ⟨i.s1, 0, none⟩)) ∧ W.cell? ⟨w.heap.size + 1, 0, none⟩ = some (.int .i64 0)) l 4 8 #[false, false, false, false, false, false, false, false] (by kernel_rfl) (by kernel_rfl) ?_ rfl rfl ?_ (fun hHeld => ?_)
    · rintro ⟨_, _, h⟩
      exact h
    · (try dsimp only)
      exact ⟨g1, p1, n0⟩
    refine take_n 0 (some 32) #[true, false, false, false, false, false, false, false] (v := ?_) (a' := ?_) rfl rfl rfl (by kernel_rfl) (by kernel_rfl) (by kernel_rfl) (fun _ _ _ _ h => h) (Or.inl ⟨by rfl, ?_⟩) hHeld ?_ ?_
    rotate_left 2
    · intro w hSw
      (try dsimp only at hSw)
      go_simp
      all_goals (with_reducible rfl)
    · simp only [Act.put, List.setIfInBounds_toArray, List.set_cons_zero, List.set_cons_succ]
      rfl
    refine take_n 1 (some 33) #[true, true, false, false, false, false, false, false] (v := ?_) (a' := ?_) rfl rfl rfl (by kernel_rfl) (by kernel_rfl) (by kernel_rfl) (fun _ _ _ _ h => h) (Or.inl ⟨by rfl, ?_⟩) hHeld ?_ ?_
    rotate_left 2
    · intro w hSw
      (try dsimp only at hSw)
      go_simp
      all_goals (with_reducible rfl)
    · simp only [Act.put, List.setIfInBounds_toArray, List.set_cons_zero, List.set_cons_succ]
      rfl
    refine take_n 2 (some 34) #[true, true, true, false, false, false, false, false] (v := ?_) (a' := ?_) rfl rfl rfl (by kernel_rfl) (by kernel_rfl) (by kernel_rfl) (fun _ _ _ _ h => h) (Or.inl ⟨by rfl, ?_⟩) hHeld ?_ ?_
    rotate_left 2
    · intro w hSw
      (try dsimp only at hSw)
      go_simp
      all_goals (with_reducible rfl)
    · simp only [Act.put, List.setIfInBounds_toArray, List.set_cons_zero, List.set_cons_succ]
      rfl
    refine take_n 3 (some 35) #[true, true, true, true, false, false, false, false] (v := ?_) (a' := ?_) rfl rfl rfl (by kernel_rfl) (by kernel_rfl) (by kernel_rfl) (fun _ _ _ _ h => h) (Or.inl ⟨by rfl, ?_⟩) hHeld ?_ ?_
    rotate_left 2
    · intro w hSw
      (try dsimp only at hSw)
      go_simp
      all_goals (with_reducible rfl)
    · simp only [Act.put, List.setIfInBounds_toArray, List.set_cons_zero, List.set_cons_succ]
      rfl
    refine take_n 4 (some 36) #[true, true, true, true, true, false, false, false] (v := ?_) (a' := ?_) rfl rfl rfl (by kernel_rfl) (by kernel_rfl) (by kernel_rfl) (fun _ _ _ _ h => h) (Or.inl ⟨by rfl, ?_⟩) hHeld ?_ ?_
    rotate_left 2
    · intro w hSw
      (try dsimp only at hSw)
      go_simp
      all_goals (with_reducible rfl)
    · simp only [Act.put, List.setIfInBounds_toArray, List.set_cons_zero, List.set_cons_succ]
      rfl
    refine take_n 5 (some 37) #[true, true, true, true, true, true, false, false] (v := ?_) (a' := ?_) rfl rfl rfl (by kernel_rfl) (by kernel_rfl) (by kernel_rfl) (fun _ _ _ _ h => h) (Or.inl ⟨by rfl, ?_⟩) hHeld ?_ ?_
    rotate_left 2
    · intro w hSw
      (try dsimp only at hSw)
      go_simp
      all_goals (with_reducible rfl)
    · simp only [Act.put, List.setIfInBounds_toArray, List.set_cons_zero, List.set_cons_succ]
      rfl
    refine one_n 6 #[true, true, true, true, true, true, true, false] rfl rfl (by kernel_rfl) (fun K hK => ?_)
    go_simp
    refine (stage_state i.s1 i.c1 q1 _ (HA.out.st1.below ((Below.refl _ W).drew))).mono ?_
    rintro e w3 ⟨rfl, hb3⟩
    have HB3 := Lib.hid (below_drew hb3)
    clear hb3
    refine hK.out _ ?_ _ ?_ ?_ (fun hHeld => ?_)
    rotate_left
    · (try simp only [Act.put, List.setIfInBounds_toArray, List.set_cons_zero, List.set_cons_succ])
      rfl
    · (try dsimp only)
      exact ⟨(HB3.out.cell (p := ⟨B, 1, none⟩) zB).trans hHeld.1, (HB3.out.cell (p := ⟨i.p1, 0, none⟩) zp1).trans hHeld.2.1, (HB3.out.cell (p := ⟨(w.heap.size + 1), 0, none⟩) zn).trans hHeld.2.2⟩
    clear hK K
    refine take_n 7 (some 39) #[true, true, true, true, true, true, true, true] (v := ?_) (a' := ?_) rfl rfl rfl (by kernel_rfl) (by kernel_rfl) (by kernel_rfl) (fun _ _ _ _ h => h) (Or.inl ⟨by rfl, ?_⟩) hHeld ?_ ?_
    rotate_left 2
    · intro w hSw
      (try dsimp only at hSw)
      go_simp
      all_goals (with_reducible rfl)
    · simp only [Act.put, List.setIfInBounds_toArray, List.set_cons_zero, List.set_cons_succ]
      rfl
    refine wpAnyH_done (by kernel_rfl) ?_ _
    have l3 := AsLay.of_below HB3.out
    have hA3 := HA.out.lay l3
    have g0 := (HB3.out.cell (p := ⟨B, 0, none⟩) zB).trans g0
    have g1 := (HB3.out.cell (p := ⟨B, 1, none⟩) zB).trans g1
    have p0 := (HB3.out.cell (p := ⟨i.p0, 0, none⟩) zp0).trans p0
    have p1 := (HB3.out.cell (p := ⟨i.p1, 0, none⟩) zp1).trans p1
    have n0 := (HB3.out.cell (p := ⟨w.heap.size + 1, 0, none⟩) zn).trans n0
    have sz3 := HB3.out.size
    have zB3 : B < w3.heap.size := by omega
    have zp03 : i.p0 < w3.heap.size := by omega
    have zp13 : i.p1 < w3.heap.size := by omega
    have zn3 : w.heap.size + 1 < w3.heap.size := by omega
    have HA3 := Lib.hid hA3
    clear hA3 l3
    gi_wp2
    refine start_round (S := fun W => W.cell? ⟨B, 0, none⟩ = some (.pointer (some ⟨i.p0, 0, none⟩)) ∧ W.cell? ⟨B, 1, none⟩ = some (.pointer (some ⟨i.p1, 0, none⟩)) ∧ W.cell? ⟨i.p0, 0, none⟩ = some (.pointer (some ⟨i.s0, 0, none⟩)) ∧ W.cell? ⟨i.p1, 0, none⟩ = some (.pointer (some ⟨i.s1, 0, none⟩)) ∧ W.cell? ⟨w.heap.size + 1, 0, none⟩ = some (.int .i64 0)) l 4 20 #[false, false, false, false, false, false, false, false, false, false, false, false, false, false, false, false, false, false, false, false] (by kernel_rfl) (by kernel_rfl) ?_ rfl rfl ?_ (fun hHeld => ?_)
    · rintro ⟨_, _, h⟩
      exact h
    · (try dsimp only)
      exact ⟨g0, g1, p0, p1, n0⟩
    refine take_n 0 (some 40) #[true, false, false, false, false, false, false, false, false, false, false, false, false, false, false, false, false, false, false, false] (v := ?_) (a' := ?_) rfl rfl rfl (by kernel_rfl) (by kernel_rfl) (by kernel_rfl) (fun _ _ _ _ h => h) (Or.inl ⟨by rfl, ?_⟩) hHeld ?_ ?_
    rotate_left 2
    · intro w hSw
      (try dsimp only at hSw)
      go_simp
      all_goals (with_reducible rfl)
    · simp only [Act.put, List.setIfInBounds_toArray, List.set_cons_zero, List.set_cons_succ]
      rfl
    refine take_n 1 (some 41) #[true, true, false, false, false, false, false, false, false, false, false, false, false, false, false, false, false, false, false, false] (v := ?_) (a' := ?_) rfl rfl rfl (by kernel_rfl) (by kernel_rfl) (by kernel_rfl) (fun _ _ _ _ h => h) (Or.inl ⟨by rfl, ?_⟩) hHeld ?_ ?_
    rotate_left 2
    · intro w hSw
      (try dsimp only at hSw)
      go_simp
      all_goals (with_reducible rfl)
    · simp only [Act.put, List.setIfInBounds_toArray, List.set_cons_zero, List.set_cons_succ]
      rfl
    refine take_n 2 (some 42) #[true, true, true, false, false, false, false, false, false, false, false, false, false, false, false, false, false, false, false, false] (v := ?_) (a' := ?_) rfl rfl rfl (by kernel_rfl) (by kernel_rfl) (by kernel_rfl) (fun _ _ _ _ h => h) (Or.inl ⟨by rfl, ?_⟩) hHeld ?_ ?_
    rotate_left 2
    · intro w hSw
      (try dsimp only at hSw)
      go_simp
      all_goals (with_reducible rfl)
    · simp only [Act.put, List.setIfInBounds_toArray, List.set_cons_zero, List.set_cons_succ]
      rfl
    refine take_n 3 (some 43) #[true, true, true, true, false, false, false, false, false, false, false, false, false, false, false, false, false, false, false, false] (v := ?_) (a' := ?_) rfl rfl rfl (by kernel_rfl) (by kernel_rfl) (by kernel_rfl) (fun _ _ _ _ h => h) (Or.inl ⟨by rfl, ?_⟩) hHeld ?_ ?_
    rotate_left 2
    · intro w hSw
      (try dsimp only at hSw)
      go_simp
      all_goals (with_reducible rfl)
    · simp only [Act.put, List.setIfInBounds_toArray, List.set_cons_zero, List.set_cons_succ]
      rfl
    refine take_n 4 (some 44) #[true, true, true, true, true, false, false, false, false, false, false, false, false, false, false, false, false, false, false, false] (v := ?_) (a' := ?_) rfl rfl rfl (by kernel_rfl) (by kernel_rfl) (by kernel_rfl) (fun _ _ _ _ h => h) (Or.inl ⟨by rfl, ?_⟩) hHeld ?_ ?_
    rotate_left 2
    · intro w hSw
      (try dsimp only at hSw)
      go_simp
      all_goals (with_reducible rfl)
    · simp only [Act.put, List.setIfInBounds_toArray, List.set_cons_zero, List.set_cons_succ]
      rfl
    refine take_n 5 (some 45) #[true, true, true, true, true, true, false, false, false, false, false, false, false, false, false, false, false, false, false, false] (v := ?_) (a' := ?_) rfl rfl rfl (by kernel_rfl) (by kernel_rfl) (by kernel_rfl) (fun _ _ _ _ h => h) (Or.inl ⟨by rfl, ?_⟩) hHeld ?_ ?_
    rotate_left 2
    · intro w hSw
      (try dsimp only at hSw)
      go_simp
      all_goals (with_reducible rfl)
    · simp only [Act.put, List.setIfInBounds_toArray, List.set_cons_zero, List.set_cons_succ]
      rfl
    refine take_n 6 (some 46) #[true, true, true, true, true, true, true, false, false, false, false, false, false, false, false, false, false, false, false, false] (v := ?_) (a' := ?_) rfl rfl rfl (by kernel_rfl) (by kernel_rfl) (by kernel_rfl) (fun _ _ _ _ h => h) (Or.inl ⟨by rfl, ?_⟩) hHeld ?_ ?_
    rotate_left 2
    · intro w hSw
      (try dsimp only at hSw)
      go_simp
      all_goals (with_reducible rfl)
    · simp only [Act.put, List.setIfInBounds_toArray, List.set_cons_zero, List.set_cons_succ]
      rfl
    refine take_n 7 (some 47) #[true, true, true, true, true, true, true, true, false, false, false, false, false, false, false, false, false, false, false, false] (v := ?_) (a' := ?_) rfl rfl rfl (by kernel_rfl) (by kernel_rfl) (by kernel_rfl) (fun _ _ _ _ h => h) (Or.inl ⟨by rfl, ?_⟩) hHeld ?_ ?_
    rotate_left 2
    · intro w hSw
      (try dsimp only at hSw)
      go_simp
      all_goals (with_reducible rfl)
    · simp only [Act.put, List.setIfInBounds_toArray, List.set_cons_zero, List.set_cons_succ]
      rfl
    refine take_n 8 (some 48) #[true, true, true, true, true, true, true, true, true, false, false, false, false, false, false, false, false, false, false, false] (v := ?_) (a' := ?_) rfl rfl rfl (by kernel_rfl) (by kernel_rfl) (by kernel_rfl) (fun _ _ _ _ h => h) (Or.inl ⟨by rfl, ?_⟩) hHeld ?_ ?_
    rotate_left 2
    · intro w hSw
      (try dsimp only at hSw)
      go_simp
      all_goals (with_reducible rfl)
    · simp only [Act.put, List.setIfInBounds_toArray, List.set_cons_zero, List.set_cons_succ]
      rfl
    refine take_n 9 (some 49) #[true, true, true, true, true, true, true, true, true, true, false, false, false, false, false, false, false, false, false, false] (v := ?_) (a' := ?_) rfl rfl rfl (by kernel_rfl) (by kernel_rfl) (by kernel_rfl) (fun _ _ _ _ h => h) (Or.inl ⟨by rfl, ?_⟩) hHeld ?_ ?_
    rotate_left 2
    · intro w hSw
      (try dsimp only at hSw)
      go_simp
      all_goals (with_reducible rfl)
    · simp only [Act.put, List.setIfInBounds_toArray, List.set_cons_zero, List.set_cons_succ]
      rfl
    refine take_n 10 (some 50) #[true, true, true, true, true, true, true, true, true, true, true, false, false, false, false, false, false, false, false, false] (v := ?_) (a' := ?_) rfl rfl rfl (by kernel_rfl) (by kernel_rfl) (by kernel_rfl) (fun _ _ _ _ h => h) (Or.inl ⟨by rfl, ?_⟩) hHeld ?_ ?_
    rotate_left 2
    · intro w hSw
      (try dsimp only at hSw)
      go_simp
      all_goals (with_reducible rfl)
    · simp only [Act.put, List.setIfInBounds_toArray, List.set_cons_zero, List.set_cons_succ]
      rfl
    refine take_n 11 (some 51) #[true, true, true, true, true, true, true, true, true, true, true, true, false, false, false, false, false, false, false, false] (v := ?_) (a' := ?_) rfl rfl rfl (by kernel_rfl) (by kernel_rfl) (by kernel_rfl) (fun _ _ _ _ h => h) (Or.inl ⟨by rfl, ?_⟩) hHeld ?_ ?_
    rotate_left 2
    · intro w hSw
      (try dsimp only at hSw)
      go_simp
      all_goals (with_reducible rfl)
    · simp only [Act.put, List.setIfInBounds_toArray, List.set_cons_zero, List.set_cons_succ]
      rfl
    refine take_n 12 (some 52) #[true, true, true, true, true, true, true, true, true, true, true, true, true, false, false, false, false, false, false, false] (v := ?_) (a' := ?_) rfl rfl rfl (by kernel_rfl) (by kernel_rfl) (by kernel_rfl) (fun _ _ _ _ h => h) (Or.inl ⟨by rfl, ?_⟩) hHeld ?_ ?_
    rotate_left 2
    · intro w hSw
      (try dsimp only at hSw)
      go_simp
      all_goals (with_reducible rfl)
    · simp only [Act.put, List.setIfInBounds_toArray, List.set_cons_zero, List.set_cons_succ]
      rfl
    refine take_n 13 (some 53) #[true, true, true, true, true, true, true, true, true, true, true, true, true, true, false, false, false, false, false, false] (v := ?_) (a' := ?_) rfl rfl rfl (by kernel_rfl) (by kernel_rfl) (by kernel_rfl) (fun _ _ _ _ h => h) (Or.inl ⟨by rfl, ?_⟩) hHeld ?_ ?_
    rotate_left 2
    · intro w hSw
      (try dsimp only at hSw)
      go_simp
      all_goals (with_reducible rfl)
    · simp only [Act.put, List.setIfInBounds_toArray, List.set_cons_zero, List.set_cons_succ]
      rfl
    refine take_n 14 (some 54) #[true, true, true, true, true, true, true, true, true, true, true, true, true, true, true, false, false, false, false, false] (v := ?_) (a' := ?_) rfl rfl rfl (by kernel_rfl) (by kernel_rfl) (by kernel_rfl) (fun _ _ _ _ h => h) (Or.inl ⟨by rfl, ?_⟩) hHeld ?_ ?_
    rotate_left 2
    · intro w hSw
      (try dsimp only at hSw)
      go_simp
      all_goals (with_reducible rfl)
    · simp only [Act.put, List.setIfInBounds_toArray, List.set_cons_zero, List.set_cons_succ]
      rfl
    refine take_n 15 (some 55) #[true, true, true, true, true, true, true, true, true, true, true, true, true, true, true, true, false, false, false, false] (v := ?_) (a' := ?_) rfl rfl rfl (by kernel_rfl) (by kernel_rfl) (by kernel_rfl) (fun _ _ _ _ h => h) (Or.inl ⟨by rfl, ?_⟩) hHeld ?_ ?_
    rotate_left 2
    · intro w hSw
      (try dsimp only at hSw)
      go_simp
      all_goals (with_reducible rfl)
    · simp only [Act.put, List.setIfInBounds_toArray, List.set_cons_zero, List.set_cons_succ]
      rfl
    refine take_n 16 (some 56) #[true, true, true, true, true, true, true, true, true, true, true, true, true, true, true, true, true, false, false, false] (v := ?_) (a' := ?_) rfl rfl rfl (by kernel_rfl) (by kernel_rfl) (by kernel_rfl) (fun _ _ _ _ h => h) (Or.inl ⟨by rfl, ?_⟩) hHeld ?_ ?_
    rotate_left 2
    · intro w hSw
      (try dsimp only at hSw)
      go_simp
      all_goals (with_reducible rfl)
    · simp only [Act.put, List.setIfInBounds_toArray, List.set_cons_zero, List.set_cons_succ]
      rfl
    refine one_n 17 #[true, true, true, true, true, true, true, true, true, true, true, true, true, true, true, true, true, true, false, false] rfl rfl (by kernel_rfl) (fun K hK => ?_)
    go_simp
    refine (stage_free i.s1 i.c1 q1 _ (HA3.out.st1.below ((Below.refl _ w3).drew)) HA3.out.has1.drew).mono ?_
    rintro e w4 ⟨rfl, hb4⟩
    have HB4 := Lib.hid (below_drew hb4)
    clear hb4
    have sz4 := HB4.out.size
    have zB4 : B < w4.heap.size := by omega
    have zp04 : i.p0 < w4.heap.size := by omega
    have zp14 : i.p1 < w4.heap.size := by omega
    have zn4 : w.heap.size + 1 < w4.heap.size := by omega
    refine hK.out _ ?_ _ ?_ ?_ (fun hHeld => ?_)
    rotate_left
    · (try simp only [Act.put, List.setIfInBounds_toArray, List.set_cons_zero, List.set_cons_succ])
      rfl
    · (try dsimp only)
      exact ⟨(HB4.out.cell (p := ⟨B, 0, none⟩) zB3).trans hHeld.1, (HB4.out.cell (p := ⟨B, 1, none⟩) zB3).trans hHeld.2.1, (HB4.out.cell (p := ⟨i.p0, 0, none⟩) zp03).trans hHeld.2.2.1, (HB4.out.cell (p := ⟨i.p1, 0, none⟩) zp13).trans hHeld.2.2.2.1, (HB4.out.cell (p := ⟨(w.heap.size + 1), 0, none⟩) zn3).trans hHeld.2.2.2.2⟩
    clear hK K
    refine one_n 18 #[true, true, true, true, true, true, true, true, true, true, true, true, true, true, true, true, true, true, true, false] rfl rfl (by kernel_rfl) (fun K hK => ?_)
    go_simp
    refine (stage_take0 i.s0 i.c0 5 (by omega) q0 hq0 hq0' _ (HA3.out.lay (AsLay.of_below HB4.out)).st0 (HA3.out.lay (AsLay.of_below HB4.out)).has0).mono ?_
    rintro e w5 ⟨rfl, hb5⟩
    have HB5 := Lib.hid hb5
    clear hb5
    have sz5 := HB5.out.size
    have zB5 : B < w5.heap.size := by omega
    have zp05 : i.p0 < w5.heap.size := by omega
    have zp15 : i.p1 < w5.heap.size := by omega
    have zn5 : w.heap.size + 1 < w5.heap.size := by omega
    refine hK.out _ ?_ _ ?_ ?_ (fun hHeld => ?_)
    rotate_left
    · (try simp only [Act.put, List.setIfInBounds_toArray, List.set_cons_zero, List.set_cons_succ])
      rfl
    · (try dsimp only)
      exact ⟨(HB5.out.cell (p := ⟨B, 0, none⟩) zB4).trans hHeld.1, (HB5.out.cell (p := ⟨B, 1, none⟩) zB4).trans hHeld.2.1, (HB5.out.cell (p := ⟨i.p0, 0, none⟩) zp04).trans hHeld.2.2.1, (HB5.out.cell (p := ⟨i.p1, 0, none⟩) zp14).trans hHeld.2.2.2.1, (HB5.out.cell (p := ⟨(w.heap.size + 1), 0, none⟩) zn4).trans hHeld.2.2.2.2⟩
    clear hK K
    refine one_n 19 #[true, true, true, true, true, true, true, true, true, true, true, true, true, true, true, true, true, true, true, true] rfl rfl (by kernel_rfl) (fun K hK => ?_)
    go_simp
    refine (stage_force0 i.s1 i.c1 q1 _ (HA3.out.lay ((AsLay.of_below HB4.out).trans (AsLay.of_below HB5.out))).st1).mono ?_
    rintro e w6 ⟨rfl, hb6⟩
    have HB6 := Lib.hid hb6
    clear hb6
    have sz6 := HB6.out.size
    have zB6 : B < w6.heap.size := by omega
    have zp06 : i.p0 < w6.heap.size := by omega
    have zp16 : i.p1 < w6.heap.size := by omega
    have zn6 : w.heap.size + 1 < w6.heap.size := by omega
    refine hK.out _ ?_ _ ?_ ?_ (fun hHeld => ?_)
    rotate_left
    · (try simp only [Act.put, List.setIfInBounds_toArray, List.set_cons_zero, List.set_cons_succ])
      rfl
    · (try dsimp only)
      exact ⟨(HB6.out.cell (p := ⟨B, 0, none⟩) zB5).trans hHeld.1, (HB6.out.cell (p := ⟨B, 1, none⟩) zB5).trans hHeld.2.1, (HB6.out.cell (p := ⟨i.p0, 0, none⟩) zp05).trans hHeld.2.2.1, (HB6.out.cell (p := ⟨i.p1, 0, none⟩) zp15).trans hHeld.2.2.2.1, (HB6.out.cell (p := ⟨(w.heap.size + 1), 0, none⟩) zn5).trans hHeld.2.2.2.2⟩
    clear hK K
    refine wpAnyH_done (by kernel_rfl) ?_ _
    have hW6 := below_step HB3.out (below_step (below_step HB4.out HB5.out) HB6.out)
    gi_wp2
    exact ⟨KeepsFrom.of_grownBy (grown_of_below hW6) (fun j e => by cases e), Keep3.of_lay (AsLay.of_below hW6), HI.out.trans (hW6.mono HI.out.size)⟩
  case stop =>
    rintro D c pre W _ _ h _
    exact h.elim
  case done =>
    rintro D ys W hD rfl hI hKD
    have lW := AsLay.of_below hI
    have hbW := below_step hb2 hI
    have d2 := blk_cell (bb2.lay lW) 0
    have d3 := blk_cell (bb3.lay lW) 0
    simp only [List.getElem?_toArray, List.getElem?_cons_zero] at d2 d3
    have HP3 := Lib.hid (pairs_calls i W)
    have H3 := Lib.hid (And.intro hbW (And.intro (bb2.lay lW) (And.intro (bb3.lay lW) (And.intro (h2.lay lW) hKD))))
    clear lW hbW hI hKD
    go_wp2_with fail
    refine HP3.out.mono ?_
    rintro e w4 ⟨rfl, hw4⟩
    have hb4 : Below W.heap.size W w4 := by rw [hw4]; exact below_alloc (Below.refl _ W) _ (Nat.le_refl _)
    have bx4 : Blk w4 W.heap.size #[.pointer (some ⟨i.h, 0, none⟩)] 137 := by rw [hw4]; exact heap_alloc_new W _
    obtain ⟨hbW, cc2, cc3, h3, hKD⟩ := H3.out
    have l4 := AsLay.of_below hb4
    have H4 := Lib.hid (And.intro (below_step hbW hb4) (And.intro (cc2.lay l4) (And.intro (cc3.lay l4) (And.intro (h3.lay l4) (And.intro bx4 ((hb4.block D (blk_lt hKD)).trans hKD))))))
    clear hw4 hb4 bx4 hbW cc2 cc3 h3 l4 hKD
    go_wp2_with fail
    obtain ⟨hb4, ee2, ee3, h4, bx4, hKD4⟩ := H4.out
    refine (wpIn_wide (n := 6)).1 ?_
    refine wpIn_rangeFunc_ownH (α := Unit) rfl (by omega) (gf := 185) (lb := #[.pointer (some ⟨W.heap.size, 0, none⟩)]) rfl trivial (enters_of Tryz.func185 (by kernel_rfl) rfl)
      (encs := fun _ => pairA i) (Kp := Keep3 W.heap.size i.h i.la) (S := fun ys => ys = [()]) (Sp := fun _ => True) (N := 1) (w0 := w4)
      (fun l J Jx W' hW hJ _ hY h0 => pairs1 (6 - 1) (by omega) i W.heap.size l J Jx W' (bx4.lay (AsLay.of_below hW)) (h4.chain.lay (AsLay.of_below hW)) (h4.list.lay (AsLay.of_below hW)) hJ hY h0)
      (fun h k => h.trans k) (fun W l o o' _ hl ho _ => keep3_put _ _ _ W l o o' hl ho) (Below.refl _ _) (fun _ => rfl)
      (fun _ W => Below w4.heap.size w4 W) (fun _ _ _ => False)
      (ownFrom_below (Nat.le_refl _) (Nat.le_refl _)) (fun _ _ _ _ _ hs _ _ => hs) (Below.refl _ _)
      (fun _ a' W' => ∃ B, w4.heap.size ≤ B ∧ Blk W' B (sideC i) 190 ∧ a' = { tmps := #[.pointer (some ⟨i.h, 0, none⟩), .int .i64 0, .pointer (some ⟨w.heap.size, 0, none⟩), .pointer (some ⟨w.heap.size + 1, 0, none⟩), .int .i64 0, undef, undef, .int .i64 1, .pointer (some ⟨B, 0, none⟩), .pointer (some ⟨i.h, 0, none⟩), .pointer (some ⟨i.h, 0, none⟩), .pointer (some ⟨i.h, 4, none⟩), .int .i64 0, .bool false, undef, undef, undef, undef, .pointer (some ⟨i.h, 0, none⟩), .int .i64 0, .bool false, undef, undef, undef, undef, undef, undef, undef, .pointer (some ⟨i.h, 0, none⟩), .func (.func 185) #[] #[.pointer (some ⟨w1.heap.size, 0, none⟩)], undef, undef, undef, undef, undef, undef, undef, undef, undef, undef, undef, undef, undef, undef, undef, undef, undef, undef, undef, undef, undef, undef, undef, undef, undef, undef, undef, undef, undef, undef, .pointer (some ⟨i.h, 0, none⟩), .func (.func 185) #[] #[.pointer (some ⟨W.heap.size, 0, none⟩)], .int .i64 1, .agg (sideC i), undef, undef, undef, undef, undef, undef, undef, undef, undef, undef, undef, undef, undef, undef, undef, undef, undef, undef, undef, undef, undef, undef, undef, undef, undef, undef, undef, undef, undef, undef, undef, undef, undef, undef, undef, undef, undef, undef, undef, undef, undef, undef, undef, undef], defers := [] })
      (fun x a' => fun _ A B row hs hg hr => by
        obtain ⟨b, h1, h2, h3⟩ := hs
        exact ⟨b, h1, h2.lay (AsLay.of_grown hg (fun r e => (hr r e).2)), h3⟩) ?assign2 ?body2 ?done2 ?stop2
    case stop2 =>
      rintro D2 c pre W2 _ _ h _
      exact h.elim
    case assign2 =>
      intro l pre x W2 K hi hK
      unfold pairA
      gi_wp2
      exact hK _ _ ((KeepsOthers.alloc _ _).from _) (Keep3.of_lay (AsLay.of_below (below_alloc (Below.refl _ W2) _ (Nat.le_refl _)))) (below_alloc hi _ (Nat.le_refl _)) ⟨W2.heap.size, hi.size, heap_alloc_new W2 _, rfl⟩
    case body2 =>
      rintro l pre x a' W2 hl _ hI ⟨B, hB, bB, rfl⟩ hlen
      have lW := AsLay.of_below hI
      have hA := h4.lay lW
      have g0 := blk_cell bB 0
      have p0 := blk_cell hA.part0 0
      have n0 := blk_cell (ee3.lay lW) 0
      unfold sideC at g0
      simp only [List.getElem?_toArray, List.getElem?_cons_zero, List.getElem?_cons_succ] at g0 p0 n0
      have zB := blk_lt bB
      have zp0 := blk_lt hA.part0
      have zn := blk_lt (ee3.lay lW)
      have HA := Lib.hid hA
      have HI := Lib.hid hI
      clear hA hI lW
      gi_wp2
      refine start_round (S := fun W => W.cell? ⟨B, 0, none⟩ = some (.pointer (some ⟨i.p0, 0, none⟩)) ∧ W.cell? ⟨i.p0, 0, none⟩ = some (.pointer (some ⟨i.s0, 0, none⟩)) ∧ W.cell? ⟨w.heap.size + 1, 0, none⟩ = some (.int .i64 0)) l 4 8 #[false, false, false, false, false, false, false, false] (by kernel_rfl) (by kernel_rfl) ?_ rfl rfl ?_ (fun hHeld => ?_)
      · rintro ⟨_, _, h⟩
        exact h
      · (try dsimp only)
        exact ⟨g0, p0, n0⟩
      refine take_n 0 (some 64) #[true, false, false, false, false, false, false, false] (v := ?_) (a' := ?_) rfl rfl rfl (by kernel_rfl) (by kernel_rfl) (by kernel_rfl) (fun _ _ _ _ h => h) (Or.inl ⟨by rfl, ?_⟩) hHeld ?_ ?_
      rotate_left 2
      · intro w hSw
        (try dsimp only at hSw)
        go_simp
        all_goals (with_reducible rfl)
      · simp only [Act.put, List.setIfInBounds_toArray, List.set_cons_zero, List.set_cons_succ]
        rfl
      refine take_n 1 (some 65) #[true, true, false, false, false, false, false, false] (v := ?_) (a' := ?_) rfl rfl rfl (by kernel_rfl) (by kernel_rfl) (by kernel_rfl) (fun _ _ _ _ h => h) (Or.inl ⟨by rfl, ?_⟩) hHeld ?_ ?_
      rotate_left 2
      · intro w hSw
        (try dsimp only at hSw)
        go_simp
        all_goals (with_reducible rfl)
      · simp only [Act.put, List.setIfInBounds_toArray, List.set_cons_zero, List.set_cons_succ]
        rfl
      refine take_n 2 (some 66) #[true, true, true, false, false, false, false, false] (v := ?_) (a' := ?_) rfl rfl rfl (by kernel_rfl) (by kernel_rfl) (by kernel_rfl) (fun _ _ _ _ h => h) (Or.inl ⟨by rfl, ?_⟩) hHeld ?_ ?_
      rotate_left 2
      · intro w hSw
        (try dsimp only at hSw)
        go_simp
        all_goals (with_reducible rfl)
      · simp only [Act.put, List.setIfInBounds_toArray, List.set_cons_zero, List.set_cons_succ]
        rfl
      refine take_n 3 (some 67) #[true, true, true, true, false, false, false, false] (v := ?_) (a' := ?_) rfl rfl rfl (by kernel_rfl) (by kernel_rfl) (by kernel_rfl) (fun _ _ _ _ h => h) (Or.inl ⟨by rfl, ?_⟩) hHeld ?_ ?_
      rotate_left 2
      · intro w hSw
        (try dsimp only at hSw)
        go_simp
        all_goals (with_reducible rfl)
      · simp only [Act.put, List.setIfInBounds_toArray, List.set_cons_zero, List.set_cons_succ]
        rfl
      refine take_n 4 (some 68) #[true, true, true, true, true, false, false, false] (v := ?_) (a' := ?_) rfl rfl rfl (by kernel_rfl) (by kernel_rfl) (by kernel_rfl) (fun _ _ _ _ h => h) (Or.inl ⟨by rfl, ?_⟩) hHeld ?_ ?_
      rotate_left 2
      · intro w hSw
        (try dsimp only at hSw)
        go_simp
        all_goals (with_reducible rfl)
      · simp only [Act.put, List.setIfInBounds_toArray, List.set_cons_zero, List.set_cons_succ]
        rfl
      refine take_n 5 (some 69) #[true, true, true, true, true, true, false, false] (v := ?_) (a' := ?_) rfl rfl rfl (by kernel_rfl) (by kernel_rfl) (by kernel_rfl) (fun _ _ _ _ h => h) (Or.inl ⟨by rfl, ?_⟩) hHeld ?_ ?_
      rotate_left 2
      · intro w hSw
        (try dsimp only at hSw)
        go_simp
        all_goals (with_reducible rfl)
      · simp only [Act.put, List.setIfInBounds_toArray, List.set_cons_zero, List.set_cons_succ]
        rfl
      refine one_n 6 #[true, true, true, true, true, true, true, false] rfl rfl (by kernel_rfl) (fun K hK => ?_)
      go_simp
      refine (stage_state i.s0 i.c0 q0 _ (HA.out.st0.below ((Below.refl _ W2).drew))).mono ?_
      rintro e w5 ⟨rfl, hb5⟩
      have HB3 := Lib.hid (below_drew hb5)
      clear hb5
      refine hK.out _ ?_ _ ?_ ?_ (fun hHeld => ?_)
      rotate_left
      · (try simp only [Act.put, List.setIfInBounds_toArray, List.set_cons_zero, List.set_cons_succ])
        rfl
      · (try dsimp only)
        exact ⟨(HB3.out.cell (p := ⟨B, 0, none⟩) zB).trans hHeld.1, (HB3.out.cell (p := ⟨i.p0, 0, none⟩) zp0).trans hHeld.2.1, (HB3.out.cell (p := ⟨(w.heap.size + 1), 0, none⟩) zn).trans hHeld.2.2⟩
      clear hK K
      refine take_n 7 (some 71) #[true, true, true, true, true, true, true, true] (v := ?_) (a' := ?_) rfl rfl rfl (by kernel_rfl) (by kernel_rfl) (by kernel_rfl) (fun _ _ _ _ h => h) (Or.inl ⟨by rfl, ?_⟩) hHeld ?_ ?_
      rotate_left 2
      · intro w hSw
        (try dsimp only at hSw)
        go_simp
        all_goals (with_reducible rfl)
      · simp only [Act.put, List.setIfInBounds_toArray, List.set_cons_zero, List.set_cons_succ]
        rfl
      refine wpAnyH_done (by kernel_rfl) ?_ _
      gi_wp2
      exact ⟨KeepsFrom.of_grownBy (grown_of_below HB3.out) (fun j e => by cases e), Keep3.of_lay (AsLay.of_below HB3.out), HI.out.trans (HB3.out.mono HI.out.size)⟩
    case done2 =>
      rintro D2 ys W2 hD2 rfl hI2 hKD2
      have lW2 := AsLay.of_below hI2
      have hA := h4.lay lW2
      have d2 := blk_cell (ee2.lay lW2) 0
      have d3 := blk_cell (ee3.lay lW2) 0
      have a0 := blk_cell hA.chain 0
      have a4 := blk_cell hA.chain 4
      have af := blk_frozen hA.chain 4
      have l1 := blk_cell hA.list 1
      have p1 := blk_cell hA.part1 0
      simp only [List.getElem?_toArray, List.getElem?_cons_zero, List.getElem?_cons_succ] at d2 d3 a0 a4 l1 p1
      have z2 := blk_lt (ee2.lay lW2)
      have z3 := blk_lt (ee3.lay lW2)
      have zh := blk_lt hA.chain
      have zl := blk_lt hA.list
      have zp := blk_lt hA.part1
      have H5 := Lib.hid (And.intro hA (And.intro (below_step hb4 hI2) (And.intro hKD2 ((hI2.block D (blk_lt hKD4)).trans hKD4))))
      have kw1 : IntKind.i64.wrap 1 = 1 := rfl
      have kt1 : Int.toNat 1 = 1 := rfl
      clear hA lW2 hI2 hKD2
      go_wp2_with fail
      refine wp_region_noPanic ?_
      refine start_n (S := fun W => W.cell? ⟨w.heap.size, 0, none⟩ = some (.pointer (some ⟨i.h, 0, none⟩)) ∧ W.cell? ⟨i.h, 0, none⟩ = some (.slice (some ⟨i.la, 0, none⟩) 2 2) ∧ W.cell? ⟨i.la, 1, none⟩ = some (.pointer (some ⟨i.p1, 0, none⟩)) ∧ W.cell? ⟨i.p1, 0, none⟩ = some (.pointer (some ⟨i.s1, 0, none⟩)) ∧ W.cell? ⟨w.heap.size + 1, 0, none⟩ = some (.int .i64 0)) 21 #[false, false, false, false, false, false, false, false, false, false, false, false, false, false, false, false, false, false, false, false, false] (by kernel_rfl) rfl rfl ?_ (fun hHeld => ?_)
      · (try dsimp only)
        exact ⟨d2, a0, l1, p1, d3⟩
      refine take_n 0 (some 84) #[true, false, false, false, false, false, false, false, false, false, false, false, false, false, false, false, false, false, false, false, false] (v := ?_) (a' := ?_) rfl rfl rfl (by kernel_rfl) (by kernel_rfl) (by kernel_rfl) (fun _ _ _ _ h => h) (Or.inl ⟨by rfl, ?_⟩) hHeld ?_ ?_
      rotate_left 2
      · intro w hSw
        (try dsimp only at hSw)
        go_simp
        all_goals (with_reducible rfl)
      · simp only [Act.put, List.setIfInBounds_toArray, List.set_cons_zero, List.set_cons_succ]
        rfl
      refine take_n 1 (some 85) #[true, true, false, false, false, false, false, false, false, false, false, false, false, false, false, false, false, false, false, false, false] (v := ?_) (a' := ?_) rfl rfl rfl (by kernel_rfl) (by kernel_rfl) (by kernel_rfl) (fun _ _ _ _ h => h) (Or.inl ⟨by rfl, ?_⟩) hHeld ?_ ?_
      rotate_left 2
      · intro w hSw
        (try dsimp only at hSw)
        go_simp
        all_goals (with_reducible rfl)
      · simp only [Act.put, List.setIfInBounds_toArray, List.set_cons_zero, List.set_cons_succ]
        rfl
      refine take_n 2 (some 86) #[true, true, true, false, false, false, false, false, false, false, false, false, false, false, false, false, false, false, false, false, false] (v := ?_) (a' := ?_) rfl rfl rfl (by kernel_rfl) (by kernel_rfl) (by kernel_rfl) (fun _ _ _ _ h => h) (Or.inl ⟨by rfl, ?_⟩) hHeld ?_ ?_
      rotate_left 2
      · intro w hSw
        (try dsimp only at hSw)
        go_simp
        all_goals (with_reducible rfl)
      · simp only [Act.put, List.setIfInBounds_toArray, List.set_cons_zero, List.set_cons_succ]
        rfl
      refine take_n 3 (some 87) #[true, true, true, true, false, false, false, false, false, false, false, false, false, false, false, false, false, false, false, false, false] (v := ?_) (a' := ?_) rfl rfl rfl (by kernel_rfl) (by kernel_rfl) (by kernel_rfl) (fun _ _ _ _ h => h) (Or.inl ⟨by rfl, ?_⟩) hHeld ?_ ?_
      rotate_left 2
      · intro w hSw
        (try dsimp only at hSw)
        go_simp
        all_goals (with_reducible rfl)
      · simp only [Act.put, List.setIfInBounds_toArray, List.set_cons_zero, List.set_cons_succ]
        rfl
      refine take_n 4 (some 88) #[true, true, true, true, true, false, false, false, false, false, false, false, false, false, false, false, false, false, false, false, false] (v := ?_) (a' := ?_) rfl rfl rfl (by kernel_rfl) (by kernel_rfl) (by kernel_rfl) (fun _ _ _ _ h => h) (Or.inl ⟨by rfl, ?_⟩) hHeld ?_ ?_
      rotate_left 2
      · intro w hSw
        (try dsimp only at hSw)
        go_simp
        all_goals (with_reducible rfl)
      · simp only [Act.put, List.setIfInBounds_toArray, List.set_cons_zero, List.set_cons_succ]
        rfl
      refine take_n 5 (some 89) #[true, true, true, true, true, true, false, false, false, false, false, false, false, false, false, false, false, false, false, false, false] (v := ?_) (a' := ?_) rfl rfl rfl (by kernel_rfl) (by kernel_rfl) (by kernel_rfl) (fun _ _ _ _ h => h) (Or.inl ⟨by rfl, ?_⟩) hHeld ?_ ?_
      rotate_left 2
      · intro w hSw
        (try dsimp only at hSw)
        go_simp
        all_goals (with_reducible rfl)
      · simp only [Act.put, List.setIfInBounds_toArray, List.set_cons_zero, List.set_cons_succ]
        rfl
      refine take_n 6 (some 90) #[true, true, true, true, true, true, true, false, false, false, false, false, false, false, false, false, false, false, false, false, false] (v := ?_) (a' := ?_) rfl rfl rfl (by kernel_rfl) (by kernel_rfl) (by kernel_rfl) (fun _ _ _ _ h => h) (Or.inl ⟨by rfl, ?_⟩) hHeld ?_ ?_
      rotate_left 2
      · intro w hSw
        (try dsimp only at hSw)
        go_simp
        all_goals (with_reducible rfl)
      · simp only [Act.put, List.setIfInBounds_toArray, List.set_cons_zero, List.set_cons_succ]
        rfl
      refine take_n 7 (some 91) #[true, true, true, true, true, true, true, true, false, false, false, false, false, false, false, false, false, false, false, false, false] (v := ?_) (a' := ?_) rfl rfl rfl (by kernel_rfl) (by kernel_rfl) (by kernel_rfl) (fun _ _ _ _ h => h) (Or.inl ⟨by rfl, ?_⟩) hHeld ?_ ?_
      rotate_left 2
      · intro w hSw
        (try dsimp only at hSw)
        go_simp
        all_goals (with_reducible rfl)
      · simp only [Act.put, List.setIfInBounds_toArray, List.set_cons_zero, List.set_cons_succ]
        rfl
      refine take_n 8 (some 92) #[true, true, true, true, true, true, true, true, true, false, false, false, false, false, false, false, false, false, false, false, false] (v := ?_) (a' := ?_) rfl rfl rfl (by kernel_rfl) (by kernel_rfl) (by kernel_rfl) (fun _ _ _ _ h => h) (Or.inl ⟨by rfl, ?_⟩) hHeld ?_ ?_
      rotate_left 2
      · intro w hSw
        (try dsimp only at hSw)
        go_simp
        all_goals (with_reducible rfl)
      · simp only [Act.put, List.setIfInBounds_toArray, List.set_cons_zero, List.set_cons_succ]
        rfl
      refine take_n 9 (some 93) #[true, true, true, true, true, true, true, true, true, true, false, false, false, false, false, false, false, false, false, false, false] (v := ?_) (a' := ?_) rfl rfl rfl (by kernel_rfl) (by kernel_rfl) (by kernel_rfl) (fun _ _ _ _ h => h) (Or.inl ⟨by rfl, ?_⟩) hHeld ?_ ?_
      rotate_left 2
      · intro w hSw
        (try dsimp only at hSw)
        go_simp
        all_goals (with_reducible rfl)
      · simp only [Act.put, List.setIfInBounds_toArray, List.set_cons_zero, List.set_cons_succ]
        rfl
      refine take_n 10 (some 94) #[true, true, true, true, true, true, true, true, true, true, true, false, false, false, false, false, false, false, false, false, false] (v := ?_) (a' := ?_) rfl rfl rfl (by kernel_rfl) (by kernel_rfl) (by kernel_rfl) (fun _ _ _ _ h => h) (Or.inl ⟨by rfl, ?_⟩) hHeld ?_ ?_
      rotate_left 2
      · intro w hSw
        (try dsimp only at hSw)
        go_simp
        all_goals (with_reducible rfl)
      · simp only [Act.put, List.setIfInBounds_toArray, List.set_cons_zero, List.set_cons_succ]
        rfl
      refine take_n 11 (some 95) #[true, true, true, true, true, true, true, true, true, true, true, true, false, false, false, false, false, false, false, false, false] (v := ?_) (a' := ?_) rfl rfl rfl (by kernel_rfl) (by kernel_rfl) (by kernel_rfl) (fun _ _ _ _ h => h) (Or.inl ⟨by rfl, ?_⟩) hHeld ?_ ?_
      rotate_left 2
      · intro w hSw
        (try dsimp only at hSw)
        go_simp
        all_goals (with_reducible rfl)
      · simp only [Act.put, List.setIfInBounds_toArray, List.set_cons_zero, List.set_cons_succ]
        rfl
      refine take_n 12 (some 96) #[true, true, true, true, true, true, true, true, true, true, true, true, true, false, false, false, false, false, false, false, false] (v := ?_) (a' := ?_) rfl rfl rfl (by kernel_rfl) (by kernel_rfl) (by kernel_rfl) (fun _ _ _ _ h => h) (Or.inl ⟨by rfl, ?_⟩) hHeld ?_ ?_
      rotate_left 2
      · intro w hSw
        (try dsimp only at hSw)
        go_simp
        all_goals (with_reducible rfl)
      · simp only [Act.put, List.setIfInBounds_toArray, List.set_cons_zero, List.set_cons_succ]
        rfl
      refine take_n 13 (some 97) #[true, true, true, true, true, true, true, true, true, true, true, true, true, true, false, false, false, false, false, false, false] (v := ?_) (a' := ?_) rfl rfl rfl (by kernel_rfl) (by kernel_rfl) (by kernel_rfl) (fun _ _ _ _ h => h) (Or.inl ⟨by rfl, ?_⟩) hHeld ?_ ?_
      rotate_left 2
      · intro w hSw
        (try dsimp only at hSw)
        go_simp
        all_goals (with_reducible rfl)
      · simp only [Act.put, List.setIfInBounds_toArray, List.set_cons_zero, List.set_cons_succ]
        rfl
      refine take_n 14 (some 98) #[true, true, true, true, true, true, true, true, true, true, true, true, true, true, true, false, false, false, false, false, false] (v := ?_) (a' := ?_) rfl rfl rfl (by kernel_rfl) (by kernel_rfl) (by kernel_rfl) (fun _ _ _ _ h => h) (Or.inl ⟨by rfl, ?_⟩) hHeld ?_ ?_
      rotate_left 2
      · intro w hSw
        (try dsimp only at hSw)
        go_simp
        all_goals (with_reducible rfl)
      · simp only [Act.put, List.setIfInBounds_toArray, List.set_cons_zero, List.set_cons_succ]
        rfl
      refine take_n 15 (some 99) #[true, true, true, true, true, true, true, true, true, true, true, true, true, true, true, true, false, false, false, false, false] (v := ?_) (a' := ?_) rfl rfl rfl (by kernel_rfl) (by kernel_rfl) (by kernel_rfl) (fun _ _ _ _ h => h) (Or.inl ⟨by rfl, ?_⟩) hHeld ?_ ?_
      rotate_left 2
      · intro w hSw
        (try dsimp only at hSw)
        go_simp
        all_goals (with_reducible rfl)
      · simp only [Act.put, List.setIfInBounds_toArray, List.set_cons_zero, List.set_cons_succ]
        rfl
      refine take_n 16 (some 100) #[true, true, true, true, true, true, true, true, true, true, true, true, true, true, true, true, true, false, false, false, false] (v := ?_) (a' := ?_) rfl rfl rfl (by kernel_rfl) (by kernel_rfl) (by kernel_rfl) (fun _ _ _ _ h => h) (Or.inl ⟨by rfl, ?_⟩) hHeld ?_ ?_
      rotate_left 2
      · intro w hSw
        (try dsimp only at hSw)
        go_simp
        all_goals (with_reducible rfl)
      · simp only [Act.put, List.setIfInBounds_toArray, List.set_cons_zero, List.set_cons_succ]
        rfl
      refine one_n 17 #[true, true, true, true, true, true, true, true, true, true, true, true, true, true, true, true, true, true, false, false, false] rfl rfl (by kernel_rfl) (fun K hK => ?_)
      go_simp
      refine (stage_state i.s1 i.c1 q1 _ (H5.out.1.st1.below ((Below.refl _ W2).drew))).mono ?_
      rintro e w5 ⟨rfl, hb5⟩
      have HB5 := Lib.hid (below_drew hb5)
      have k4 := ((below_drew hb5).cell (p := ⟨i.h, 4, none⟩) zh).trans a4
      have kf := (World.frozen?_of_block (a := ⟨i.h, 4, none⟩) ((below_drew hb5).block i.h zh)).trans af
      have hsid := setCell_id k4
      clear hb5
      refine hK.out _ ?_ _ ?_ ?_ (fun hHeld => ?_)
      rotate_left
      · (try simp only [Act.put, List.setIfInBounds_toArray, List.set_cons_zero, List.set_cons_succ])
        rfl
      · (try dsimp only)
        exact ⟨(HB5.out.cell (p := ⟨w.heap.size, 0, none⟩) z2).trans hHeld.1, (HB5.out.cell (p := ⟨i.h, 0, none⟩) zh).trans hHeld.2.1, (HB5.out.cell (p := ⟨i.la, 1, none⟩) zl).trans hHeld.2.2.1, (HB5.out.cell (p := ⟨i.p1, 0, none⟩) zp).trans hHeld.2.2.2.1, (HB5.out.cell (p := ⟨(w.heap.size + 1), 0, none⟩) z3).trans hHeld.2.2.2.2⟩
      clear hK K
      refine take_n 18 (some 102) #[true, true, true, true, true, true, true, true, true, true, true, true, true, true, true, true, true, true, true, false, false] (v := ?_) (a' := ?_) rfl rfl rfl (by kernel_rfl) (by kernel_rfl) (by kernel_rfl) (fun _ _ _ _ h => h) (Or.inl ⟨by rfl, ?_⟩) hHeld ?_ ?_
      rotate_left 2
      · intro w hSw
        (try dsimp only at hSw)
        go_simp
        all_goals (with_reducible rfl)
      · simp only [Act.put, List.setIfInBounds_toArray, List.set_cons_zero, List.set_cons_succ]
        rfl
      refine take_n 19 (some 103) #[true, true, true, true, true, true, true, true, true, true, true, true, true, true, true, true, true, true, true, true, false] (v := ?_) (a' := ?_) rfl rfl rfl (by kernel_rfl) (by kernel_rfl) (by kernel_rfl) (fun _ _ _ _ h => h) (Or.inl ⟨by rfl, ?_⟩) hHeld ?_ ?_
      rotate_left 2
      · intro w hSw
        (try dsimp only at hSw)
        go_simp
        all_goals (with_reducible rfl)
      · simp only [Act.put, List.setIfInBounds_toArray, List.set_cons_zero, List.set_cons_succ]
        rfl
      refine one_n 20 #[true, true, true, true, true, true, true, true, true, true, true, true, true, true, true, true, true, true, true, true, true] rfl rfl (by kernel_rfl) (fun K hK => ?_)
      go_simp
      refine hK.out _ ?_ _ ?_ ?_ (fun hHeld => ?_)
      rotate_left
      · (try simp only [Act.put, List.setIfInBounds_toArray, List.set_cons_zero, List.set_cons_succ])
        rfl
      · (try dsimp only)
        (try rw [hsid])
        exact hHeld
      clear hK K
      refine wpAnyH_done (by kernel_rfl) ?_ _
      refine NoPanic.normal ?_
      clear hHeld
      go_wp2_with fail
      obtain ⟨hA5, hb5, hKD2, hKD⟩ := H5.out
      have hKD2' := (HB5.out.block D2 (blk_lt hKD2)).trans hKD2
      have hKD' := (HB5.out.block D (blk_lt hKD)).trans hKD
      refine ⟨by simp, .inl ⟨_, _, rfl, run_takeDeferred hKD2', ?_⟩⟩
      have hDD : D ≠ D2 := by have := blk_lt hKD4; omega
      have hKD3 := (World.putObj_heap_other (w := w5) (o := .deferred none) (r := D2) (k := D) (by omega)).trans hKD'
      refine ⟨by simp, .inl ⟨_, _, rfl, run_takeDeferred hKD3, ?_⟩⟩
      refine ⟨_, results_tmp rfl _ _ _, rfl, ?_⟩
      have e1 : w.heap.size ≤ D := Nat.le_trans hb2.size hD
      have e2 : w.heap.size ≤ D2 := Nat.le_trans hb4.size hD2
      exact ((below_step hb5 HB5.out).trans (belowK_b (w := w) (Nat.le_refl _) w5 D2 _ _ e2 hKD2' rfl rfl)).trans (belowK_b (w := w) (Nat.le_refl _) (w5.putObj D2 (.deferred none)) D _ _ e1 hKD3 rfl rfl)
end Go.Proofs.YtdpfmemcpipbkaaGreatDoor.Hand
end
section
/- link.Step of a link that holds nothing. -/
namespace Go.Proofs.YtdpfmemcpipbkaaGreatDoor.Hand
open Go.RowKit
set_option linter.unusedVariables false
set_option linter.unusedSimpArgs false
set_option maxHeartbeats 8000000 in
set_option maxRecDepth 100000 in
theorem link_step0 (lk : Nat) (i : CI) (up : Bool) (seed sent got : Int) (hg0 : 0 ≤ got) (hg1 : got ≤ 100) (q0 q1 : Int) (hq0 : 0 ≤ q0) (hq0' : q0 ≤ 100) (hq1 : 0 ≤ q1) (hq1' : q1 ≤ 100) (w : World) (hl : Blk w lk (linkC i.h up seed sent got) 145) (h : ChainAt w i q0 q1 0 0) : Calls Tryz.prog 38 #[.pointer (some ⟨lk, 0, none⟩), .int .i64 0, .int .i64 1] w fun e w' => e = .returned (.tuple #[.slice none 0 0, .int .i64 0]) ∧ Below w.heap.size w w' := by
  have a0 := blk_cell hl 0
  simp only [linkC, List.getElem?_toArray, List.getElem?_cons_zero, List.getElem?_cons_succ] at a0
  have HP := Lib.hid (chain_step0 i q0 q1 hq0 hq0' w h)
  have HL := Lib.hid hl
  have H := Lib.hid h
  have zl := blk_lt hl
  clear h hl
  go_enter Tryz.func38, Tryz.ntmps38
  go_wp2_with fail
  refine HP.out.mono ?_
  rintro e w1 ⟨rfl, hb1⟩
  have a1 := (hb1.cell (p := ⟨lk, 0, none⟩) zl).trans a0
  have HT := Lib.hid (chain_take0 i q0 q1 hq1 hq1' w1 (H.out.lay (AsLay.of_below hb1)))
  have HB1 := Lib.hid hb1
  clear hb1
  go_wp2_with fail
  refine HT.out.mono ?_
  rintro e w2 ⟨rfl, hb2⟩
  have hb12 := below_step HB1.out hb2
  have hl2 := HL.out.lay (AsLay.of_below hb12)
  have a2 := blk_cell hl2 0
  have n2 := blk_cell hl2 6
  have d2 := blk_cell hl2 9
  have f2 := blk_frozen hl2 6
  simp only [linkC, List.getElem?_toArray, List.getElem?_cons_zero, List.getElem?_cons_succ] at a2 n2 d2
  have hsid := setCell_id n2
  have HS := Lib.hid (chain_step0 i q0 q1 hq0 hq0' w2 (H.out.lay (AsLay.of_below hb12)))
  have HB2 := Lib.hid hb12
  clear hb2 hb12 hl2
  go_wp2_with fail
  refine HS.out.mono ?_
  rintro e w3 ⟨rfl, hb3⟩
  have d3 := (hb3.cell (p := ⟨lk, 9, none⟩) (Nat.lt_of_lt_of_le zl HB2.out.size)).trans d2
  have HB3 := Lib.hid (below_step HB2.out hb3)
  clear hb3
  go_wp2_with fail
  refine bodyPost_ret (results_tmp2 rfl _ _ _) rfl ?_
  exact ⟨rfl, HB3.out⟩
end Go.Proofs.YtdpfmemcpipbkaaGreatDoor.Hand
end
