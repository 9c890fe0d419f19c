/- chain.Step: a byte goes from the first part to the second one. -/
import Derived.Test.YtdpfmemcpipbkaaGreatDoorZStep
section
namespace Go.Proofs.YtdpfmemcpipbkaaGreatDoor.Hand
open Go.RowKit
set_option linter.unusedVariables false
set_option linter.unusedSimpArgs false
attribute [local go_sem] Oper.semAt_some
/-- What the step touches. -/
def XS (i : CI) (w : World) (b : Nat) : Prop := b = i.c0 ∨ b = i.s0 ∨ b = i.c1 ∨ isP i.B w b
theorem XS.mono {i : CI} {w w' : World} {b : Nat} (h : XS i w b) (hp : isP i.B w b → isP i.B w' b) : XS i w' b := h.imp id (fun h => h.imp id (fun h => h.imp id hp))
theorem XS.ofStage {i : CI} {w : World} {q0 q1 : Int} {k0 k1 : Nat} {b : Nat} (h : XS i w b) (hc : ChainAt w i q0 q1 k0 k1) : OfStage w b := by
  obtain ⟨u0, h0⟩ := hc.has0.cargo
  obtain ⟨u1, h1⟩ := hc.has1.cargo
  rcases h with rfl | rfl | rfl | hp
  · exact ⟨_, _, h0, .inl rfl⟩
  · exact ⟨_, _, hc.st0, .inr (.inl rfl)⟩
  · exact ⟨_, _, h1, .inl rfl⟩
  · exact hp.ofStage
theorem XS.not {i : CI} {w : World} {q0 q1 : Int} {k0 k1 : Nat} {b : Nat} {cs : Array Value} {t : TypeId} (hb : Blk w b cs t) (hc : ChainAt w i q0 q1 k0 k1) (h1 : t ≠ 287) (h2 : t ≠ 244) (h3 : t ≠ 296) : ¬ XS i w b := fun h => OfStage.not hb h1 h2 h3 (h.ofStage hc)
def IS (i : CI) (w2 : World) (pre : List Unit) (W : World) : Prop := ((pre = [] ∧ ChainAt W i 0 0 1 0 ∧ CargoIn W i.c1 (.slice none 0 0)) ∨ (pre = [()] ∧ ChainAt W i 1 0 0 1)) ∧ Fr (XS i w2) w2 W
theorem IS.below {i : CI} {w2 W W' : World} {pre : List Unit} (h : IS i w2 pre W) (hb : Below W.heap.size W W') : IS i w2 pre W' :=
  ⟨h.1.imp (fun ⟨a, b, c⟩ => ⟨a, b.lay (AsLay.of_below hb), c.lay (AsLay.of_below hb)⟩) (fun ⟨a, b⟩ => ⟨a, b.lay (AsLay.of_below hb)⟩), h.2.then_below hb⟩
theorem IS.own (i : CI) (w2 : World) : OwnFrom w2.heap.size (IS i w2) := fun pre A B row h hg hr =>
  have l := AsLay.of_grown hg (fun r e => (hr r e).2)
  ⟨h.1.imp (fun ⟨a, b, c⟩ => ⟨a, b.lay l, c.lay l⟩) (fun ⟨a, b⟩ => ⟨a, b.lay l⟩), h.2.grown hg (fun r e => (hr r e).1)⟩
theorem KeepsFrom.of_fr {X : Nat → Prop} {B : Nat} {W W' : World} (hf : Fr X W W') (hX : ∀ b, X b → OfStage W b) : KeepsFrom B W W' :=
  ⟨hf.size, fun k o _ hk ho => (hf.block k (blk_lt hk) (fun hx => by
    obtain ⟨cs, t, hb, _⟩ := hX k hx
    unfold Blk at hb
    rw [hb] at hk
    injection hk with h1
    subst h1
    exact absurd ho (by simp [Obj.isCells]))).trans hk⟩
theorem Keep3.of_fr {X : Nat → Prop} {a b c : Nat} {W W' : World} (hf : Fr X W W') (ha : ¬ X a) (hb : ¬ X b) (hc : ¬ X c) : Keep3 a b c W W' := fun cs t => ⟨fun h => h.fr hf ha, fun h => h.fr hf hb, fun h => h.fr hf hc⟩
theorem XS.back {i : CI} {w2 W : World} {q0 q1 : Int} {k0 k1 : Nat} {b : Nat} (h : XS i W b) (hc : ChainAt w2 i q0 q1 k0 k1) (hf : Fr (XS i w2) w2 W) (hb : b < w2.heap.size) : XS i w2 b := by
  by_cases hx : XS i w2 b
  · exact hx
  · exact h.mono (fun ⟨hB, cur, hp⟩ => ⟨hB, cur, (hf.block b hb hx).symm.trans hp⟩)
set_option maxHeartbeats 16000000 in
set_option maxRecDepth 100000 in
theorem chain_step1 (i : CI) (w : World) (h : ChainAt w i 0 0 1 0) (hcn : CargoIn w i.c1 (.slice none 0 0)) : Calls Tryz.prog 70 #[.pointer (some ⟨i.h, 0, none⟩), .int .i64 0] w fun e w' => e = .returned (.int .i64 0) ∧ ChainAt w' i 1 0 0 1 ∧ Fr (XS i w) w w' := by
  have hb0 : Below w.heap.size w ((w.alloc (.cells #[.pointer (some ⟨i.h, 0, none⟩)] 137)).alloc (.cells #[.int .i64 0] 3)) := below_alloc (below_alloc (Below.refl _ w) _ (Nat.le_refl _)) _ (Nat.le_refl _)
  have b2 : Blk ((w.alloc (.cells #[.pointer (some ⟨i.h, 0, none⟩)] 137)).alloc (.cells #[.int .i64 0] 3)) w.heap.size #[.pointer (some ⟨i.h, 0, none⟩)] 137 := heap_old _ (heap_alloc_new w _)
  have b3 : Blk ((w.alloc (.cells #[.pointer (some ⟨i.h, 0, none⟩)] 137)).alloc (.cells #[.int .i64 0] 3)) (w.heap.size + 1) #[.int .i64 0] 3 := by
    have := heap_alloc_new (w.alloc (.cells #[.pointer (some ⟨i.h, 0, none⟩)] 137)) (.cells #[.int .i64 0] 3)
    rwa [World.size_alloc] at this
  have h0 := h.lay (AsLay.of_below hb0)
  have hn0 := hcn.lay (AsLay.of_below hb0)
  refine (callsIn_wide (n := 6)).1 ?_
  refine callsIn_of_wp_marks Tryz.func70 rfl trivial ?_ rfl
  refine wpIn_wide.2 ?_
  simp only [Tryz.ntmps70, List.size_toArray, List.length_cons, List.length_nil, Nat.reduceAdd, Nat.reduceSub, Array.replicate_succ, Array.replicate_zero, List.push_toArray, List.append_toArray, List.nil_append, List.cons_append]
  have a4 := blk_cell h0.chain 4
  have z4 := blk_lt h0.chain
  simp only [List.getElem?_toArray, List.getElem?_cons_zero, List.getElem?_cons_succ] at a4
  have HB := Lib.hid (chain_broken i 0 0 1 0 _ h0)
  have H0 := Lib.hid (And.intro hb0 (And.intro b2 (And.intro b3 (And.intro h0 hn0))))
  clear hb0 b2 b3 h0 h hn0 hcn
  go_wp2_with fail
  refine HB.out.mono ?_
  rintro e w1 ⟨rfl, hb1⟩
  obtain ⟨hb0, b2, b3, h0, hn0⟩ := H0.out
  have hb01 := below_step hb0 hb1
  have l1 := AsLay.of_below hb1
  have b2' := b2.lay l1
  have b3' := b3.lay l1
  have c20 := blk_cell b2' 0
  have c30 := blk_cell b3' 0
  simp only [List.getElem?_toArray, List.getElem?_cons_zero] at c20 c30
  have H1 := Lib.hid (And.intro hb01 (And.intro b2' (And.intro b3' (And.intro (h0.lay l1) (hn0.lay l1)))))
  have HP := Lib.hid (pairs_calls i w1)
  clear hb1 hb0 b2 b3 h0 hn0 hb01 l1 b2' b3'
  go_wp2_with fail
  refine HP.out.mono ?_
  rintro e w2 ⟨rfl, hw2⟩
  have hb2 : Below w1.heap.size w1 w2 := by rw [hw2]; exact below_alloc (Below.refl _ w1) _ (Nat.le_refl _)
  have bx : Blk w2 w1.heap.size #[.pointer (some ⟨i.h, 0, none⟩)] 137 := by rw [hw2]; exact heap_alloc_new w1 _
  obtain ⟨hb01, b2, b3, h1, hn1⟩ := H1.out
  have l2 := AsLay.of_below hb2
  have H2 := Lib.hid (And.intro (below_step hb01 hb2) (And.intro (b2.lay l2) (And.intro (b3.lay l2) (And.intro (h1.lay l2) (And.intro (hn1.lay l2) bx)))))
  clear hw2 hb2 bx hb01 b2 b3 h1 hn1 l2
  go_wp2_with fail
  obtain ⟨hb2, bb2, bb3, h2, hn2, bx⟩ := H2.out
  refine (wpIn_wide (n := 6)).1 ?_
  refine wpIn_rangeFunc_ownH (α := Unit) rfl (by omega) (gf := 185) (lb := #[.pointer (some ⟨w1.heap.size, 0, none⟩)]) rfl trivial (enters_of Tryz.func185 (by kernel_rfl) rfl)
    (encs := fun _ => pairA i) (Kp := Keep3 w1.heap.size i.h i.la) (S := fun ys => ys = [()]) (Sp := fun _ => True) (N := 1) (w0 := w2)
    (fun l J Jx W hW hJ _ hY h0 => pairs1 (6 - 1) (by omega) i w1.heap.size l J Jx W (bx.lay (AsLay.of_below hW)) (h2.chain.lay (AsLay.of_below hW)) (h2.list.lay (AsLay.of_below hW)) hJ hY h0)
    (fun h k => h.trans k) (fun W l o o' _ hl ho _ => keep3_put _ _ _ W l o o' hl ho) (Below.refl _ _) (fun _ => rfl)
    (fun pre W => IS i w2 pre W) (fun _ _ _ => False)
    (IS.own i w2) (fun _ _ _ _ _ hs _ _ => hs) ⟨.inl ⟨rfl, h2, hn2⟩, Fr.refl _ _⟩
    (fun _ a' W => ∃ B, w2.heap.size ≤ B ∧ Blk W B (sideC i) 190 ∧ a' = { tmps := #[.pointer (some ⟨i.h, 0, none⟩), .int .i64 0, .pointer (some ⟨w.heap.size, 0, none⟩), .pointer (some ⟨w.heap.size + 1, 0, none⟩), .int .i64 0, undef, .pointer (some ⟨B, 0, none⟩), undef, undef, .pointer (some ⟨i.h, 0, none⟩), .pointer (some ⟨i.h, 0, none⟩), .pointer (some ⟨i.h, 4, none⟩), .int .i64 0, .bool false, undef, undef, undef, undef, .pointer (some ⟨i.h, 0, none⟩), .int .i64 0, .bool false, undef, undef, undef, undef, undef, undef, undef, .pointer (some ⟨i.h, 0, none⟩), .func (.func 185) #[] #[.pointer (some ⟨w1.heap.size, 0, none⟩)], .int .i64 1, .agg (sideC i), undef, undef, undef, undef, undef, undef, undef, undef, undef, undef, undef, undef, undef, undef, undef, undef, undef, undef, undef, undef, undef, undef, undef, undef, undef, undef, undef, undef, undef, undef, undef, undef, undef, undef, undef, undef, undef, undef, undef, undef, undef, undef, undef, undef, undef, undef, undef, undef, undef, undef, undef, undef, undef, undef, undef, undef, undef, undef, undef, undef, undef, undef, undef, undef, undef, undef, undef, undef, undef, undef, undef, undef, undef, undef, undef, undef], defers := [] })
    (fun x a' => fun _ A B row hs hg hr => by
      obtain ⟨b, h1, h2, h3⟩ := hs
      exact ⟨b, h1, h2.lay (AsLay.of_grown hg (fun r e => (hr r e).2)), h3⟩) ?assign ?body ?done ?stop
  case assign =>
    intro l pre x W K hi hK
    unfold pairA
    gi_wp2
    exact hK _ _ ((KeepsOthers.alloc _ _).from _) (Keep3.of_lay (AsLay.of_below (below_alloc (Below.refl _ W) _ (Nat.le_refl _)))) (hi.below (below_alloc (Below.refl _ W) _ (Nat.le_refl _))) ⟨W.heap.size, hi.2.size, heap_alloc_new W _, rfl⟩
  case body =>
    rintro l pre x a' W hl _ hI ⟨B, hB, bB, rfl⟩ hlen
    have hpre : pre = [] := List.eq_nil_of_length_eq_zero (by omega)
    subst hpre
    obtain ⟨hor, hFr⟩ := hI
    obtain ⟨hA, hn⟩ : ChainAt W i 0 0 1 0 ∧ CargoIn W i.c1 (.slice none 0 0) := by
      rcases hor with ⟨_, h1, h2⟩ | ⟨h1, _⟩
      · exact ⟨h1, h2⟩
      · cases h1
    have hn3 := bb3.fr hFr (XS.not (bb3) h2 (by decide) (by decide) (by decide))
    have g0 := blk_cell bB 0
    have g1 := blk_cell bB 1
    have p0 := blk_cell hA.part0 0
    have p1 := blk_cell hA.part1 0
    have n0 := blk_cell hn3 0
    unfold sideC at g0 g1
    simp only [List.getElem?_toArray, List.getElem?_cons_zero, List.getElem?_cons_succ] at g0 g1 p0 p1 n0
    have zB := blk_lt bB
    have zp0 := blk_lt hA.part0
    have zp1 := blk_lt hA.part1
    have zn := blk_lt hn3
    have HA := Lib.hid hA
    have HI := Lib.hid (And.intro hFr hn)
    have HBB := Lib.hid (And.intro bB hn3)
    clear hA hor hFr hn hn3
    gi_wp2
    refine start_round (S := fun W => W.cell? ⟨B, 1, none⟩ = some (.pointer (some ⟨i.p1, 0, none⟩)) ∧ W.cell? ⟨i.p1, 0, none⟩ = some (.pointer (some ⟨i.s1, 0, none⟩)) ∧ W.cell? ⟨w.heap.size + 1, 0, none⟩ = some (.int .i64 0)) l 4 8 #[false, false, false, false, false, false, false, false] (by kernel_rfl) (by kernel_rfl) ?_ rfl rfl ?_ (fun hHeld => ?_)
    · rintro ⟨_, _, h⟩
      exact h
    · (try dsimp only)
      exact ⟨g1, p1, n0⟩
    refine take_n 0 (some 32) #[true, false, false, false, false, false, false, false] (v := ?_) (a' := ?_) rfl rfl rfl (by kernel_rfl) (by kernel_rfl) (by kernel_rfl) (fun _ _ _ _ h => h) (Or.inl ⟨by rfl, ?_⟩) hHeld ?_ ?_
    rotate_left 2
    · intro w hSw
      (try dsimp only at hSw)
      go_simp
      all_goals (with_reducible rfl)
    · simp only [Act.put, List.setIfInBounds_toArray, List.set_cons_zero, List.set_cons_succ]
      rfl
    refine take_n 1 (some 33) #[true, true, false, false, false, false, false, false] (v := ?_) (a' := ?_) rfl rfl rfl (by kernel_rfl) (by kernel_rfl) (by kernel_rfl) (fun _ _ _ _ h => h) (Or.inl ⟨by rfl, ?_⟩) hHeld ?_ ?_
    rotate_left 2
    · intro w hSw
      (try dsimp only at hSw)
      go_simp
      all_goals (with_reducible rfl)
    · simp only [Act.put, List.setIfInBounds_toArray, List.set_cons_zero, List.set_cons_succ]
      rfl
    refine take_n 2 (some 34) #[true, true, true, false, false, false, false, false] (v := ?_) (a' := ?_) rfl rfl rfl (by kernel_rfl) (by kernel_rfl) (by kernel_rfl) (fun _ _ _ _ h => h) (Or.inl ⟨by rfl, ?_⟩) hHeld ?_ ?_
    rotate_left 2
    · intro w hSw
      (try dsimp only at hSw)
      go_simp
      all_goals (with_reducible rfl)
    · simp only [Act.put, List.setIfInBounds_toArray, List.set_cons_zero, List.set_cons_succ]
      rfl
    refine take_n 3 (some 35) #[true, true, true, true, false, false, false, false] (v := ?_) (a' := ?_) rfl rfl rfl (by kernel_rfl) (by kernel_rfl) (by kernel_rfl) (fun _ _ _ _ h => h) (Or.inl ⟨by rfl, ?_⟩) hHeld ?_ ?_
    rotate_left 2
    · intro w hSw
      (try dsimp only at hSw)
      go_simp
      all_goals (with_reducible rfl)
    · simp only [Act.put, List.setIfInBounds_toArray, List.set_cons_zero, List.set_cons_succ]
      rfl
    refine take_n 4 (some 36) #[true, true, true, true, true, false, false, false] (v := ?_) (a' := ?_) rfl rfl rfl (by kernel_rfl) (by kernel_rfl) (by kernel_rfl) (fun _ _ _ _ h => h) (Or.inl ⟨by rfl, ?_⟩) hHeld ?_ ?_
    rotate_left 2
    · intro w hSw
      (try dsimp only at hSw)
      go_simp
      all_goals (with_reducible rfl)
    · simp only [Act.put, List.setIfInBounds_toArray, List.set_cons_zero, List.set_cons_succ]
      rfl
    refine take_n 5 (some 37) #[true, true, true, true, true, true, false, false] (v := ?_) (a' := ?_) rfl rfl rfl (by kernel_rfl) (by kernel_rfl) (by kernel_rfl) (fun _ _ _ _ h => h) (Or.inl ⟨by rfl, ?_⟩) hHeld ?_ ?_
    rotate_left 2
    · intro w hSw
      (try dsimp only at hSw)
      go_simp
      all_goals (with_reducible rfl)
    · simp only [Act.put, List.setIfInBounds_toArray, List.set_cons_zero, List.set_cons_succ]
      rfl
    refine one_n 6 #[true, true, true, true, true, true, true, false] rfl rfl (by kernel_rfl) (fun K hK => ?_)
    go_simp
    refine (stage_state i.s1 i.c1 0 _ (HA.out.st1.below ((Below.refl _ W).drew))).mono ?_
    rintro e w3 ⟨rfl, hb3⟩
    have HB3 := Lib.hid (below_drew hb3)
    clear hb3
    refine hK.out _ ?_ _ ?_ ?_ (fun hHeld => ?_)
    rotate_left
    · (try simp only [Act.put, List.setIfInBounds_toArray, List.set_cons_zero, List.set_cons_succ])
      rfl
    · (try dsimp only)
      exact ⟨(HB3.out.cell (p := ⟨B, 1, none⟩) zB).trans hHeld.1, (HB3.out.cell (p := ⟨i.p1, 0, none⟩) zp1).trans hHeld.2.1, (HB3.out.cell (p := ⟨(w.heap.size + 1), 0, none⟩) zn).trans hHeld.2.2⟩
    clear hK K
    refine take_n 7 (some 39) #[true, true, true, true, true, true, true, true] (v := ?_) (a' := ?_) rfl rfl rfl (by kernel_rfl) (by kernel_rfl) (by kernel_rfl) (fun _ _ _ _ h => h) (Or.inl ⟨by rfl, ?_⟩) hHeld ?_ ?_
    rotate_left 2
    · intro w hSw
      (try dsimp only at hSw)
      go_simp
      all_goals (with_reducible rfl)
    · simp only [Act.put, List.setIfInBounds_toArray, List.set_cons_zero, List.set_cons_succ]
      rfl
    refine wpAnyH_done (by kernel_rfl) ?_ _
    have l3 := AsLay.of_below HB3.out
    have hA3 := HA.out.lay l3
    have g0 := (HB3.out.cell (p := ⟨B, 0, none⟩) zB).trans g0
    have g1 := (HB3.out.cell (p := ⟨B, 1, none⟩) zB).trans g1
    have p0 := (HB3.out.cell (p := ⟨i.p0, 0, none⟩) zp0).trans p0
    have p1 := (HB3.out.cell (p := ⟨i.p1, 0, none⟩) zp1).trans p1
    have n0 := (HB3.out.cell (p := ⟨w.heap.size + 1, 0, none⟩) zn).trans n0
    have sz3 := HB3.out.size
    have zB3 : B < w3.heap.size := by omega
    have zp03 : i.p0 < w3.heap.size := by omega
    have zp13 : i.p1 < w3.heap.size := by omega
    have zn3 : w.heap.size + 1 < w3.heap.size := by omega
    have HA3 := Lib.hid hA3
    have HN3 := Lib.hid (HI.out.2.lay l3)
    have HBB3 := Lib.hid (And.intro (HBB.out.1.lay l3) (HBB.out.2.lay l3))
    clear hA3 l3
    gi_wp2
    refine start_round (S := fun W => W.cell? ⟨B, 0, none⟩ = some (.pointer (some ⟨i.p0, 0, none⟩)) ∧ W.cell? ⟨B, 1, none⟩ = some (.pointer (some ⟨i.p1, 0, none⟩)) ∧ W.cell? ⟨i.p0, 0, none⟩ = some (.pointer (some ⟨i.s0, 0, none⟩)) ∧ W.cell? ⟨i.p1, 0, none⟩ = some (.pointer (some ⟨i.s1, 0, none⟩)) ∧ W.cell? ⟨w.heap.size + 1, 0, none⟩ = some (.int .i64 0)) l 4 20 #[false, false, false, false, false, false, false, false, false, false, false, false, false, false, false, false, false, false, false, false] (by kernel_rfl) (by kernel_rfl) ?_ rfl rfl ?_ (fun hHeld => ?_)
    · rintro ⟨_, _, h⟩
      exact h
    · (try dsimp only)
      exact ⟨g0, g1, p0, p1, n0⟩
    refine take_n 0 (some 40) #[true, false, false, false, false, false, false, false, false, false, false, false, false, false, false, false, false, false, false, false] (v := ?_) (a' := ?_) rfl rfl rfl (by kernel_rfl) (by kernel_rfl) (by kernel_rfl) (fun _ _ _ _ h => h) (Or.inl ⟨by rfl, ?_⟩) hHeld ?_ ?_
    rotate_left 2
    · intro w hSw
      (try dsimp only at hSw)
      go_simp
      all_goals (with_reducible rfl)
    · simp only [Act.put, List.setIfInBounds_toArray, List.set_cons_zero, List.set_cons_succ]
      rfl
    refine take_n 1 (some 41) #[true, true, false, false, false, false, false, false, false, false, false, false, false, false, false, false, false, false, false, false] (v := ?_) (a' := ?_) rfl rfl rfl (by kernel_rfl) (by kernel_rfl) (by kernel_rfl) (fun _ _ _ _ h => h) (Or.inl ⟨by rfl, ?_⟩) hHeld ?_ ?_
    rotate_left 2
    · intro w hSw
      (try dsimp only at hSw)
      go_simp
      all_goals (with_reducible rfl)
    · simp only [Act.put, List.setIfInBounds_toArray, List.set_cons_zero, List.set_cons_succ]
      rfl
    refine take_n 2 (some 42) #[true, true, true, false, false, false, false, false, false, false, false, false, false, false, false, false, false, false, false, false] (v := ?_) (a' := ?_) rfl rfl rfl (by kernel_rfl) (by kernel_rfl) (by kernel_rfl) (fun _ _ _ _ h => h) (Or.inl ⟨by rfl, ?_⟩) hHeld ?_ ?_
    rotate_left 2
    · intro w hSw
      (try dsimp only at hSw)
      go_simp
      all_goals (with_reducible rfl)
    · simp only [Act.put, List.setIfInBounds_toArray, List.set_cons_zero, List.set_cons_succ]
      rfl
    refine take_n 3 (some 43) #[true, true, true, true, false, false, false, false, false, false, false, false, false, false, false, false, false, false, false, false] (v := ?_) (a' := ?_) rfl rfl rfl (by kernel_rfl) (by kernel_rfl) (by kernel_rfl) (fun _ _ _ _ h => h) (Or.inl ⟨by rfl, ?_⟩) hHeld ?_ ?_
    rotate_left 2
    · intro w hSw
      (try dsimp only at hSw)
      go_simp
      all_goals (with_reducible rfl)
    · simp only [Act.put, List.setIfInBounds_toArray, List.set_cons_zero, List.set_cons_succ]
      rfl
    refine take_n 4 (some 44) #[true, true, true, true, true, false, false, false, false, false, false, false, false, false, false, false, false, false, false, false] (v := ?_) (a' := ?_) rfl rfl rfl (by kernel_rfl) (by kernel_rfl) (by kernel_rfl) (fun _ _ _ _ h => h) (Or.inl ⟨by rfl, ?_⟩) hHeld ?_ ?_
    rotate_left 2
    · intro w hSw
      (try dsimp only at hSw)
      go_simp
      all_goals (with_reducible rfl)
    · simp only [Act.put, List.setIfInBounds_toArray, List.set_cons_zero, List.set_cons_succ]
      rfl
    refine take_n 5 (some 45) #[true, true, true, true, true, true, false, false, false, false, false, false, false, false, false, false, false, false, false, false] (v := ?_) (a' := ?_) rfl rfl rfl (by kernel_rfl) (by kernel_rfl) (by kernel_rfl) (fun _ _ _ _ h => h) (Or.inl ⟨by rfl, ?_⟩) hHeld ?_ ?_
    rotate_left 2
    · intro w hSw
      (try dsimp only at hSw)
      go_simp
      all_goals (with_reducible rfl)
    · simp only [Act.put, List.setIfInBounds_toArray, List.set_cons_zero, List.set_cons_succ]
      rfl
    refine take_n 6 (some 46) #[true, true, true, true, true, true, true, false, false, false, false, false, false, false, false, false, false, false, false, false] (v := ?_) (a' := ?_) rfl rfl rfl (by kernel_rfl) (by kernel_rfl) (by kernel_rfl) (fun _ _ _ _ h => h) (Or.inl ⟨by rfl, ?_⟩) hHeld ?_ ?_
    rotate_left 2
    · intro w hSw
      (try dsimp only at hSw)
      go_simp
      all_goals (with_reducible rfl)
    · simp only [Act.put, List.setIfInBounds_toArray, List.set_cons_zero, List.set_cons_succ]
      rfl
    refine take_n 7 (some 47) #[true, true, true, true, true, true, true, true, false, false, false, false, false, false, false, false, false, false, false, false] (v := ?_) (a' := ?_) rfl rfl rfl (by kernel_rfl) (by kernel_rfl) (by kernel_rfl) (fun _ _ _ _ h => h) (Or.inl ⟨by rfl, ?_⟩) hHeld ?_ ?_
    rotate_left 2
    · intro w hSw
      (try dsimp only at hSw)
      go_simp
      all_goals (with_reducible rfl)
    · simp only [Act.put, List.setIfInBounds_toArray, List.set_cons_zero, List.set_cons_succ]
      rfl
    refine take_n 8 (some 48) #[true, true, true, true, true, true, true, true, true, false, false, false, false, false, false, false, false, false, false, false] (v := ?_) (a' := ?_) rfl rfl rfl (by kernel_rfl) (by kernel_rfl) (by kernel_rfl) (fun _ _ _ _ h => h) (Or.inl ⟨by rfl, ?_⟩) hHeld ?_ ?_
    rotate_left 2
    · intro w hSw
      (try dsimp only at hSw)
      go_simp
      all_goals (with_reducible rfl)
    · simp only [Act.put, List.setIfInBounds_toArray, List.set_cons_zero, List.set_cons_succ]
      rfl
    refine take_n 9 (some 49) #[true, true, true, true, true, true, true, true, true, true, false, false, false, false, false, false, false, false, false, false] (v := ?_) (a' := ?_) rfl rfl rfl (by kernel_rfl) (by kernel_rfl) (by kernel_rfl) (fun _ _ _ _ h => h) (Or.inl ⟨by rfl, ?_⟩) hHeld ?_ ?_
    rotate_left 2
    · intro w hSw
      (try dsimp only at hSw)
      go_simp
      all_goals (with_reducible rfl)
    · simp only [Act.put, List.setIfInBounds_toArray, List.set_cons_zero, List.set_cons_succ]
      rfl
    refine take_n 10 (some 50) #[true, true, true, true, true, true, true, true, true, true, true, false, false, false, false, false, false, false, false, false] (v := ?_) (a' := ?_) rfl rfl rfl (by kernel_rfl) (by kernel_rfl) (by kernel_rfl) (fun _ _ _ _ h => h) (Or.inl ⟨by rfl, ?_⟩) hHeld ?_ ?_
    rotate_left 2
    · intro w hSw
      (try dsimp only at hSw)
      go_simp
      all_goals (with_reducible rfl)
    · simp only [Act.put, List.setIfInBounds_toArray, List.set_cons_zero, List.set_cons_succ]
      rfl
    refine take_n 11 (some 51) #[true, true, true, true, true, true, true, true, true, true, true, true, false, false, false, false, false, false, false, false] (v := ?_) (a' := ?_) rfl rfl rfl (by kernel_rfl) (by kernel_rfl) (by kernel_rfl) (fun _ _ _ _ h => h) (Or.inl ⟨by rfl, ?_⟩) hHeld ?_ ?_
    rotate_left 2
    · intro w hSw
      (try dsimp only at hSw)
      go_simp
      all_goals (with_reducible rfl)
    · simp only [Act.put, List.setIfInBounds_toArray, List.set_cons_zero, List.set_cons_succ]
      rfl
    refine take_n 12 (some 52) #[true, true, true, true, true, true, true, true, true, true, true, true, true, false, false, false, false, false, false, false] (v := ?_) (a' := ?_) rfl rfl rfl (by kernel_rfl) (by kernel_rfl) (by kernel_rfl) (fun _ _ _ _ h => h) (Or.inl ⟨by rfl, ?_⟩) hHeld ?_ ?_
    rotate_left 2
    · intro w hSw
      (try dsimp only at hSw)
      go_simp
      all_goals (with_reducible rfl)
    · simp only [Act.put, List.setIfInBounds_toArray, List.set_cons_zero, List.set_cons_succ]
      rfl
    refine take_n 13 (some 53) #[true, true, true, true, true, true, true, true, true, true, true, true, true, true, false, false, false, false, false, false] (v := ?_) (a' := ?_) rfl rfl rfl (by kernel_rfl) (by kernel_rfl) (by kernel_rfl) (fun _ _ _ _ h => h) (Or.inl ⟨by rfl, ?_⟩) hHeld ?_ ?_
    rotate_left 2
    · intro w hSw
      (try dsimp only at hSw)
      go_simp
      all_goals (with_reducible rfl)
    · simp only [Act.put, List.setIfInBounds_toArray, List.set_cons_zero, List.set_cons_succ]
      rfl
    refine take_n 14 (some 54) #[true, true, true, true, true, true, true, true, true, true, true, true, true, true, true, false, false, false, false, false] (v := ?_) (a' := ?_) rfl rfl rfl (by kernel_rfl) (by kernel_rfl) (by kernel_rfl) (fun _ _ _ _ h => h) (Or.inl ⟨by rfl, ?_⟩) hHeld ?_ ?_
    rotate_left 2
    · intro w hSw
      (try dsimp only at hSw)
      go_simp
      all_goals (with_reducible rfl)
    · simp only [Act.put, List.setIfInBounds_toArray, List.set_cons_zero, List.set_cons_succ]
      rfl
    refine take_n 15 (some 55) #[true, true, true, true, true, true, true, true, true, true, true, true, true, true, true, true, false, false, false, false] (v := ?_) (a' := ?_) rfl rfl rfl (by kernel_rfl) (by kernel_rfl) (by kernel_rfl) (fun _ _ _ _ h => h) (Or.inl ⟨by rfl, ?_⟩) hHeld ?_ ?_
    rotate_left 2
    · intro w hSw
      (try dsimp only at hSw)
      go_simp
      all_goals (with_reducible rfl)
    · simp only [Act.put, List.setIfInBounds_toArray, List.set_cons_zero, List.set_cons_succ]
      rfl
    refine take_n 16 (some 56) #[true, true, true, true, true, true, true, true, true, true, true, true, true, true, true, true, true, false, false, false] (v := ?_) (a' := ?_) rfl rfl rfl (by kernel_rfl) (by kernel_rfl) (by kernel_rfl) (fun _ _ _ _ h => h) (Or.inl ⟨by rfl, ?_⟩) hHeld ?_ ?_
    rotate_left 2
    · intro w hSw
      (try dsimp only at hSw)
      go_simp
      all_goals (with_reducible rfl)
    · simp only [Act.put, List.setIfInBounds_toArray, List.set_cons_zero, List.set_cons_succ]
      rfl
    refine one_n 17 #[true, true, true, true, true, true, true, true, true, true, true, true, true, true, true, true, true, true, false, false] rfl rfl (by kernel_rfl) (fun K hK => ?_)
    go_simp
    refine (stage_free i.s1 i.c1 0 _ (HA3.out.st1.below ((Below.refl _ w3).drew)) HA3.out.has1.drew).mono ?_
    rintro e w4 ⟨rfl, hb4⟩
    have HB4 := Lib.hid (below_drew hb4)
    clear hb4
    have sz4 := HB4.out.size
    have zB4 : B < w4.heap.size := by omega
    have zp04 : i.p0 < w4.heap.size := by omega
    have zp14 : i.p1 < w4.heap.size := by omega
    have zn4 : w.heap.size + 1 < w4.heap.size := by omega
    have hA4 := HA3.out.lay (AsLay.of_below HB4.out)
    have bB4 := HBB3.out.1.lay (AsLay.of_below HB4.out)
    have bn4 := HBB3.out.2.lay (AsLay.of_below HB4.out)
    have hn4 := HN3.out.lay (AsLay.of_below HB4.out)
    have H4 := Lib.hid (And.intro hA4 (And.intro bB4 (And.intro bn4 hn4)))
    clear hA4 bB4 bn4 hn4
    refine hK.out _ ?_ _ ?_ ?_ (fun hHeld => ?_)
    rotate_left
    · (try simp only [Act.put, List.setIfInBounds_toArray, List.set_cons_zero, List.set_cons_succ])
      rfl
    · (try dsimp only)
      exact ⟨(HB4.out.cell (p := ⟨B, 0, none⟩) zB3).trans hHeld.1, (HB4.out.cell (p := ⟨B, 1, none⟩) zB3).trans hHeld.2.1, (HB4.out.cell (p := ⟨i.p0, 0, none⟩) zp03).trans hHeld.2.2.1, (HB4.out.cell (p := ⟨i.p1, 0, none⟩) zp13).trans hHeld.2.2.2.1, (HB4.out.cell (p := ⟨(w.heap.size + 1), 0, none⟩) zn3).trans hHeld.2.2.2.2⟩
    clear hK K
    refine one_n 18 #[true, true, true, true, true, true, true, true, true, true, true, true, true, true, true, true, true, true, true, false] rfl rfl (by kernel_rfl) (fun K hK => ?_)
    go_simp
    refine (stage_take1 i.s0 i.c0 5 (by omega) 0 (by omega) (by omega) _ H4.out.1.st0 H4.out.1.has0).mono ?_
    rintro e w5 ⟨g5, c5, rfl, hB5, hl5, hby5, hh5, hs5, hf5⟩
    obtain ⟨hA4, bB4, bn4, hn4⟩ := H4.out
    have hA5 := hA4.take0 hf5 hh5 hs5
    have hn5 : CargoIn w5 i.c1 (.slice none 0 0) := Blk.fr hn4 hf5 (by
      rintro (e | e | hp)
      · exact hA4.nec e.symm
      · exact hA4.st0.ne_cargo hn4 e.symm
      · exact isP.not hn4 (by decide) hp)
    have hf5' : Fr (XS i w4) w4 w5 := hf5.mono (fun b _ h => h.imp id (fun h => h.imp id .inr))
    have bB5 := bB4.fr hf5' (XS.not bB4 hA4 (by decide) (by decide) (by decide))
    have bn5 := bn4.fr hf5' (XS.not bn4 hA4 (by decide) (by decide) (by decide))
    have hW4 : Fr (XS i W) W w4 := (Fr.of_below (X := XS i W) HB3.out).then_below HB4.out
    have hW5 : Fr (XS i W) W w5 := hW4.trans hf5' (fun _ e => e) (fun b hb e => e.back HA.out hW4 hb)
    have H5 := Lib.hid (And.intro hA5 (And.intro bB5 (And.intro bn5 (And.intro hn5 (And.intro hW5 (And.intro hby5 hl5))))))
    clear hA4 bB4 bn4 hn4 hA5 hn5 hf5' bB5 bn5 hW4 hW5 hB5 hl5 hby5 hh5 hs5 hf5
    refine hK.out _ ?_ _ ?_ ?_ (fun hHeld => ?_)
    rotate_left
    · (try simp only [Act.put, List.setIfInBounds_toArray, List.set_cons_zero, List.set_cons_succ])
      rfl
    · (try dsimp only)
      exact ⟨blk_cell H5.out.2.1 0, blk_cell H5.out.2.1 1, blk_cell H5.out.1.part0 0, blk_cell H5.out.1.part1 0, blk_cell H5.out.2.2.1 0⟩
    clear hK K
    refine one_n 19 #[true, true, true, true, true, true, true, true, true, true, true, true, true, true, true, true, true, true, true, true] rfl rfl (by kernel_rfl) (fun K hK => ?_)
    go_simp
    refine (stage_force1 (B := i.B) i.s1 i.c1 g5 0 c5 0 _ H5.out.1.st1 H5.out.2.2.2.1 H5.out.2.2.2.2.2.1 H5.out.2.2.2.2.2.2 (Nat.le_trans H5.out.1.hb (Nat.le_of_lt (blk_lt H5.out.1.chain)))).mono ?_
    rintro e w6 ⟨rfl, hh6, hf6⟩
    obtain ⟨hA5, bB5, bn5, hn5, hW5, _, _⟩ := H5.out
    have hA6 := hA5.put1 hf6 hh6
    have bB6 := bB5.fr hf6 (fun e => Blk.ne bB5 hn5 (by decide) e)
    have bn6 := bn5.fr hf6 (fun e => Blk.ne bn5 hn5 (by decide) e)
    have hW6 : Fr (XS i W) W w6 := hW5.trans hf6 (fun _ e => e) (fun b hb e => .inr (.inr (.inl e)))
    have H6 := Lib.hid (And.intro hA6 hW6)
    have HK6 := Lib.hid (And.intro bB6 bn6)
    clear hA5 bB5 bn5 hn5 hW5 hA6 bB6 bn6 hW6 hh6 hf6
    refine hK.out _ ?_ _ ?_ ?_ (fun hHeld => ?_)
    rotate_left
    · (try simp only [Act.put, List.setIfInBounds_toArray, List.set_cons_zero, List.set_cons_succ])
      rfl
    · (try dsimp only)
      exact ⟨blk_cell HK6.out.1 0, blk_cell HK6.out.1 1, blk_cell H6.out.1.part0 0, blk_cell H6.out.1.part1 0, blk_cell HK6.out.2 0⟩
    clear hK K
    refine wpAnyH_done (by kernel_rfl) ?_ _
    gi_wp2
    exact ⟨KeepsFrom.of_fr H6.out.2 (fun b hx => hx.ofStage HA.out), Keep3.of_fr H6.out.2 (XS.not (bx.fr HI.out.1 (XS.not bx h2 (by decide) (by decide) (by decide))) HA.out (by decide) (by decide) (by decide)) (XS.not HA.out.chain HA.out (by decide) (by decide) (by decide)) (XS.not HA.out.list HA.out (by decide) (by decide) (by decide)), .inr ⟨rfl, H6.out.1⟩, HI.out.1.trans H6.out.2 (fun _ e => e) (fun b hb e => e.back h2 HI.out.1 hb)⟩
  case stop =>
    rintro D c pre W _ _ h _
    exact h.elim
  case done =>
    rintro D ys W hD rfl hI hKD
    obtain ⟨hor, hFr⟩ := hI
    have hA : ChainAt W i 1 0 0 1 := by
      rcases hor with ⟨h1, _⟩ | ⟨_, h1⟩
      · cases h1
      · exact h1
    have bw2 := bb2.fr hFr (XS.not bb2 h2 (by decide) (by decide) (by decide))
    have bw3 := bb3.fr hFr (XS.not bb3 h2 (by decide) (by decide) (by decide))
    have d2 := blk_cell bw2 0
    have d3 := blk_cell bw3 0
    simp only [List.getElem?_toArray, List.getElem?_cons_zero] at d2 d3
    have HP3 := Lib.hid (pairs_calls i W)
    have H3 := Lib.hid (And.intro hFr (And.intro bw2 (And.intro bw3 (And.intro hA hKD))))
    clear hor hFr bw2 bw3 hA hKD
    go_wp2_with fail
    refine HP3.out.mono ?_
    rintro e w4 ⟨rfl, hw4⟩
    have hb4 : Below W.heap.size W w4 := by rw [hw4]; exact below_alloc (Below.refl _ W) _ (Nat.le_refl _)
    have bx4 : Blk w4 W.heap.size #[.pointer (some ⟨i.h, 0, none⟩)] 137 := by rw [hw4]; exact heap_alloc_new W _
    obtain ⟨hbW, cc2, cc3, h3, hKD⟩ := H3.out
    have l4 := AsLay.of_below hb4
    have H4 := Lib.hid (And.intro (hbW.then_below hb4) (And.intro (cc2.lay l4) (And.intro (cc3.lay l4) (And.intro (h3.lay l4) (And.intro bx4 ((hb4.block D (blk_lt hKD)).trans hKD))))))
    clear hw4 hb4 bx4 hbW cc2 cc3 h3 l4 hKD
    go_wp2_with fail
    obtain ⟨hb4, ee2, ee3, h4, bx4, hKD4⟩ := H4.out
    refine (wpIn_wide (n := 6)).1 ?_
    refine wpIn_rangeFunc_ownH (α := Unit) rfl (by omega) (gf := 185) (lb := #[.pointer (some ⟨W.heap.size, 0, none⟩)]) rfl trivial (enters_of Tryz.func185 (by kernel_rfl) rfl)
      (encs := fun _ => pairA i) (Kp := Keep3 W.heap.size i.h i.la) (S := fun ys => ys = [()]) (Sp := fun _ => True) (N := 1) (w0 := w4)
      (fun l J Jx W' hW hJ _ hY h0 => pairs1 (6 - 1) (by omega) i W.heap.size l J Jx W' (bx4.lay (AsLay.of_below hW)) (h4.chain.lay (AsLay.of_below hW)) (h4.list.lay (AsLay.of_below hW)) hJ hY h0)
      (fun h k => h.trans k) (fun W l o o' _ hl ho _ => keep3_put _ _ _ W l o o' hl ho) (Below.refl _ _) (fun _ => rfl)
      (fun _ W => Below w4.heap.size w4 W) (fun _ _ _ => False)
      (ownFrom_below (Nat.le_refl _) (Nat.le_refl _)) (fun _ _ _ _ _ hs _ _ => hs) (Below.refl _ _)
      (fun _ a' W' => ∃ B, w4.heap.size ≤ B ∧ Blk W' B (sideC i) 190 ∧ a' = { tmps := #[.pointer (some ⟨i.h, 0, none⟩), .int .i64 0, .pointer (some ⟨w.heap.size, 0, none⟩), .pointer (some ⟨w.heap.size + 1, 0, none⟩), .int .i64 0, undef, undef, .int .i64 1, .pointer (some ⟨B, 0, none⟩), .pointer (some ⟨i.h, 0, none⟩), .pointer (some ⟨i.h, 0, none⟩), .pointer (some ⟨i.h, 4, none⟩), .int .i64 0, .bool false, undef, undef, undef, undef, .pointer (some ⟨i.h, 0, none⟩), .int .i64 0, .bool false, undef, undef, undef, undef, undef, undef, undef, .pointer (some ⟨i.h, 0, none⟩), .func (.func 185) #[] #[.pointer (some ⟨w1.heap.size, 0, none⟩)], undef, undef, undef, undef, undef, undef, undef, undef, undef, undef, undef, undef, undef, undef, undef, undef, undef, undef, undef, undef, undef, undef, undef, undef, undef, undef, undef, undef, undef, undef, .pointer (some ⟨i.h, 0, none⟩), .func (.func 185) #[] #[.pointer (some ⟨W.heap.size, 0, none⟩)], .int .i64 1, .agg (sideC i), undef, undef, undef, undef, undef, undef, undef, undef, undef, undef, undef, undef, undef, undef, undef, undef, undef, undef, undef, undef, undef, undef, undef, undef, undef, undef, undef, undef, undef, undef, undef, undef, undef, undef, undef, undef, undef, undef, undef, undef, undef, undef, undef, undef], defers := [] })
      (fun x a' => fun _ A B row hs hg hr => by
        obtain ⟨b, h1, h2, h3⟩ := hs
        exact ⟨b, h1, h2.lay (AsLay.of_grown hg (fun r e => (hr r e).2)), h3⟩) ?assign2 ?body2 ?done2 ?stop2
    case stop2 =>
      rintro D2 c pre W2 _ _ h _
      exact h.elim
    case assign2 =>
      intro l pre x W2 K hi hK
      unfold pairA
      gi_wp2
      exact hK _ _ ((KeepsOthers.alloc _ _).from _) (Keep3.of_lay (AsLay.of_below (below_alloc (Below.refl _ W2) _ (Nat.le_refl _)))) (below_alloc hi _ (Nat.le_refl _)) ⟨W2.heap.size, hi.size, heap_alloc_new W2 _, rfl⟩
    case body2 =>
      rintro l pre x a' W2 hl _ hI ⟨B, hB, bB, rfl⟩ hlen
      have lW := AsLay.of_below hI
      have hA := h4.lay lW
      have g0 := blk_cell bB 0
      have p0 := blk_cell hA.part0 0
      have n0 := blk_cell (ee3.lay lW) 0
      unfold sideC at g0
      simp only [List.getElem?_toArray, List.getElem?_cons_zero, List.getElem?_cons_succ] at g0 p0 n0
      have zB := blk_lt bB
      have zp0 := blk_lt hA.part0
      have zn := blk_lt (ee3.lay lW)
      have HA := Lib.hid hA
      have HI := Lib.hid hI
      clear hA hI lW
      gi_wp2
      refine start_round (S := fun W => W.cell? ⟨B, 0, none⟩ = some (.pointer (some ⟨i.p0, 0, none⟩)) ∧ W.cell? ⟨i.p0, 0, none⟩ = some (.pointer (some ⟨i.s0, 0, none⟩)) ∧ W.cell? ⟨w.heap.size + 1, 0, none⟩ = some (.int .i64 0)) l 4 8 #[false, false, false, false, false, false, false, false] (by kernel_rfl) (by kernel_rfl) ?_ rfl rfl ?_ (fun hHeld => ?_)
      · rintro ⟨_, _, h⟩
        exact h
      · (try dsimp only)
        exact ⟨g0, p0, n0⟩
      refine take_n 0 (some 64) #[true, false, false, false, false, false, false, false] (v := ?_) (a' := ?_) rfl rfl rfl (by kernel_rfl) (by kernel_rfl) (by kernel_rfl) (fun _ _ _ _ h => h) (Or.inl ⟨by rfl, ?_⟩) hHeld ?_ ?_
      rotate_left 2
      · intro w hSw
        (try dsimp only at hSw)
        go_simp
        all_goals (with_reducible rfl)
      · simp only [Act.put, List.setIfInBounds_toArray, List.set_cons_zero, List.set_cons_succ]
        rfl
      refine take_n 1 (some 65) #[true, true, false, false, false, false, false, false] (v := ?_) (a' := ?_) rfl rfl rfl (by kernel_rfl) (by kernel_rfl) (by kernel_rfl) (fun _ _ _ _ h => h) (Or.inl ⟨by rfl, ?_⟩) hHeld ?_ ?_
      rotate_left 2
      · intro w hSw
        (try dsimp only at hSw)
        go_simp
        all_goals (with_reducible rfl)
      · simp only [Act.put, List.setIfInBounds_toArray, List.set_cons_zero, List.set_cons_succ]
        rfl
      refine take_n 2 (some 66) #[true, true, true, false, false, false, false, false] (v := ?_) (a' := ?_) rfl rfl rfl (by kernel_rfl) (by kernel_rfl) (by kernel_rfl) (fun _ _ _ _ h => h) (Or.inl ⟨by rfl, ?_⟩) hHeld ?_ ?_
      rotate_left 2
      · intro w hSw
        (try dsimp only at hSw)
        go_simp
        all_goals (with_reducible rfl)
      · simp only [Act.put, List.setIfInBounds_toArray, List.set_cons_zero, List.set_cons_succ]
        rfl
      refine take_n 3 (some 67) #[true, true, true, true, false, false, false, false] (v := ?_) (a' := ?_) rfl rfl rfl (by kernel_rfl) (by kernel_rfl) (by kernel_rfl) (fun _ _ _ _ h => h) (Or.inl ⟨by rfl, ?_⟩) hHeld ?_ ?_
      rotate_left 2
      · intro w hSw
        (try dsimp only at hSw)
        go_simp
        all_goals (with_reducible rfl)
      · simp only [Act.put, List.setIfInBounds_toArray, List.set_cons_zero, List.set_cons_succ]
        rfl
      refine take_n 4 (some 68) #[true, true, true, true, true, false, false, false] (v := ?_) (a' := ?_) rfl rfl rfl (by kernel_rfl) (by kernel_rfl) (by kernel_rfl) (fun _ _ _ _ h => h) (Or.inl ⟨by rfl, ?_⟩) hHeld ?_ ?_
      rotate_left 2
      · intro w hSw
        (try dsimp only at hSw)
        go_simp
        all_goals (with_reducible rfl)
      · simp only [Act.put, List.setIfInBounds_toArray, List.set_cons_zero, List.set_cons_succ]
        rfl
      refine take_n 5 (some 69) #[true, true, true, true, true, true, false, false] (v := ?_) (a' := ?_) rfl rfl rfl (by kernel_rfl) (by kernel_rfl) (by kernel_rfl) (fun _ _ _ _ h => h) (Or.inl ⟨by rfl, ?_⟩) hHeld ?_ ?_
      rotate_left 2
      · intro w hSw
        (try dsimp only at hSw)
        go_simp
        all_goals (with_reducible rfl)
      · simp only [Act.put, List.setIfInBounds_toArray, List.set_cons_zero, List.set_cons_succ]
        rfl
      refine one_n 6 #[true, true, true, true, true, true, true, false] rfl rfl (by kernel_rfl) (fun K hK => ?_)
      go_simp
      refine (stage_state i.s0 i.c0 1 _ (HA.out.st0.below ((Below.refl _ W2).drew))).mono ?_
      rintro e w5 ⟨rfl, hb5⟩
      have HB3 := Lib.hid (below_drew hb5)
      clear hb5
      refine hK.out _ ?_ _ ?_ ?_ (fun hHeld => ?_)
      rotate_left
      · (try simp only [Act.put, List.setIfInBounds_toArray, List.set_cons_zero, List.set_cons_succ])
        rfl
      · (try dsimp only)
        exact ⟨(HB3.out.cell (p := ⟨B, 0, none⟩) zB).trans hHeld.1, (HB3.out.cell (p := ⟨i.p0, 0, none⟩) zp0).trans hHeld.2.1, (HB3.out.cell (p := ⟨(w.heap.size + 1), 0, none⟩) zn).trans hHeld.2.2⟩
      clear hK K
      refine take_n 7 (some 71) #[true, true, true, true, true, true, true, true] (v := ?_) (a' := ?_) rfl rfl rfl (by kernel_rfl) (by kernel_rfl) (by kernel_rfl) (fun _ _ _ _ h => h) (Or.inl ⟨by rfl, ?_⟩) hHeld ?_ ?_
      rotate_left 2
      · intro w hSw
        (try dsimp only at hSw)
        go_simp
        all_goals (with_reducible rfl)
      · simp only [Act.put, List.setIfInBounds_toArray, List.set_cons_zero, List.set_cons_succ]
        rfl
      refine wpAnyH_done (by kernel_rfl) ?_ _
      gi_wp2
      exact ⟨KeepsFrom.of_grownBy (grown_of_below HB3.out) (fun j e => by cases e), Keep3.of_lay (AsLay.of_below HB3.out), HI.out.trans (HB3.out.mono HI.out.size)⟩
    case done2 =>
      rintro D2 ys W2 hD2 rfl hI2 hKD2
      have lW2 := AsLay.of_below hI2
      have hA := h4.lay lW2
      have d2 := blk_cell (ee2.lay lW2) 0
      have d3 := blk_cell (ee3.lay lW2) 0
      have a0 := blk_cell hA.chain 0
      have a4 := blk_cell hA.chain 4
      have af := blk_frozen hA.chain 4
      have l1 := blk_cell hA.list 1
      have p1 := blk_cell hA.part1 0
      simp only [List.getElem?_toArray, List.getElem?_cons_zero, List.getElem?_cons_succ] at d2 d3 a0 a4 l1 p1
      have z2 := blk_lt (ee2.lay lW2)
      have z3 := blk_lt (ee3.lay lW2)
      have zh := blk_lt hA.chain
      have zl := blk_lt hA.list
      have zp := blk_lt hA.part1
      have H5 := Lib.hid (And.intro hA (And.intro (hb4.then_below hI2) (And.intro hKD2 ((hI2.block D (blk_lt hKD4)).trans hKD4))))
      have kw1 : IntKind.i64.wrap 1 = 1 := rfl
      have kt1 : Int.toNat 1 = 1 := rfl
      clear hA lW2 hI2 hKD2
      go_wp2_with fail
      refine wp_region_noPanic ?_
      refine start_n (S := fun W => W.cell? ⟨w.heap.size, 0, none⟩ = some (.pointer (some ⟨i.h, 0, none⟩)) ∧ W.cell? ⟨i.h, 0, none⟩ = some (.slice (some ⟨i.la, 0, none⟩) 2 2) ∧ W.cell? ⟨i.la, 1, none⟩ = some (.pointer (some ⟨i.p1, 0, none⟩)) ∧ W.cell? ⟨i.p1, 0, none⟩ = some (.pointer (some ⟨i.s1, 0, none⟩)) ∧ W.cell? ⟨w.heap.size + 1, 0, none⟩ = some (.int .i64 0)) 21 #[false, false, false, false, false, false, false, false, false, false, false, false, false, false, false, false, false, false, false, false, false] (by kernel_rfl) rfl rfl ?_ (fun hHeld => ?_)
      · (try dsimp only)
        exact ⟨d2, a0, l1, p1, d3⟩
      refine take_n 0 (some 84) #[true, false, false, false, false, false, false, false, false, false, false, false, false, false, false, false, false, false, false, false, false] (v := ?_) (a' := ?_) rfl rfl rfl (by kernel_rfl) (by kernel_rfl) (by kernel_rfl) (fun _ _ _ _ h => h) (Or.inl ⟨by rfl, ?_⟩) hHeld ?_ ?_
      rotate_left 2
      · intro w hSw
        (try dsimp only at hSw)
        go_simp
        all_goals (with_reducible rfl)
      · simp only [Act.put, List.setIfInBounds_toArray, List.set_cons_zero, List.set_cons_succ]
        rfl
      refine take_n 1 (some 85) #[true, true, false, false, false, false, false, false, false, false, false, false, false, false, false, false, false, false, false, false, false] (v := ?_) (a' := ?_) rfl rfl rfl (by kernel_rfl) (by kernel_rfl) (by kernel_rfl) (fun _ _ _ _ h => h) (Or.inl ⟨by rfl, ?_⟩) hHeld ?_ ?_
      rotate_left 2
      · intro w hSw
        (try dsimp only at hSw)
        go_simp
        all_goals (with_reducible rfl)
      · simp only [Act.put, List.setIfInBounds_toArray, List.set_cons_zero, List.set_cons_succ]
        rfl
      refine take_n 2 (some 86) #[true, true, true, false, false, false, false, false, false, false, false, false, false, false, false, false, false, false, false, false, false] (v := ?_) (a' := ?_) rfl rfl rfl (by kernel_rfl) (by kernel_rfl) (by kernel_rfl) (fun _ _ _ _ h => h) (Or.inl ⟨by rfl, ?_⟩) hHeld ?_ ?_
      rotate_left 2
      · intro w hSw
        (try dsimp only at hSw)
        go_simp
        all_goals (with_reducible rfl)
      · simp only [Act.put, List.setIfInBounds_toArray, List.set_cons_zero, List.set_cons_succ]
        rfl
      refine take_n 3 (some 87) #[true, true, true, true, false, false, false, false, false, false, false, false, false, false, false, false, false, false, false, false, false] (v := ?_) (a' := ?_) rfl rfl rfl (by kernel_rfl) (by kernel_rfl) (by kernel_rfl) (fun _ _ _ _ h => h) (Or.inl ⟨by rfl, ?_⟩) hHeld ?_ ?_
      rotate_left 2
      · intro w hSw
        (try dsimp only at hSw)
        go_simp
        all_goals (with_reducible rfl)
      · simp only [Act.put, List.setIfInBounds_toArray, List.set_cons_zero, List.set_cons_succ]
        rfl
      refine take_n 4 (some 88) #[true, true, true, true, true, false, false, false, false, false, false, false, false, false, false, false, false, false, false, false, false] (v := ?_) (a' := ?_) rfl rfl rfl (by kernel_rfl) (by kernel_rfl) (by kernel_rfl) (fun _ _ _ _ h => h) (Or.inl ⟨by rfl, ?_⟩) hHeld ?_ ?_
      rotate_left 2
      · intro w hSw
        (try dsimp only at hSw)
        go_simp
        all_goals (with_reducible rfl)
      · simp only [Act.put, List.setIfInBounds_toArray, List.set_cons_zero, List.set_cons_succ]
        rfl
      refine take_n 5 (some 89) #[true, true, true, true, true, true, false, false, false, false, false, false, false, false, false, false, false, false, false, false, false] (v := ?_) (a' := ?_) rfl rfl rfl (by kernel_rfl) (by kernel_rfl) (by kernel_rfl) (fun _ _ _ _ h => h) (Or.inl ⟨by rfl, ?_⟩) hHeld ?_ ?_
      rotate_left 2
      · intro w hSw
        (try dsimp only at hSw)
        go_simp
        all_goals (with_reducible rfl)
      · simp only [Act.put, List.setIfInBounds_toArray, List.set_cons_zero, List.set_cons_succ]
        rfl
      refine take_n 6 (some 90) #[true, true, true, true, true, true, true, false, false, false, false, false, false, false, false, false, false, false, false, false, false] (v := ?_) (a' := ?_) rfl rfl rfl (by kernel_rfl) (by kernel_rfl) (by kernel_rfl) (fun _ _ _ _ h => h) (Or.inl ⟨by rfl, ?_⟩) hHeld ?_ ?_
      rotate_left 2
      · intro w hSw
        (try dsimp only at hSw)
        go_simp
        all_goals (with_reducible rfl)
      · simp only [Act.put, List.setIfInBounds_toArray, List.set_cons_zero, List.set_cons_succ]
        rfl
      refine take_n 7 (some 91) #[true, true, true, true, true, true, true, true, false, false, false, false, false, false, false, false, false, false, false, false, false] (v := ?_) (a' := ?_) rfl rfl rfl (by kernel_rfl) (by kernel_rfl) (by kernel_rfl) (fun _ _ _ _ h => h) (Or.inl ⟨by rfl, ?_⟩) hHeld ?_ ?_
      rotate_left 2
      · intro w hSw
        (try dsimp only at hSw)
        go_simp
        all_goals (with_reducible rfl)
      · simp only [Act.put, List.setIfInBounds_toArray, List.set_cons_zero, List.set_cons_succ]
        rfl
      refine take_n 8 (some 92) #[true, true, true, true, true, true, true, true, true, false, false, false, false, false, false, false, false, false, false, false, false] (v := ?_) (a' := ?_) rfl rfl rfl (by kernel_rfl) (by kernel_rfl) (by kernel_rfl) (fun _ _ _ _ h => h) (Or.inl ⟨by rfl, ?_⟩) hHeld ?_ ?_
      rotate_left 2
      · intro w hSw
        (try dsimp only at hSw)
        go_simp
        all_goals (with_reducible rfl)
      · simp only [Act.put, List.setIfInBounds_toArray, List.set_cons_zero, List.set_cons_succ]
        rfl
      refine take_n 9 (some 93) #[true, true, true, true, true, true, true, true, true, true, false, false, false, false, false, false, false, false, false, false, false] (v := ?_) (a' := ?_) rfl rfl rfl (by kernel_rfl) (by kernel_rfl) (by kernel_rfl) (fun _ _ _ _ h => h) (Or.inl ⟨by rfl, ?_⟩) hHeld ?_ ?_
      rotate_left 2
      · intro w hSw
        (try dsimp only at hSw)
        go_simp
        all_goals (with_reducible rfl)
      · simp only [Act.put, List.setIfInBounds_toArray, List.set_cons_zero, List.set_cons_succ]
        rfl
      refine take_n 10 (some 94) #[true, true, true, true, true, true, true, true, true, true, true, false, false, false, false, false, false, false, false, false, false] (v := ?_) (a' := ?_) rfl rfl rfl (by kernel_rfl) (by kernel_rfl) (by kernel_rfl) (fun _ _ _ _ h => h) (Or.inl ⟨by rfl, ?_⟩) hHeld ?_ ?_
      rotate_left 2
      · intro w hSw
        (try dsimp only at hSw)
        go_simp
        all_goals (with_reducible rfl)
      · simp only [Act.put, List.setIfInBounds_toArray, List.set_cons_zero, List.set_cons_succ]
        rfl
      refine take_n 11 (some 95) #[true, true, true, true, true, true, true, true, true, true, true, true, false, false, false, false, false, false, false, false, false] (v := ?_) (a' := ?_) rfl rfl rfl (by kernel_rfl) (by kernel_rfl) (by kernel_rfl) (fun _ _ _ _ h => h) (Or.inl ⟨by rfl, ?_⟩) hHeld ?_ ?_
      rotate_left 2
      · intro w hSw
        (try dsimp only at hSw)
        go_simp
        all_goals (with_reducible rfl)
      · simp only [Act.put, List.setIfInBounds_toArray, List.set_cons_zero, List.set_cons_succ]
        rfl
      refine take_n 12 (some 96) #[true, true, true, true, true, true, true, true, true, true, true, true, true, false, false, false, false, false, false, false, false] (v := ?_) (a' := ?_) rfl rfl rfl (by kernel_rfl) (by kernel_rfl) (by kernel_rfl) (fun _ _ _ _ h => h) (Or.inl ⟨by rfl, ?_⟩) hHeld ?_ ?_
      rotate_left 2
      · intro w hSw
        (try dsimp only at hSw)
        go_simp
        all_goals (with_reducible rfl)
      · simp only [Act.put, List.setIfInBounds_toArray, List.set_cons_zero, List.set_cons_succ]
        rfl
      refine take_n 13 (some 97) #[true, true, true, true, true, true, true, true, true, true, true, true, true, true, false, false, false, false, false, false, false] (v := ?_) (a' := ?_) rfl rfl rfl (by kernel_rfl) (by kernel_rfl) (by kernel_rfl) (fun _ _ _ _ h => h) (Or.inl ⟨by rfl, ?_⟩) hHeld ?_ ?_
      rotate_left 2
      · intro w hSw
        (try dsimp only at hSw)
        go_simp
        all_goals (with_reducible rfl)
      · simp only [Act.put, List.setIfInBounds_toArray, List.set_cons_zero, List.set_cons_succ]
        rfl
      refine take_n 14 (some 98) #[true, true, true, true, true, true, true, true, true, true, true, true, true, true, true, false, false, false, false, false, false] (v := ?_) (a' := ?_) rfl rfl rfl (by kernel_rfl) (by kernel_rfl) (by kernel_rfl) (fun _ _ _ _ h => h) (Or.inl ⟨by rfl, ?_⟩) hHeld ?_ ?_
      rotate_left 2
      · intro w hSw
        (try dsimp only at hSw)
        go_simp
        all_goals (with_reducible rfl)
      · simp only [Act.put, List.setIfInBounds_toArray, List.set_cons_zero, List.set_cons_succ]
        rfl
      refine take_n 15 (some 99) #[true, true, true, true, true, true, true, true, true, true, true, true, true, true, true, true, false, false, false, false, false] (v := ?_) (a' := ?_) rfl rfl rfl (by kernel_rfl) (by kernel_rfl) (by kernel_rfl) (fun _ _ _ _ h => h) (Or.inl ⟨by rfl, ?_⟩) hHeld ?_ ?_
      rotate_left 2
      · intro w hSw
        (try dsimp only at hSw)
        go_simp
        all_goals (with_reducible rfl)
      · simp only [Act.put, List.setIfInBounds_toArray, List.set_cons_zero, List.set_cons_succ]
        rfl
      refine take_n 16 (some 100) #[true, true, true, true, true, true, true, true, true, true, true, true, true, true, true, true, true, false, false, false, false] (v := ?_) (a' := ?_) rfl rfl rfl (by kernel_rfl) (by kernel_rfl) (by kernel_rfl) (fun _ _ _ _ h => h) (Or.inl ⟨by rfl, ?_⟩) hHeld ?_ ?_
      rotate_left 2
      · intro w hSw
        (try dsimp only at hSw)
        go_simp
        all_goals (with_reducible rfl)
      · simp only [Act.put, List.setIfInBounds_toArray, List.set_cons_zero, List.set_cons_succ]
        rfl
      refine one_n 17 #[true, true, true, true, true, true, true, true, true, true, true, true, true, true, true, true, true, true, false, false, false] rfl rfl (by kernel_rfl) (fun K hK => ?_)
      go_simp
      refine (stage_state i.s1 i.c1 0 _ (H5.out.1.st1.below ((Below.refl _ W2).drew))).mono ?_
      rintro e w5 ⟨rfl, hb5⟩
      have HB5 := Lib.hid (below_drew hb5)
      have k4 := ((below_drew hb5).cell (p := ⟨i.h, 4, none⟩) zh).trans a4
      have kf := (World.frozen?_of_block (a := ⟨i.h, 4, none⟩) ((below_drew hb5).block i.h zh)).trans af
      have hsid := setCell_id k4
      clear hb5
      refine hK.out _ ?_ _ ?_ ?_ (fun hHeld => ?_)
      rotate_left
      · (try simp only [Act.put, List.setIfInBounds_toArray, List.set_cons_zero, List.set_cons_succ])
        rfl
      · (try dsimp only)
        exact ⟨(HB5.out.cell (p := ⟨w.heap.size, 0, none⟩) z2).trans hHeld.1, (HB5.out.cell (p := ⟨i.h, 0, none⟩) zh).trans hHeld.2.1, (HB5.out.cell (p := ⟨i.la, 1, none⟩) zl).trans hHeld.2.2.1, (HB5.out.cell (p := ⟨i.p1, 0, none⟩) zp).trans hHeld.2.2.2.1, (HB5.out.cell (p := ⟨(w.heap.size + 1), 0, none⟩) z3).trans hHeld.2.2.2.2⟩
      clear hK K
      refine take_n 18 (some 102) #[true, true, true, true, true, true, true, true, true, true, true, true, true, true, true, true, true, true, true, false, false] (v := ?_) (a' := ?_) rfl rfl rfl (by kernel_rfl) (by kernel_rfl) (by kernel_rfl) (fun _ _ _ _ h => h) (Or.inl ⟨by rfl, ?_⟩) hHeld ?_ ?_
      rotate_left 2
      · intro w hSw
        (try dsimp only at hSw)
        go_simp
        all_goals (with_reducible rfl)
      · simp only [Act.put, List.setIfInBounds_toArray, List.set_cons_zero, List.set_cons_succ]
        rfl
      refine take_n 19 (some 103) #[true, true, true, true, true, true, true, true, true, true, true, true, true, true, true, true, true, true, true, true, false] (v := ?_) (a' := ?_) rfl rfl rfl (by kernel_rfl) (by kernel_rfl) (by kernel_rfl) (fun _ _ _ _ h => h) (Or.inl ⟨by rfl, ?_⟩) hHeld ?_ ?_
      rotate_left 2
      · intro w hSw
        (try dsimp only at hSw)
        go_simp
        all_goals (with_reducible rfl)
      · simp only [Act.put, List.setIfInBounds_toArray, List.set_cons_zero, List.set_cons_succ]
        rfl
      refine one_n 20 #[true, true, true, true, true, true, true, true, true, true, true, true, true, true, true, true, true, true, true, true, true] rfl rfl (by kernel_rfl) (fun K hK => ?_)
      go_simp
      refine hK.out _ ?_ _ ?_ ?_ (fun hHeld => ?_)
      rotate_left
      · (try simp only [Act.put, List.setIfInBounds_toArray, List.set_cons_zero, List.set_cons_succ])
        rfl
      · (try dsimp only)
        (try rw [hsid])
        exact hHeld
      clear hK K
      refine wpAnyH_done (by kernel_rfl) ?_ _
      refine NoPanic.normal ?_
      clear hHeld
      go_wp2_with fail
      obtain ⟨hA5, hb5, hKD2, hKD⟩ := H5.out
      have hKD2' := (HB5.out.block D2 (blk_lt hKD2)).trans hKD2
      have hKD' := (HB5.out.block D (blk_lt hKD)).trans hKD
      refine ⟨by simp, .inl ⟨_, _, rfl, run_takeDeferred hKD2', ?_⟩⟩
      have hDD : D ≠ D2 := by have := blk_lt hKD4; omega
      have hKD3 := (World.putObj_heap_other (w := w5) (o := .deferred none) (r := D2) (k := D) (by omega)).trans hKD'
      refine ⟨by simp, .inl ⟨_, _, rfl, run_takeDeferred hKD3, ?_⟩⟩
      refine ⟨_, results_tmp rfl _ _ _, rfl, ?_⟩
      have hal : AsLay w5 ((w5.putObj D2 (.deferred none)).putObj D (.deferred none)) := (AsLay.of_grown (grownBy_putObj' w5 D2 _) (fun r e => by cases e; exact ⟨_, hKD2', rfl⟩)).trans (AsLay.of_grown (grownBy_putObj' _ D _) (fun r e => by cases e; exact ⟨_, hKD3, rfl⟩))
      refine ⟨(hA5.lay (AsLay.of_below HB5.out)).lay hal, ?_⟩
      have e1 : w.heap.size ≤ D := Nat.le_trans hb2.size hD
      have e2 : w.heap.size ≤ D2 := Nat.le_trans hb2.size (Nat.le_trans hb4.size hD2)
      refine (Fr.grown (Fr.grown ((((Fr.of_below (X := fun _ => False) hb2).trans hb5 (Z := XS i w) (fun _ e => e.elim) (fun b hb e => e.mono (fun p => ⟨p.1, _, (hb2.block b hb).symm.trans p.2.choose_spec⟩))).then_below HB5.out)) (grownBy_putObj' w5 D2 _) (fun r e => by cases e; exact e2)) (grownBy_putObj' _ D _) (fun r e => by cases e; exact e1))
end Go.Proofs.YtdpfmemcpipbkaaGreatDoor.Hand
end
section
/- link.Step of a link with a byte in its first stage. -/
namespace Go.Proofs.YtdpfmemcpipbkaaGreatDoor.Hand
open Go.RowKit
set_option linter.unusedVariables false
set_option linter.unusedSimpArgs false
/-- What the step of a link touches. -/
def YS (i : CI) (lk : Nat) (w : World) (b : Nat) : Prop := b = lk ∨ b = i.s1 ∨ XS i w b
theorem isP.back {B : Nat} {X : Nat → Prop} {w w' : World} {b : Nat} (h : isP B w' b) (hf : Fr X w w') (hb : b < w.heap.size) (hx : ¬ X b) : isP B w b := by
  obtain ⟨hB, cur, hp⟩ := h
  exact ⟨hB, cur, (hf.block b hb hx).symm.trans hp⟩
theorem YS.not {i : CI} {w : World} {q0 q1 : Int} {k0 k1 : Nat} {lk b : Nat} {cs ls : Array Value} {t : TypeId} (hb : Blk w b cs t) (hl : Blk w lk ls 145) (hc : ChainAt w i q0 q1 k0 k1) (h0 : t ≠ 145) (h1 : t ≠ 287) (h2 : t ≠ 244) (h3 : t ≠ 296) : ¬ YS i lk w b := by
  rintro (e | e | h)
  · exact hb.ne hl h0 e
  · exact hb.ne hc.st1 h2 e
  · exact XS.not hb hc h1 h2 h3 h
set_option maxHeartbeats 8000000 in
set_option maxRecDepth 100000 in
theorem link_step1 (lk : Nat) (i : CI) (up : Bool) (seed : Int) (w : World) (hl : Blk w lk (linkC i.h up seed 1 0) 145) (h : ChainAt w i 0 0 1 0) (hcn : CargoIn w i.c1 (.slice none 0 0)) : Calls Tryz.prog 38 #[.pointer (some ⟨lk, 0, none⟩), .int .i64 0, .int .i64 1] w fun e w' => ∃ g c, e = .returned (.tuple #[.slice (some ⟨g, 0, none⟩) 1 c, .int .i64 0]) ∧ w.heap.size ≤ g ∧ g < w'.heap.size ∧ ByteIn w' g 0 ∧ Blk w' lk (linkC i.h up seed 1 1) 145 ∧ ChainAt w' i 1 1 0 0 ∧ Fr (YS i lk w) w w' := by
  have a0 := blk_cell hl 0
  simp only [linkC, List.getElem?_toArray, List.getElem?_cons_zero, List.getElem?_cons_succ] at a0
  have HP := Lib.hid (chain_step1 i w h hcn)
  have HL := Lib.hid hl
  have H := Lib.hid h
  have zl := blk_lt hl
  clear h hl hcn
  go_enter Tryz.func38, Tryz.ntmps38
  go_wp2_with fail
  refine HP.out.mono ?_
  rintro e w1 ⟨rfl, hc1, hf1⟩
  have hl1 := HL.out.fr hf1 (XS.not HL.out H.out (by decide) (by decide) (by decide))
  have a1 := blk_cell hl1 0
  simp only [linkC, List.getElem?_toArray, List.getElem?_cons_zero, List.getElem?_cons_succ] at a1
  have HT := Lib.hid (chain_take1 i 1 0 (by omega) (by omega) w1 hc1)
  have H1 := Lib.hid (And.intro hc1 (And.intro hf1 hl1))
  clear hc1 hf1 hl1
  go_wp2_with fail
  refine HT.out.mono ?_
  rintro e w2 ⟨g, c, rfl, hg1, hg2, hby, hc2, hf2⟩
  obtain ⟨hc1, hf1, hl1⟩ := H1.out
  have hf2y : Fr (YS i lk w1) w1 w2 := hf2.mono (fun b _ h => by
    rcases h with e | e | e
    · exact .inr (.inr (.inr (.inr (.inl e))))
    · exact .inr (.inl e)
    · exact .inr (.inr (.inr (.inr (.inr e)))))
  have hl2 := hl1.fr hf2 (by
    rintro (e | e | e)
    · obtain ⟨u, hu⟩ := hc1.has1.cargo
      exact Blk.ne hl1 hu (by decide) e
    · exact hl1.ne hc1.st1 (by decide) e
    · exact isP.not hl1 (by decide) e)
  have hf12 : Fr (YS i lk w) w w2 := (hf1.mono (fun b _ e => .inr (.inr e))).trans hf2y (fun _ e => e) (fun b hb e => by
    rcases e with e | e | e
    · exact .inl e
    · exact .inr (.inl e)
    · exact .inr (.inr (e.back H.out hf1 hb)))
  have a2 := blk_cell hl2 0
  have n2 := blk_cell hl2 6
  have f2 := blk_frozen hl2 6
  simp only [linkC, List.getElem?_toArray, List.getElem?_cons_zero, List.getElem?_cons_succ] at a2 n2
  have hne : g ≠ lk := by have := blk_lt HL.out; have := hf1.size; omega
  have hl3 : Blk (w2.setCell ⟨lk, 6, none⟩ (.int .i64 1)) lk (linkC i.h up seed 1 1) 145 := blk_set hl2 6 _
  have hc3 := hc2.set hl2 6 (.int .i64 1)
  have hby3 : ByteIn (w2.setCell ⟨lk, 6, none⟩ (.int .i64 1)) g 0 := (World.cell?_setCell_other _ _ _ _ (by intro e; injection e with e1; exact hne e1.symm)).trans hby
  have hf3 := hf12.set (X := YS i lk w) (p := ⟨lk, 6, none⟩) (.inl (.inl rfl)) (.int .i64 1)
  have hs3 : w2.heap.size ≤ (w2.setCell ⟨lk, 6, none⟩ (.int .i64 1)).heap.size := (Below.setCell (Below.refl 0 w2) (Nat.zero_le _) _).size
  have hgw : w.heap.size ≤ g := Nat.le_trans hf1.size hg1
  have a3 := blk_cell hl3 0
  have d3 := blk_cell hl3 9
  simp only [linkC, List.getElem?_toArray, List.getElem?_cons_zero, List.getElem?_cons_succ] at a3 d3
  obtain ⟨W3, hW3⟩ : ∃ W3, W3 = w2.setCell ⟨lk, 6, none⟩ (.int .i64 1) := ⟨_, rfl⟩
  rw [← hW3] at hl3 hc3 hby3 hf3 hs3 a3 d3
  have zl3 := blk_lt hl3
  have hg3 : g < W3.heap.size := Nat.lt_of_lt_of_le hg2 hs3
  have HS := Lib.hid (chain_step0 i 1 1 (by omega) (by omega) W3 hc3)
  have H3 := Lib.hid (And.intro hl3 (And.intro hc3 (And.intro hby3 (And.intro hf3 (And.intro hgw hg3)))))
  have HW3 := Lib.hid hW3
  clear hc1 hf1 hl1 hf2y hl2 hf12 hl3 hc3 hby3 hf3 hs3 hgw hg1 hg2 hby hc2 hf2 hg3 hW3
  go_wp2_with fail
  rw [← HW3.out]
  refine HS.out.mono ?_
  rintro e w4 ⟨rfl, hb4⟩
  have d4 := (hb4.cell (p := ⟨lk, 9, none⟩) zl3).trans d3
  have HB4 := Lib.hid hb4
  clear hb4
  go_wp2_with fail
  refine bodyPost_ret (results_tmp2 rfl _ _ _) rfl ?_
  obtain ⟨h1, h2, h3, h4, h5, h6⟩ := H3.out
  have l4 := AsLay.of_below HB4.out
  exact ⟨g, c, rfl, h5, Nat.lt_of_lt_of_le h6 HB4.out.size, h3.below h6 HB4.out, h1.lay l4, h2.lay l4, h4.then_below HB4.out⟩
end Go.Proofs.YtdpfmemcpipbkaaGreatDoor.Hand
end
