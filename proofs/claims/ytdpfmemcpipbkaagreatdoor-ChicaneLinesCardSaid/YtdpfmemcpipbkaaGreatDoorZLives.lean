/- hub.all of the one connection. -/
import Derived.Test.YtdpfmemcpipbkaaGreatDoorZConnect
import Derived.Lib.SlBytesConst
section
namespace Go.Proofs.YtdpfmemcpipbkaaGreatDoor.Hand
open Go.RowKit
set_option linter.unusedVariables false
set_option linter.unusedSimpArgs false
attribute [local go_sem] Oper.semAt_some
def liveA (cn : Nat) : Array Value := #[.int .i64 1, .agg #[.pointer (some ⟨cn, 0, none⟩), .string (nm 0)]]
set_option maxHeartbeats 8000000 in
set_option maxRecDepth 100000 in
theorem all1_one (n : Nat) (hn : 1 ≤ n) (l bh bp hp dk mb c cn : Nat) (seed : Int) (J Jx : List Unit → World → Prop) (W : World) (hbh : Blk W bh #[.pointer (some ⟨hp, 0, none⟩)] 31) (hbp : Blk W bp #[.string ⟨#[]⟩] 9) (hh : HubOne W hp dk seed 5 mb c cn) (hJ : AbidesFrom W.heap.size J)
    (hY : ∀ pre x W1, J pre W1 → pre.length < 1 → YieldAt Fence.wide (n - 1) Tryz.prog l (liveA cn) W1 fun e W' => (e = .returned (.bool true) ∧ J (pre ++ [x]) W' ∧ True) ∨ (e = .returned (.bool false) ∧ Jx (pre ++ [x]) W'))
    (h0 : J [] W) : CallsIn Fence.wide n Tryz.prog 31 #[.func (.yield l) #[] #[], .pointer (some ⟨bh, 0, none⟩), .pointer (some ⟨bp, 0, none⟩)] W fun e W' => (∃ v, e = .returned v) ∧ ((∃ ys, ys = [()] ∧ J ys W') ∨ (∃ pre, pre = [()] ∧ Jx pre W')) := by
  have kw0 : IntKind.i64.wrap 0 = 0 := rfl
  have kt0 : Int.toNat 0 = 0 := rfl
  have kw1 : IntKind.i64.wrap 1 = 1 := rfl
  have kt1 : Int.toNat 1 = 1 := rfl
  have hI := Lib.hid (ids_one hp dk mb (c + 1) c seed 5 1 (.agg #[.pointer (some ⟨cn, 0, none⟩), .string (nm 0)]) (by omega) W hh.hub hh.map)
  have b0 := blk_cell hbh 0
  simp only [List.getElem?_toArray, List.getElem?_cons_zero, List.getElem?_cons_succ] at b0
  have H := Lib.hid (And.intro hbh (And.intro hbp hh))
  have HJ := Lib.hid hJ
  have HY := Lib.hid hY
  have H0 := Lib.hid h0
  clear hbh hbp hh hJ hY h0
  refine callsIn_of_wp Tryz.func31 rfl trivial ?_ rfl
  simp only [Tryz.ntmps31, List.size_toArray, List.length_cons, List.length_nil, Nat.reduceAdd, Nat.reduceSub, Array.replicate_succ, Array.replicate_zero, List.push_toArray, List.append_toArray, List.nil_append, List.cons_append]
  gi_wp2
  refine ⟨trivial, callsIn_wide.2 (hI.out.mono ?_)⟩
  rintro e w1 ⟨g, gc, rfl, cg, hg1, hg2, hb1⟩
  obtain ⟨hbh, hbp, hh⟩ := H.out
  have l1 := AsLay.of_below hb1
  have h1 := hh.below hb1
  have b1 := blk_cell (hbh.lay l1) 0
  have p1 := blk_cell (hbp.lay l1) 0
  have a4 := blk_cell h1.hub 4
  have hk := live_look0 h1.map
  simp only [List.getElem?_toArray, List.getElem?_cons_zero, List.getElem?_cons_succ] at b1 p1 a4
  have zp := blk_lt (hbp.lay l1)
  have H1 := Lib.hid (HJ.out [] W w1 none H0.out (grown_of_below hb1) (fun r e => by cases e))
  have HB1 := Lib.hid hb1
  clear hbh hbp hh l1 h1 hb1 b0
  obtain ⟨w2, hw2⟩ : ∃ w2, w2 = w1.alloc (.cells #[.pointer (some ⟨cn, 0, none⟩), .string (nm 0)] 81) := ⟨_, rfl⟩
  have hb2 : Below w1.heap.size w1 w2 := by rw [hw2]; exact below_alloc (Below.refl _ w1) _ (Nat.le_refl _)
  have hJ2 : J [] w2 := HJ.out [] w1 w2 none H1.out (grown_of_below hb2) (fun r e => by cases e)
  obtain ⟨fn, tmps, assign, body, hy, hR⟩ := HY.out [] () w2 hJ2 (by decide)
  unfold liveA at hy
  rw [hw2] at hy
  have HR := Lib.hid hR
  have HW2 := Lib.hid hw2
  clear hR hJ2 hb2 hw2
  gi_wp2
  refine wpIn_loop_rounds 2 ?_
  rw [roundsIn_succ]
  gi_wp2
  rw [← HW2.out]
  refine HR.out.mono ?_
  rintro e W2 (⟨rfl, hJ2, _⟩ | ⟨rfl, hJx⟩)
  · clear HR hy hk cg b1 p1 a4
    gi_wp2
    rw [roundsIn_succ]
    gi_wp2
    go_end0
    exact ⟨⟨_, rfl⟩, .inl ⟨_, rfl, hJ2⟩⟩
  · clear HR hy hk cg b1 p1 a4
    gi_wp2
    refine bodyPost_ret (results_none rfl _ _ _) rfl ?_
    exact ⟨⟨_, rfl⟩, .inr ⟨_, rfl, hJx⟩⟩
end Go.Proofs.YtdpfmemcpipbkaaGreatDoor.Hand
end
section
/- hub.Step: the byte comes out. -/
namespace Go.Proofs.YtdpfmemcpipbkaaGreatDoor.Hand
open Go.RowKit
set_option linter.unusedVariables false
set_option linter.unusedSimpArgs false
attribute [local go_sem] Oper.semAt_some
theorem infoEv : (Tryz.prog.info? 53).map (fun i => (i.zero, i.size, i.bytes)) = some (some (.agg #[.int .i64 0, .int .i64 0, .string ⟨#[]⟩, .int .i64 0]), 4, 40) := by kernel_rfl
def IH (oc cn lk0 lk1 : Nat) (i0 i1 : CI) (s0 s1 : Int) (w3 : World) (pre : List Unit) (W : World) : Prop :=
  ((pre = [] ∧ Blk W oc #[.slice none 0 0] 49 ∧ ConnAt W cn lk0 lk1 i0 i1 s0 s1 1 0 0 0 1 0 ∧ CargoIn W i0.c1 (.slice none 0 0)) ∨ (pre = [()] ∧ ∃ g gc cs, Blk W oc #[.slice (some ⟨g, 0, none⟩) 1 gc] 49 ∧ Blk W g cs 53 ∧ cs[2]? = some (.string xB))) ∧ Fr (fun r => r = oc ∨ YS i0 lk0 w3 r) w3 W
theorem IH.lay {oc cn lk0 lk1 : Nat} {i0 i1 : CI} {s0 s1 : Int} {w3 W W' : World} {pre : List Unit} (h : IH oc cn lk0 lk1 i0 i1 s0 s1 w3 pre W) (l : AsLay W W') (hf : Fr (fun r => r = oc ∨ YS i0 lk0 w3 r) w3 W') : IH oc cn lk0 lk1 i0 i1 s0 s1 w3 pre W' :=
  ⟨h.1.imp (fun ⟨a, b, c, d⟩ => ⟨a, b.lay l, c.lay l, d.lay l⟩) (fun ⟨a, g, gc, cs, b, c, d⟩ => ⟨a, g, gc, cs, b.lay l, c.lay l, d⟩), hf⟩
theorem row_event {w : World} {B : Nat} {v : Value} {s : ByteArray} (h : w.ownsRow B 53 4 v (0 + 1) ([] ++ [.int .i64 1, .int .i64 0, .string s, .int .i64 0])) : ∃ g c cur, v = .slice (some ⟨g, 0, none⟩) 1 c ∧ B ≤ g ∧ Blk w g cur 53 ∧ cur[2]? = some (.string s) := by
  rcases h.2 with ⟨_, h2⟩ | ⟨g, cap, cur, hv, hb, hh, hc, _, hcs, ht⟩
  · omega
  · refine ⟨g, cap, cur, hv, hb, hh, ?_⟩
    have := congrArg (fun l => l[2]?) ht
    simpa [List.getElem?_take] using this
set_option maxHeartbeats 16000000 in
set_option maxRecDepth 100000 in
theorem hub_step (hp dk mb c cn lk0 lk1 : Nat) (seed : Int) (i0 i1 : CI) (s0 s1 : Int) (w : World) (hh : HubOne w hp dk seed 5 mb c cn) (h : ConnAt w cn lk0 lk1 i0 i1 s0 s1 1 0 0 0 1 0) (hd : CargoIn w i0.c1 (.slice none 0 0)) : Calls Tryz.prog 11 #[.pointer (some ⟨hp, 0, none⟩), .int .i64 0, .agg #[.int .i64 1, .int .i64 1]] w fun e w' => ∃ g gc, e = .returned (.slice (some ⟨g, 0, none⟩) 1 gc) ∧ w'.cell? ⟨g, 2, none⟩ = some (.string xB) ∧ Fr (YS i0 lk0 w) w w' := by
  obtain ⟨wq, hwq⟩ : ∃ wq, wq = (((w.alloc (.cells #[.pointer (some ⟨hp, 0, none⟩)] 31)).alloc (.cells #[.int .i64 0] 3)).alloc (.cells #[.int .i64 1, .int .i64 1] 51)).alloc (.cells #[.slice none 0 0] 49) := ⟨_, rfl⟩
  have hbq : Below w.heap.size w wq := by rw [hwq]; exact below_alloc (below_alloc (below_alloc (below_alloc (Below.refl _ w) _ (Nat.le_refl _)) _ (Nat.le_refl _)) _ (Nat.le_refl _)) _ (Nat.le_refl _)
  have q0 : Blk wq w.heap.size #[.pointer (some ⟨hp, 0, none⟩)] 31 := by rw [hwq]; exact heap_old _ (heap_old _ (heap_old _ (heap_alloc_new w _)))
  have q1 : Blk wq (w.heap.size + 1) #[.int .i64 0] 3 := by
    rw [hwq]
    have := heap_alloc_new (w.alloc (.cells #[.pointer (some ⟨hp, 0, none⟩)] 31)) (.cells #[.int .i64 0] 3)
    rw [World.size_alloc] at this
    exact heap_old _ (heap_old _ this)
  have q2 : Blk wq (w.heap.size + 1 + 1) #[.int .i64 1, .int .i64 1] 51 := by
    rw [hwq]
    have := heap_alloc_new ((w.alloc (.cells #[.pointer (some ⟨hp, 0, none⟩)] 31)).alloc (.cells #[.int .i64 0] 3)) (.cells #[.int .i64 1, .int .i64 1] 51)
    rw [World.size_alloc, World.size_alloc] at this
    exact heap_old _ this
  have q3 : Blk wq (w.heap.size + 1 + 1 + 1) #[.slice none 0 0] 49 := by
    rw [hwq]
    have := heap_alloc_new (((w.alloc (.cells #[.pointer (some ⟨hp, 0, none⟩)] 31)).alloc (.cells #[.int .i64 0] 3)).alloc (.cells #[.int .i64 1, .int .i64 1] 51)) (.cells #[.slice none 0 0] 49)
    rw [World.size_alloc, World.size_alloc, World.size_alloc] at this
    exact this
  have H := Lib.hid (And.intro hbq (And.intro q0 (And.intro q1 (And.intro q2 (And.intro q3 (And.intro hh (And.intro h hd)))))))
  have HWQ := Lib.hid hwq
  clear hbq q0 q1 q2 q3 hh h hd hwq
  refine (callsIn_wide (n := 6)).1 ?_
  refine callsIn_of_wp_marks Tryz.func11 rfl trivial ?_ rfl
  refine wpIn_wide.2 ?_
  simp only [Tryz.ntmps11, List.size_toArray, List.length_cons, List.length_nil, Nat.reduceAdd, Nat.reduceSub, Array.replicate_succ, Array.replicate_zero, List.push_toArray, List.append_toArray, List.nil_append, List.cons_append]
  go_wp2_with fail
  rw [← HWQ.out]
  clear HWQ
  refine (all_calls hp ⟨#[]⟩ wq).mono ?_
  rintro e w3 ⟨rfl, hw3⟩
  have hb3 : Below wq.heap.size wq w3 := by rw [hw3]; exact below_alloc (below_alloc (Below.refl _ wq) _ (Nat.le_refl _)) _ (Nat.le_refl _)
  have bh : Blk w3 wq.heap.size #[.pointer (some ⟨hp, 0, none⟩)] 31 := by rw [hw3]; exact heap_old _ (heap_alloc_new wq _)
  have bs : Blk w3 (wq.heap.size + 1) #[.string ⟨#[]⟩] 9 := by
    rw [hw3]
    have := heap_alloc_new (wq.alloc (.cells #[.pointer (some ⟨hp, 0, none⟩)] 31)) (.cells #[.string ⟨#[]⟩] 9)
    rwa [World.size_alloc] at this
  obtain ⟨hbq, q0, q1, q2, q3, hh, h, hd⟩ := H.out
  have l3 := AsLay.of_below hb3
  have lq := (AsLay.of_below hbq).trans l3
  have H3 := Lib.hid (And.intro (below_step hbq hb3) (And.intro (q1.lay l3) (And.intro (q2.lay l3) (And.intro (q3.lay l3) (And.intro ((hh.below hbq).below hb3) (And.intro (h.lay lq) (And.intro (hd.lay lq) (And.intro bh bs))))))))
  clear hw3 hb3 hbq q0 q1 q2 q3 hh h hd l3 lq bh bs H
  go_wp2_with fail
  obtain ⟨hb3, q1, q2, q3, hh3, h3, hd3, bh, bs⟩ := H3.out
  refine (wpIn_wide (n := 6)).1 ?_
  refine wpIn_rangeFunc_ownH (α := Unit) rfl (by omega) (gf := 31) (lb := #[.pointer (some ⟨wq.heap.size, 0, none⟩), .pointer (some ⟨wq.heap.size + 1, 0, none⟩)]) rfl trivial (enters_of Tryz.func31 (by kernel_rfl) rfl)
    (encs := fun _ => liveA cn) (Kp := fun _ _ => True) (S := fun ys => ys = [()]) (Sp := fun pre => pre = [()]) (N := 1) (w0 := w3)
    (fun l J Jx W hW hJ _ hY h0 => all1_one (6 - 1) (by omega) l wq.heap.size (wq.heap.size + 1) hp dk mb c cn seed J Jx W (bh.lay (AsLay.of_below hW)) (bs.lay (AsLay.of_below hW)) (hh3.below hW) hJ hY h0)
    (fun _ _ => trivial) (fun _ _ _ _ _ _ _ _ => trivial) (Below.refl _ _) (fun _ => rfl)
    (fun pre W => IH (w.heap.size + 1 + 1 + 1) cn lk0 lk1 i0 i1 s0 s1 w3 pre W) (fun _ _ _ => False)
    (fun pre A B row h hg hr => h.lay (AsLay.of_grown hg (fun r e => (hr r e).2)) (h.2.grown hg (fun r e => (hr r e).1))) (fun _ _ _ _ _ hs _ _ => hs) ⟨.inl ⟨rfl, q3, h3, hd3⟩, Fr.refl _ _⟩
    (fun _ a' W => ∃ B, w3.heap.size ≤ B ∧ Blk W B #[.pointer (some ⟨cn, 0, none⟩), .string (nm 0)] 81 ∧ a' = { tmps := #[.pointer (some ⟨hp, 0, none⟩), .int .i64 0, .agg #[.int .i64 1, .int .i64 1], .pointer (some ⟨w.heap.size, 0, none⟩), .pointer (some ⟨w.heap.size + 1, 0, none⟩), .pointer (some ⟨w.heap.size + 1 + 1, 0, none⟩), .slice none 0 0, .pointer (some ⟨w.heap.size + 1 + 1 + 1, 0, none⟩), .int .i64 1, .pointer (some ⟨B, 0, none⟩), undef, undef, .pointer (some ⟨hp, 0, none⟩), .func (.func 31) #[] #[.pointer (some ⟨wq.heap.size, 0, none⟩), .pointer (some ⟨wq.heap.size + 1, 0, none⟩)], .int .i64 1, .agg #[.pointer (some ⟨cn, 0, none⟩), .string (nm 0)], undef, undef, undef, undef, undef, undef, undef, undef, undef, undef, undef, undef, undef, undef, undef, undef, undef, undef, undef, undef, undef, undef, undef, undef, undef, undef, undef, undef, undef, undef, undef, undef], defers := [] })
    (fun x a' => fun _ A B row hs hg hr => by
      obtain ⟨b, h1, h2, h3⟩ := hs
      exact ⟨b, h1, h2.lay (AsLay.of_grown hg (fun r e => (hr r e).2)), h3⟩) ?assign ?body ?done ?stop
  case assign =>
    intro l pre x W K hi hK
    unfold liveA
    gi_wp2
    exact hK _ _ ((KeepsOthers.alloc _ _).from _) trivial (hi.lay (AsLay.of_below (below_alloc (Below.refl _ W) _ (Nat.le_refl _))) (hi.2.then_below (below_alloc (Below.refl _ W) _ (Nat.le_refl _)))) ⟨W.heap.size, hi.2.size, heap_alloc_new W _, rfl⟩
  case stop =>
    rintro D c pre W _ _ h _
    exact h.elim
  case body =>
    rintro l pre x a' W hl _ hI ⟨B, hB, bB, rfl⟩ hlen
    have hpre : pre = [] := List.eq_nil_of_length_eq_zero (by omega)
    subst hpre
    obtain ⟨hor, hF⟩ := hI
    obtain ⟨hoc, hC, hdW⟩ : Blk W (w.heap.size + 1 + 1 + 1) #[.slice none 0 0] 49 ∧ ConnAt W cn lk0 lk1 i0 i1 s0 s1 1 0 0 0 1 0 ∧ CargoIn W i0.c1 (.slice none 0 0) := by
      rcases hor with ⟨_, h⟩ | ⟨e, _⟩
      · exact h
      · cases e
    have nob : ∀ {r : Nat} {cs : Array Value} {t : TypeId}, Blk w3 r cs t → t ≠ 49 → t ≠ 145 → t ≠ 287 → t ≠ 244 → t ≠ 296 → Blk W r cs t := fun hr h0 h1 h2 h3' h4 => hr.fr hF (by
      rintro (e | e)
      · exact Blk.ne hr q3 h0 e
      · exact YS.not hr h3.link0 h3.ch0 h1 h2 h3' h4 e)
    have n1 := nob q1 (by decide) (by decide) (by decide) (by decide) (by decide)
    have n2 := nob q2 (by decide) (by decide) (by decide) (by decide) (by decide)
    have b0 := blk_cell bB 0
    have b1 := blk_cell bB 1
    have c0 := blk_cell n1 0
    have d0 := blk_cell n2 0
    have d1 := blk_cell n2 1
    simp only [List.getElem?_toArray, List.getElem?_cons_zero, List.getElem?_cons_succ] at b0 b1 c0 d0 d1
    have HS := Lib.hid (conn_step cn lk0 lk1 i0 i1 s0 s1 W hC hdW)
    have HW := Lib.hid (And.intro hF (And.intro bB (And.intro hoc hC)))
    clear hor hF hoc hC hdW nob n1 n2
    unfold outC at HS
    obtain ⟨i0', hi0, hz0, hz1, hz2⟩ := info_parts infoEv
    have x0 : ∀ w, (Instr.index 86 (.agg #[.string xB, .int .i64 0, .string ⟨#[]⟩, .int .i64 0]) (.int .i64 0)).run Tryz.prog w = .ok (.agg #[.string xB, .int .i64 0]) w := fun _ => by kernel_rfl
    have x1 : ∀ w, (Instr.index 86 (.agg #[.string xB, .int .i64 0, .string ⟨#[]⟩, .int .i64 0]) (.int .i64 1)).run Tryz.prog w = .ok (.agg #[.string ⟨#[]⟩, .int .i64 0]) w := fun _ => by kernel_rfl
    have e0 : ∀ w, (binOp .neq 85 (.agg #[.string xB, .int .i64 0]) (.agg #[.string ⟨#[]⟩, .int .i64 0])).run Tryz.prog w = .ok (.bool true) w := fun _ => by kernel_rfl
    have e1 : ∀ w, (binOp .neq 85 (.agg #[.string ⟨#[]⟩, .int .i64 0]) (.agg #[.string ⟨#[]⟩, .int .i64 0])).run Tryz.prog w = .ok (.bool false) w := fun _ => by kernel_rfl
    gi_wp2
    refine ⟨trivial, CallsIn.inRound l (callsIn_wide.2 (HS.out.mono ?_))⟩
    rintro e w4 ⟨rfl, k1, ⟨got, k2⟩, k3, hf4⟩
    obtain ⟨hF, bB, hoc, hC⟩ := HW.out
    have bB4 := bB.fr hf4 (YS.not bB hC.link0 hC.ch0 (by decide) (by decide) (by decide) (by decide))
    have oc4 := hoc.fr hf4 (YS.not hoc hC.link0 hC.ch0 (by decide) (by decide) (by decide) (by decide))
    have m0 := blk_cell oc4 0
    have mf := blk_frozen oc4 0
    have mz := blk_lt oc4
    have b0 := blk_cell bB4 0
    have bz := blk_lt bB4
    simp only [List.getElem?_toArray, List.getElem?_cons_zero, List.getElem?_cons_succ] at m0 b0
    have HO := Lib.hid (conn_over cn lk0 lk1 i0.h i1.h true false s0 s1 1 0 got 0)
    have H4 := Lib.hid (And.intro bB4 (And.intro oc4 (And.intro k1 (And.intro k2 (And.intro k3 hf4)))))
    clear k1 k2 k3 hf4 hF bB hoc hC bB4 oc4 b1 c0 d0 d1 HS
    gi_wp2
    refine wpIn_loop_rounds 3 ?_
    rw [roundsIn_succ]
    have wsz : w4.heap.size ≤ (w4.alloc (.cells #[.string xB, .int .i64 0] 85)).heap.size := by simp
    gi_wp2_with (gi_at_builtin; refine wpListIn_append_own _ rfl (.tmp 28) (.tmp 36) 49 rfl (w4.heap.size + 1) 53 i0' _ 4 40 Tryz.underlying49 hi0 hz0 hz1 hz2 rfl (by omega) (.slice none 0 0) 0 [] rfl (World.ownsRow_nil _ _ _ _) ⟨w4.heap.size + 1, 0, none⟩ 1 1 [.int .i64 1, .int .i64 0, .string xB, .int .i64 0] rfl rfl ?qc2 ?qc3 ?qc4 ?qc5 ?qc6 ?_)
    case qc2 =>
      intro j u hj
      rw [Addr.add_lit, Nat.zero_add]
      have hal := heap_alloc_new (w4.alloc (.cells #[.string xB, .int .i64 0] 85)) (.cells #[.int .i64 1, .int .i64 0, .string xB, .int .i64 0] 53)
      rw [World.size_alloc] at hal
      exact (blk_cell hal j).trans (by rw [← hj]; simp)
    case qc3 => intro u hu; simp at hu; rcases hu with rfl | rfl | rfl | rfl <;> rfl
    case qc4 => simp only [maxLen]; omega
    case qc5 => omega
    case qc6 => simp
    intro v5 w5 hown5 hgrow5 hnil5
    obtain ⟨g5, c5, cur5, rfl, hg5, hB5, hx5⟩ := row_event hown5
    have hb5 : Below w4.heap.size w4 w5 := (below_alloc (below_alloc (Below.refl _ w4) _ (Nat.le_refl _)) _ (Nat.le_refl _)).grown hgrow5 (by simp; omega) (by intro k hk; simp [Value.ownBlock] at hk)
    clear hown5 hgrow5 hnil5 wsz
    obtain ⟨bB4, oc4, k1, k2, k3, hf4⟩ := H4.out
    have l5 := AsLay.of_below hb5
    have oc5 := oc4.lay l5
    have m0 := blk_cell oc5 0
    have mf := blk_frozen oc5 0
    have mz := blk_lt oc5
    simp only [List.getElem?_toArray, List.getElem?_cons_zero, List.getElem?_cons_succ] at m0
    obtain ⟨W6, hW6⟩ : ∃ W6, W6 = w5.setCell ⟨w.heap.size + 1 + 1 + 1, 0, none⟩ (.slice (some ⟨g5, 0, none⟩) 1 c5) := ⟨_, rfl⟩
    have t6 : AsLayT 49 w5 W6 := by rw [hW6]; exact .set oc5 0 _
    have f6 : Fr (fun r => r = w.heap.size + 1 + 1 + 1) w5 W6 := by rw [hW6]; exact set_fr _ _ _ _
    have oc6 : Blk W6 (w.heap.size + 1 + 1 + 1) #[.slice (some ⟨g5, 0, none⟩) 1 c5] 49 := by rw [hW6]; exact blk_set oc5 0 _
    have bB6 := t6 _ _ _ (by decide) (bB4.lay l5)
    have k16 := t6 _ _ _ (by decide) (k1.lay l5)
    have k26 := t6 _ _ _ (by decide) (k2.lay l5)
    have k36 := t6 _ _ _ (by decide) (k3.lay l5)
    have hB6 := t6 _ _ _ (by decide) hB5
    obtain ⟨W7, hW7⟩ : ∃ W7, W7 = W6.alloc (.cells #[.string ⟨#[]⟩, .int .i64 0] 85) := ⟨_, rfl⟩
    have hb7 : Below W6.heap.size W6 W7 := by rw [hW7]; exact below_alloc (Below.refl _ W6) _ (Nat.le_refl _)
    have l7 := AsLay.of_below hb7
    have HO' := Lib.hid (HO.out W7 (k16.lay l7) (k26.lay l7) (k36.lay l7))
    have b0 := blk_cell (bB6.lay l7) 0
    simp only [List.getElem?_toArray, List.getElem?_cons_zero, List.getElem?_cons_succ] at b0
    have bz := blk_lt bB6
    have c0 := blk_cell bB6 0
    simp only [List.getElem?_toArray, List.getElem?_cons_zero, List.getElem?_cons_succ] at c0
    have H7 := Lib.hid (And.intro (oc6.lay l7) (And.intro (hB6.lay l7) (And.intro hb5 (And.intro f6 hb7))))
    have HW6 := Lib.hid hW6
    have HW7 := Lib.hid hW7
    clear bB4 oc4 k1 k2 k3 hf4 hb5 l5 oc5 hW6 t6 f6 oc6 bB6 k16 k26 k36 hB6 hW7 hb7 l7 hB5 HO
    gi_wp2
    rw [← HW6.out]
    clear HW6 m0 mf mz
    rw [roundsIn_succ]
    gi_wp2
    rw [roundsIn_succ]
    gi_wp2
    rw [← HW7.out]
    refine ⟨trivial, CallsIn.inRound l (callsIn_wide.2 (HO'.out.mono ?_))⟩
    rintro e W8 ⟨rfl, hb8⟩
    gi_wp2
    obtain ⟨hF, bB, hoc, hC⟩ := HW.out
    obtain ⟨_, _, _, _, _, hf4⟩ := H4.out
    obtain ⟨oc7, hB7, hb5, f6, hb7⟩ := H7.out
    have l8 := AsLay.of_below hb8
    have g4 : Fr (fun r => r = w.heap.size + 1 + 1 + 1 ∨ YS i0 lk0 W r) W w4 := hf4.mono (fun _ _ e => .inr e)
    have g8 : Fr (fun r => r = w.heap.size + 1 + 1 + 1 ∨ YS i0 lk0 W r) W W8 := (((g4.then_below hb5).trans f6 (fun _ e => e) (fun _ _ e => .inl e)).then_below hb7).then_below hb8
    refine ⟨KeepsFrom.of_cells g8 ?_, trivial, .inr ⟨rfl, g5, c5, cur5, oc7.lay l8, hB7.lay l8, hx5⟩, hF.trans g8 (fun _ e => e) ?_⟩
    · rintro r (rfl | e)
      · exact ⟨_, _, hoc⟩
      · exact hC.blk e
    · rintro r hr (rfl | e)
      · exact .inl rfl
      · by_cases hx : r = w.heap.size + 1 + 1 + 1 ∨ YS i0 lk0 w3 r
        · exact hx
        · exact .inr (e.back hF hr hx)
  case done =>
    rintro D ys W hD rfl hI hKD
    obtain ⟨hor, hF⟩ := hI
    rcases hor with ⟨e, _⟩ | ⟨_, g, gc, cs, hoc, hg, hx⟩
    · cases e
    have m0 := blk_cell hoc 0
    simp only [List.getElem?_toArray, List.getElem?_cons_zero, List.getElem?_cons_succ] at m0
    have HD := Lib.hid (And.intro hF (And.intro hg (And.intro hx hKD)))
    clear hF hg hx hKD hoc
    go_wp2_with fail
    obtain ⟨hF, hg, hx, hKD⟩ := HD.out
    refine ⟨by simp, .inl ⟨_, _, rfl, run_takeDeferred hKD, ?_⟩⟩
    have hal : AsLay W (W.putObj D (.deferred none)) := AsLay.of_grown (grownBy_putObj' W D _) (fun r e => by cases e; exact ⟨_, hKD, rfl⟩)
    have e1 : w.heap.size ≤ D := Nat.le_trans hb3.size hD
    have g1 : Fr (YS i0 lk0 w) w W := (Fr.of_below (X := fun _ => False) hb3).trans hF (fun _ e => e.elim) (fun r hr e => by
      rcases e with e | e
      · omega
      · exact e.back (Fr.of_below (X := fun _ => False) hb3) hr (fun e => e))
    exact ⟨_, results_tmp rfl _ _ _, g, ⟨gc, rfl⟩, (blk_cell (hal _ _ _ hg) 2).trans hx, g1.grown (grownBy_putObj' W D _) (fun r e => by cases e; exact e1)⟩
end Go.Proofs.YtdpfmemcpipbkaaGreatDoor.Hand
end
section
/- lives. -/
namespace Go.Proofs.YtdpfmemcpipbkaaGreatDoor.Hand
open Go.RowKit
set_option linter.unusedVariables false
set_option linter.unusedSimpArgs false
theorem lifeP_good : GoodM lifeP := by
  have ok := nm_ok 0 true 1 (by decide) (by decide)
  refine ⟨⟨?_, ?_, ?_⟩, ?_⟩
  · intro k hk
    rcases k with _ | k
    · exact ok
    · exfalso; simp [lifeP] at hk
  · intro k hk
    exfalso; simp [lifeP] at hk
  · simp [lifeP]
  · intro k hk
    rcases k with _ | k
    · exact .inr rfl
    · exfalso; simp [lifeP] at hk
theorem nil_good : Good [] := ⟨fun k hk => by simp at hk, fun k hk => by simp at hk, by simp⟩
theorem nil_up : Up [] := fun k hk => by simp at hk
theorem desk_life (dk : Nat) : DeskDo 1 (nm 0) 1 [] lifeP dk [] :=
  desk_ok 1 (nm 0) 1 81 0 rfl (fun _ _ => by go_simp) rfl rfl [] _ lifeP_good dk fun a n cap W hr => c_add _ _ _ _ _ _ _ _ _ hr fun W hr => (show sink (nm 0, true, 1) ([] : List Px).reverse [] = lifeP from rfl) ▸ add_told [] nil_good nil_up (by decide) (nm 0) 1 (nm_ok 0 true 1 (by decide) (by decide)) (by rfl) a n cap W hr
def lifeTxt : ByteArray := ⟨#[112, 114, 111, 120, 121, 32, 97, 100, 100, 32, 97, 32, 49]⟩
theorem line_lives : Line lifeTxt [] lifeP [] okB := line_do _ _ 1 1 line_life (by decide) (by decide) _ _ desk_life
/-- What says a line of one string. -/
theorem says_one {w : World} {u : Value} {f : ByteArray} {B : Nat} (h : Says w u ([] ++ [f]) B) : ∃ g c cur, u = .slice (some ⟨g, 0, none⟩) 1 c ∧ B ≤ g ∧ Blk w g cur 9 ∧ cur[0]? = some (.string f) := by
  unfold Says at h
  rcases h.2 with ⟨_, h2⟩ | ⟨g, cap, cur, hv, hb, hh, hc, _, hcs, ht⟩
  · simp at h2
  · refine ⟨g, cap, cur, hv, hb, hh, ?_⟩
    have := congrArg (fun l => l[0]?) ht
    simpa [List.getElem?_take] using this
theorem YS.ge {i : CI} {lk n : Nat} {w : World} {b : Nat} (hi : i.Ge n) (hl : n ≤ lk) (h : YS i lk w b) : n ≤ b := by
  rcases h with rfl | rfl | rfl | rfl | rfl | h
  · exact hl
  · exact hi.s1
  · exact hi.c0
  · exact hi.s0
  · exact hi.c1
  · exact Nat.le_trans hi.b h.1
set_option maxHeartbeats 16000000 in
set_option maxRecDepth 100000 in
theorem lives_calls (w : World) (hG : Glob w) : Calls Tryz.prog 6 #[] w fun e w' => e = .returned (.bool true) ∧ Below w.heap.size w w' := by
  have HN := Lib.hid (mach_new w)
  have HG := Lib.hid hG
  clear hG
  go_enter Tryz.func6, Tryz.ntmps6
  go_wp2_with fail
  refine HN.out.mono ?_
  rintro e w1 ⟨mp, hp, dk, mb, rfl, g1, g2, g3, g4, g5, hm, hh, hb1⟩
  have m0 := blk_cell hm 0
  simp only [List.getElem?_toArray, List.getElem?_cons_zero, List.getElem?_cons_succ] at m0
  have hM := Lib.hid (mach_hub mp hp w1 m0)
  have hdk3 : 3 ≤ dk := by have := HG.out.sz; omega
  have HL := Lib.hid (line_lives hp dk mb 0 1 5 0 hdk3 w1 (HG.out.below hb1) hh)
  unfold lifeTxt at HL
  have H1 := Lib.hid (And.intro g2 (And.intro g3 (And.intro g4 hb1)))
  clear g1 g2 g3 g4 g5 hm hh hb1 m0 hdk3 HN
  go_wp2_with fail
  refine hM.out.mono ?_
  rintro e w2 ⟨rfl, rfl⟩
  go_wp2_with fail
  refine hM.out.mono ?_
  rintro e w2 ⟨rfl, rfl⟩
  go_wp2_with fail
  refine HL.out.mono ?_
  rintro e w2 ⟨u, rfl, hs2, hh2, hf2⟩
  obtain ⟨gl, cl, curl, rfl, hgl, hbl, hxl⟩ := says_one hs2
  have HC := Lib.hid (hub_connect hp dk mb 0 1 w2 hh2)
  have H2 := Lib.hid (And.intro hbl (And.intro hxl (And.intro hf2 hh2)))
  unfold nm at HC
  clear hs2 hh2 hf2 hgl hbl hxl HL hM
  go_wp2_with fail
  refine HC.out.mono ?_
  rintro e w3 ⟨cn, lk0, lk1, i0, i1, s0, s1, rfl, hlk3, hG3, ho3, hc3, hz3, hy3, hf3⟩
  obtain ⟨W3, hW3⟩ : ∃ W3, W3 = w3.alloc (.cells #[.int .u8 120] 5 (1, 2)) := ⟨_, rfl⟩
  have hb3 : Below w3.heap.size w3 W3 := by rw [hW3]; exact below_alloc (Below.refl _ w3) _ (Nat.le_refl _)
  have hby : ByteIn W3 w3.heap.size 0 := by rw [hW3]; exact (blk_cell (heap_alloc_new w3 _) 0).trans rfl
  have hgz : w3.heap.size < W3.heap.size := by rw [hW3, World.size_alloc]; omega
  have l3 := AsLay.of_below hb3
  have HS := Lib.hid (hub_send hp dk mb 0 cn lk0 lk1 1 i0 i1 s0 s1 w3.heap.size 0 1 (Nat.le_refl _) W3 (ho3.below hb3) (hc3.lay l3) (hz3.lay l3) (hy3.lay l3) hby hgz)
  have HG3 := Lib.hid (And.intro hlk3 hG3)
  have H3 := Lib.hid (And.intro hf3 (And.intro hb3 (And.intro (hc3.lay l3) ho3)))
  have HW3 := Lib.hid hW3
  clear hlk3 hG3 ho3 hc3 hz3 hy3 hf3 hW3 hb3 hby hgz l3 HC
  have cv := Lib.run_convert_bytes_const (P := Tryz.prog) w3 48 5 #[.int .u8 120] 1 1 Tryz.underlying48 Tryz.underlying5
  simp only [List.size_toArray, List.length_cons, List.length_nil, Nat.reduceAdd] at cv
  go_wp2_with fail
  rw [← HW3.out]
  clear HW3 cv
  refine HS.out.mono ?_
  rintro e w4 ⟨rfl, ho4, hc4, hd4, hf4⟩
  have HT := Lib.hid (hub_step hp dk mb 0 cn lk0 lk1 1 i0 i1 s0 s1 w4 ho4 hc4 hd4)
  have H4 := Lib.hid (And.intro hf4 hc4)
  clear ho4 hc4 hd4 hf4 HS
  go_wp2_with fail
  refine HT.out.mono ?_
  rintro e w5 ⟨ge, gc, rfl, xe, hf5⟩
  obtain ⟨hf4, hc4⟩ := H4.out
  obtain ⟨hf3, hb3, hc3, ho3⟩ := H3.out
  obtain ⟨hbl, hxl, hf2, hh2⟩ := H2.out
  have hb3l : Blk w3 gl curl 9 := hbl.fr hf3 (by
    rintro (e | e)
    · exact Blk.ne hbl hh2.hub (by decide) e
    · exact map_noblk hh2.map ⟨_, _, e ▸ hbl⟩)
  have hb4l : Blk w4 gl curl 9 := (hb3l.lay (AsLay.of_below hb3)).fr hf4 (YS.not (hb3l.lay (AsLay.of_below hb3)) hc3.link0 hc3.ch0 (by decide) (by decide) (by decide) (by decide))
  have hb5l : Blk w5 gl curl 9 := hb4l.fr hf5 (YS.not hb4l hc4.link0 hc4.ch0 (by decide) (by decide) (by decide) (by decide))
  have yl := (blk_cell hb5l 0).trans hxl
  obtain ⟨k2, k3, k4, hb1⟩ := H1.out
  have B1 : Below w.heap.size w w2 := hb1.trans (hf2.below hb1.size (fun r e => by omega))
  have B3 : Below w.heap.size w W3 := (B1.trans (hf3.below B1.size (fun r e => by omega))).trans (hb3.mono (Nat.le_trans B1.size hf3.size))
  have gys : ∀ {W : World} {r : Nat}, YS i0 lk0 W r → w.heap.size ≤ r := fun e => Nat.le_trans B1.size (YS.ge HG3.out.2 HG3.out.1 e)
  have B4 : Below w.heap.size w w4 := B3.trans (hf4.below B3.size (fun r e => gys e))
  have F5 : Below w.heap.size w w5 := B4.trans (hf5.below B4.size (fun r e => gys e))
  have HF := Lib.hid F5
  unfold okB at yl
  unfold xB at xe
  clear hf4 hc4 hf3 hb3 hc3 ho3 hbl hxl hf2 hh2 hb3l hb4l hb5l k2 k3 k4 hb1 B1 B3 gys B4 F5 hf5 HT
  go_wp2_with fail
  go_ret
  exact ⟨rfl, HF.out⟩
end Go.Proofs.YtdpfmemcpipbkaaGreatDoor.Hand
end
section
/- What the law keeps: which proxies there are, and which are on. -/
namespace Go.Proofs.YtdpfmemcpipbkaaGreatDoor.Hand
open Go.RowKit
set_option linter.unusedVariables false
set_option linter.unusedSimpArgs false
def isB : Option Bool → Bool
  | none => false
  | some _ => true
def onB : Option Bool → Bool
  | some true => true
  | _ => false
def thereC (st : Nat → Option Bool) : Array Value := #[.bool (isB (st 0)), .bool (isB (st 1)), .bool (isB (st 2)), .bool (isB (st 3))]
def onC (st : Nat → Option Bool) : Array Value := #[.bool (onB (st 0)), .bool (onB (st 1)), .bool (onB (st 2)), .bool (onB (st 3))]
def nmC : Array Value := #[.string (nm 0), .string (nm 1), .string (nm 2), .string (nm 3)]
theorem four (i : Nat) (hi : i < 4) : i = 0 ∨ i = 1 ∨ i = 2 ∨ i = 3 := by omega
theorem thereC_get (st : Nat → Option Bool) (i : Nat) (hi : i < 4) : (thereC st)[i]? = some (.bool (isB (st i))) := by
  rcases four i hi with rfl | rfl | rfl | rfl <;> rfl
theorem onC_get (st : Nat → Option Bool) (i : Nat) (hi : i < 4) : (onC st)[i]? = some (.bool (onB (st i))) := by
  rcases four i hi with rfl | rfl | rfl | rfl <;> rfl
theorem nmC_get (i : Nat) (hi : i < 4) : nmC[i]? = some (.string (nm i)) := by
  rcases four i hi with rfl | rfl | rfl | rfl <;> rfl
theorem thereC_set (st : Nat → Option Bool) (i : Nat) (hi : i < 4) (x : Option Bool) (b : Bool) (h : isB x = b) : (thereC st).setIfInBounds i (.bool b) = thereC (upd st i x) := by
  subst h
  rcases four i hi with rfl | rfl | rfl | rfl <;> simp [thereC, upd]
theorem onC_set (st : Nat → Option Bool) (i : Nat) (hi : i < 4) (x : Option Bool) (b : Bool) (h : onB x = b) : (onC st).setIfInBounds i (.bool b) = onC (upd st i x) := by
  subst h
  rcases four i hi with rfl | rfl | rfl | rfl <;> simp [onC, upd]
/-- The lines of one name. -/
def lnOf (i : Nat) : Option Bool → List ByteArray
  | none => []
  | some true => [nm i ++ ⟨#[32, 111, 110, 32, 51, 32, 48]⟩]
  | some false => [nm i ++ ⟨#[32, 111, 102, 102, 32, 51, 32, 48]⟩]
def wantL (st : Nat → Option Bool) : Nat → List ByteArray
  | 0 => []
  | k + 1 => wantL st k ++ lnOf k (st k)
theorem ln_at1 (i : Nat) (hi : i < 4) (x : Option Bool) : (at1 i x).map lineOf = lnOf i x := by
  rcases x with _ | _ | _ <;> rcases four i hi with rfl | rfl | rfl | rfl <;> first | rfl | (simp [at1, lnOf, lineOf, onoff, dig, nm]; decide)
theorem want_reg (st : Nat → Option Bool) : wantL st 4 = (reg st).map lineOf := by
  unfold reg
  simp only [List.map_append, ln_at1 _ (by decide : 0 < 4), ln_at1 _ (by decide : 1 < 4), ln_at1 _ (by decide : 2 < 4), ln_at1 _ (by decide : 3 < 4), wantL]
  simp
theorem want_len (st : Nat → Option Bool) : ∀ k, (wantL st k).length ≤ k
  | 0 => Nat.le_refl _
  | k + 1 => by
    have := want_len st k
    have h : (lnOf k (st k)).length ≤ 1 := by rcases st k with _ | _ | _ <;> simp [lnOf]
    simp only [wantL, List.length_append]
    omega
/-- An argument: proxies' kinds, and who. -/
def ArgAt (w : World) (A : Option Addr) (l : List (Int × Int)) : Prop := ∀ k (h : k < l.length), ∃ a, A = some a ∧ w.cell? (a.add (k * 2)) = some (.int .i64 (l[k]'h).1) ∧ w.cell? (a.add (k * 2 + 1)) = some (.int .i64 (l[k]'h).2)
def LawI (W0 wr : World) (hp dk mb tb ob : Nat) (st : Nat → Option Bool) : Prop := Blk wr tb (thereC st) 34 ∧ Blk wr ob (onC st) 34 ∧ HubAt wr hp dk 1 5 0 mb 0 (reg st) ∧ Fr (fun b => b = dk ∨ b = tb ∨ b = ob) W0 wr
theorem ArgAt.below {w w' : World} {A : Option Addr} {l : List (Int × Int)} (h : ArgAt w A l) (hb : Below w.heap.size w w') : ArgAt w' A l := fun k hk => by
  obtain ⟨a, h1, h2, h3⟩ := h k hk
  exact ⟨a, h1, (hb.cell (World.block_lt_of_cell? w _ h2)).trans h2, (hb.cell (World.block_lt_of_cell? w _ h3)).trans h3⟩
theorem LawI.below {W0 wr wr' : World} {hp dk mb tb ob : Nat} {st : Nat → Option Bool} (h : LawI W0 wr hp dk mb tb ob st) (hb : Below wr.heap.size wr wr') : LawI W0 wr' hp dk mb tb ob st :=
  ⟨h.1.lay (AsLay.of_below hb), h.2.1.lay (AsLay.of_below hb), h.2.2.1.below hb, h.2.2.2.then_below hb⟩
theorem add_next (a : Addr) (k : Nat) : a.add (k * 2 + 1) = ⟨(a.add (k * 2)).block, (a.add (k * 2)).off + 1, none⟩ := by
  unfold Addr.add
  rw [if_neg (by omega)]
  split
  · next h => simp only [h, Nat.zero_add]
  · simp only [Nat.add_assoc]
theorem DeskAt.ne {w : World} {dk b : Nat} {l : List Px} {cs : Array Value} {t : TypeId} (h : DeskAt w dk l) (hb : Blk w b cs t) (ht : t ≠ 94) : b ≠ dk := by
  obtain ⟨a, n, cap, d, r, h⟩ := h
  exact Blk.ne hb h.blk ht
/-- Two blocks of four bools turned. -/
theorem HubAt.fr4 {w w' : World} {hp dk : Nat} {seed room last : Int} {mb c : Nat} {l : List Px} {X : Nat → Prop} (h : HubAt w hp dk seed room last mb c l) (hf : Fr X w w') (hX : ∀ b, X b → ∃ cs, Blk w b cs 34) : HubAt w' hp dk seed room last mb c l := by
  have no : ∀ {b : Nat} {cs : Array Value} {t : TypeId}, Blk w b cs t → t ≠ 34 → ¬ X b := fun hb ht e => by
    obtain ⟨cs', hb'⟩ := hX _ e
    exact Blk.ne hb hb' ht rfl
  refine ⟨Blk.fr h.hub hf (no h.hub (by decide)), (hf.block mb (blk_lt h.map) (fun e => map_noblk h.map ⟨_, _, (hX _ e).choose_spec⟩)).trans h.map, ?_⟩
  obtain ⟨a, n, cap, d, r, hd⟩ := h.desk
  refine ⟨a, n, cap, d, r, hd.keep hf (no hd.blk (by decide)) (fun g e => ?_)⟩
  rcases hd.reg.own.2 with ⟨hv, _⟩ | ⟨g', cp, cur, hv, _, hh, _⟩
  · rw [e] at hv; cases hv
  · rw [e] at hv
    injection hv with h1
    injection h1 with h1
    injection h1 with h1
    subst h1
    exact no (show Blk w g cur _ from hh) (by decide)
/-- Behind a line. -/
theorem LawI.line {W0 V w6 : World} {hp dk mb tb ob : Nat} {st' : Nat → Option Bool} {l : List Px} (h1 : Blk V tb (thereC st') 34) (h2 : Blk V ob (onC st') 34) (h : HubAt V hp dk 1 5 0 mb 0 l) (hF : Fr (fun b => b = dk ∨ b = tb ∨ b = ob) W0 V) (hh : HubAt w6 hp dk 1 5 0 mb 0 (reg st')) (hf : Fr (fun b => b = dk) V w6) : LawI W0 w6 hp dk mb tb ob st' :=
  ⟨h1.fr hf (h.desk.ne h1 (by decide)), h2.fr hf (h.desk.ne h2 (by decide)), hh, hF.trans hf (fun _ e => e) (fun _ _ e => .inl e)⟩
/-- Both rows turned at one place. -/
theorem LawI.put {W0 V : World} {hp dk mb tb ob : Nat} {st : Nat → Option Bool} (h : LawI W0 V hp dk mb tb ob st) (i : Nat) (hi : i < 4) (x : Option Bool) (b1 b2 : Bool) (e1 : isB x = b1) (e2 : onB x = b2) (hne : tb ≠ ob) : Blk ((V.setCell ⟨tb, i, none⟩ (.bool b1)).setCell ⟨ob, i, none⟩ (.bool b2)) tb (thereC (upd st i x)) 34 ∧ Blk ((V.setCell ⟨tb, i, none⟩ (.bool b1)).setCell ⟨ob, i, none⟩ (.bool b2)) ob (onC (upd st i x)) 34 ∧ HubAt ((V.setCell ⟨tb, i, none⟩ (.bool b1)).setCell ⟨ob, i, none⟩ (.bool b2)) hp dk 1 5 0 mb 0 (reg st) ∧ Fr (fun b => b = dk ∨ b = tb ∨ b = ob) W0 ((V.setCell ⟨tb, i, none⟩ (.bool b1)).setCell ⟨ob, i, none⟩ (.bool b2)) := by
  obtain ⟨ht, ho, hh, hF⟩ := h
  have ht1 : Blk (V.setCell ⟨tb, i, none⟩ (.bool b1)) tb (thereC (upd st i x)) 34 := by
    rw [← thereC_set st i hi x b1 e1]
    exact blk_set ht i _
  have ho1 : Blk (V.setCell ⟨tb, i, none⟩ (.bool b1)) ob (onC st) 34 := (heap_setCell_ne _ _ _ _ (by show ob ≠ tb; exact Ne.symm hne)).trans ho
  have f1 : Fr (fun b => b = tb ∨ b = ob) V ((V.setCell ⟨tb, i, none⟩ (.bool b1)).setCell ⟨ob, i, none⟩ (.bool b2)) := ((Fr.refl (fun b => b = tb ∨ b = ob) V).set (p := ⟨tb, i, none⟩) (.inl (.inl rfl)) _).set (p := ⟨ob, i, none⟩) (.inl (.inr rfl)) _
  refine ⟨(heap_setCell_ne _ _ _ _ (by show tb ≠ ob; exact hne)).trans ht1, ?_, hh.fr4 f1 ?_, hF.trans f1 (fun _ e => e) (fun _ _ e => .inr e)⟩
  · rw [← onC_set st i hi x b2 e2]
    exact blk_set ho1 i _
  · rintro b (rfl | rfl)
    · exact ⟨_, ht⟩
    · exact ⟨_, ho⟩
theorem own_at {w : World} {B n c : Nat} {a : Option Addr} {L : List ByteArray} (h : w.ownsRow B 9 1 (.slice a n c) n (L.map Value.string)) (j : Nat) (hj : j < n) (hl : j < L.length) : ∃ g, a = some ⟨g, 0, none⟩ ∧ w.cell? ⟨g, j, none⟩ = some (.string (L[j]'hl)) := by
  rcases h.2 with ⟨_, h0⟩ | ⟨g, cap, cur, hv, _⟩
  · omega
  · injection hv with h1 h2 h3
    subst h1
    have := h.cells (g := g) rfl j (.string (L[j]'hl)) (by simp [hl])
    rw [Addr.add_lit, Nat.zero_add] at this
    exact ⟨g, rfl, this⟩
theorem own_fr {X : Nat → Prop} {w w' : World} {B e s n : Nat} {v : Value} {xs : List Value} (h : w.ownsRow B e s v n xs) (hf : Fr X w w') (hx : ∀ g, B ≤ g → ¬ X g) : w'.ownsRow B e s v n xs := by
  refine ⟨h.1, ?_⟩
  rcases h.2 with hn | ⟨g, cp, cur, hv, hb, hh, r⟩
  · exact .inl hn
  · exact .inr ⟨g, cp, cur, hv, hb, (hf.block g (blk_lt hh) (hx g hb)).trans hh, r⟩
theorem nextOf_none (k : Nat) (hk : k < 4) (h : k ≠ 0) : nextOf k none = none := by
  have : k = 1 ∨ k = 2 ∨ k = 3 := by omega
  rcases this with rfl | rfl | rfl <;> rfl
theorem told_none (k : Nat) (hk : k < 4) (h : k ≠ 0) : toldOf k none = e142 := by
  have : k = 1 ∨ k = 2 ∨ k = 3 := by omega
  rcases this with rfl | rfl | rfl <;> rfl
theorem told_some (k : Nat) (hk : k < 4) (h : k ≠ 0) (b : Bool) : toldOf k (some b) = okB := by
  have : k = 1 ∨ k = 2 ∨ k = 3 := by omega
  rcases this with rfl | rfl | rfl <;> rfl
theorem next_some (k : Nat) (hk : k < 4) (h : k ≠ 0) (b : Bool) : isB (nextOf k (some b)) = ((k : Int) != 1) ∧ onB (nextOf k (some b)) = ((k : Int) == 2) := by
  have : k = 1 ∨ k = 2 ∨ k = 3 := by omega
  rcases this with rfl | rfl | rfl <;> exact ⟨rfl, rfl⟩
end Go.Proofs.YtdpfmemcpipbkaaGreatDoor.Hand
end
