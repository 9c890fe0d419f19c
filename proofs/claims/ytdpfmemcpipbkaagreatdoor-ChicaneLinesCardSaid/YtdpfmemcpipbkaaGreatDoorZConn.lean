/- A connection: two links. -/
import Derived.Test.YtdpfmemcpipbkaaGreatDoorZByte
import Derived.Test.YtdpfmemcpipbkaaGreatDoorZDo
section
namespace Go.Proofs.YtdpfmemcpipbkaaGreatDoor.Hand
open Go.RowKit
set_option linter.unusedVariables false
set_option linter.unusedSimpArgs false
attribute [local go_sem] Oper.semAt_some
set_option maxHeartbeats 4000000 in
set_option maxRecDepth 100000 in
theorem mix_calls (n : Int) (w : World) : Calls Tryz.prog 34 #[.int .u64 n] w fun e w' => (∃ m, e = .returned (.int .u64 m)) ∧ w = w' := by
  go_enter Tryz.func34, Tryz.ntmps34
  go_wp2_with fail
  go_ret
  exact ⟨⟨_, rfl⟩, rfl⟩
set_option maxHeartbeats 4000000 in
set_option maxRecDepth 100000 in
theorem stream_calls (n x : Int) (g : Nat) (w : World) (hg : w.cell? ⟨g, 0, none⟩ = some (.int .u64 x)) : Calls Tryz.prog 20 #[.int .u64 n, .slice (some ⟨g, 0, none⟩) 1 1] w fun e w' => (∃ m, e = .returned (.int .u64 m)) ∧ w = w' := by
  have kw0 : IntKind.i64.wrap 0 = 0 := rfl
  have kt0 : Int.toNat 0 = 0 := rfl
  go_enter Tryz.func20, Tryz.ntmps20
  go_wp2_with fail
  refine (mix_calls _ _).mono ?_
  rintro e w1 ⟨⟨m1, rfl⟩, rfl⟩
  go_wp2_with fail
  refine wp_loop_rounds 2 ?_
  rw [rounds_succ]
  go_wp2_with fail
  refine (mix_calls _ _).mono ?_
  rintro e w1 ⟨⟨m2, rfl⟩, rfl⟩
  go_wp2_with fail
  refine (mix_calls _ _).mono ?_
  rintro e w1 ⟨⟨m3, rfl⟩, rfl⟩
  go_wp2_with fail
  rw [rounds_succ]
  go_wp2_with fail
  go_ret
  exact ⟨⟨_, rfl⟩, rfl⟩
set_option maxHeartbeats 4000000 in
set_option maxRecDepth 100000 in
theorem is_0 (w : World) : Calls Tryz.prog 35 #[.int .i64 0] w fun e w' => e = .returned (.bool true) ∧ w = w' := by
  go_enter Tryz.func35, Tryz.ntmps35
  go_wp2_with fail
  go_ret
  exact ⟨rfl, rfl⟩
set_option maxHeartbeats 4000000 in
set_option maxRecDepth 100000 in
theorem done_calls (lk : Nat) (h : Nat) (up : Bool) (seed sent got : Int) (w : World) (hl : Blk w lk (linkC h up seed sent got) 145) : Calls Tryz.prog 39 #[.pointer (some ⟨lk, 0, none⟩)] w fun e w' => e = .returned (.bool false) ∧ w = w' := by
  have a9 := blk_cell hl 9
  simp only [linkC, List.getElem?_toArray, List.getElem?_cons_zero, List.getElem?_cons_succ] at a9
  clear hl
  go_enter Tryz.func39, Tryz.ntmps39
  go_wp2_with fail
  go_ret
  exact ⟨rfl, rfl⟩
set_option maxHeartbeats 4000000 in
set_option maxRecDepth 100000 in
theorem each_calls (cn : Nat) (w : World) : Calls Tryz.prog 37 #[.pointer (some ⟨cn, 0, none⟩)] w fun e w' => e = .returned (.func (.func 69) #[] #[.pointer (some ⟨w.heap.size, 0, none⟩)]) ∧ w' = w.alloc (.cells #[.pointer (some ⟨cn, 0, none⟩)] 76) := by
  go_enter Tryz.func37, Tryz.ntmps37
  go_wp2_with fail
  go_ret
  exact ⟨rfl, rfl⟩
def connC (lk0 lk1 : Nat) : Array Value := #[.pointer (some ⟨lk0, 0, none⟩), .pointer (some ⟨lk1, 0, none⟩), .slice none 0 0]
/-- What each way tells: its number, and its link. -/
def wayA (lk0 lk1 : Nat) : Bool → Array Value
  | false => #[.int .i64 0, .pointer (some ⟨lk0, 0, none⟩)]
  | true => #[.int .i64 1, .pointer (some ⟨lk1, 0, none⟩)]
set_option maxHeartbeats 8000000 in
set_option maxRecDepth 100000 in
theorem each1 (n : Nat) (hn : 1 ≤ n) (cn lk0 lk1 bx l : Nat) (J Jx : List Bool → World → Prop) (W : World) (hbx : Blk W bx #[.pointer (some ⟨cn, 0, none⟩)] 76) (hc : Blk W cn (connC lk0 lk1) 105)
    (hY : ∀ pre x W1, J pre W1 → pre.length < 2 → YieldAt Fence.wide (n - 1) Tryz.prog l (wayA lk0 lk1 x) W1 fun e W' => (e = .returned (.bool true) ∧ J (pre ++ [x]) W' ∧ True) ∨ (e = .returned (.bool false) ∧ Jx (pre ++ [x]) W'))
    (h0 : J [] W) : CallsIn Fence.wide n Tryz.prog 69 #[.func (.yield l) #[] #[], .pointer (some ⟨bx, 0, none⟩)] W fun e W' => (∃ v, e = .returned v) ∧ ((∃ ys, ys = [false, true] ∧ J ys W') ∨ (∃ pre, (pre = [false] ∨ pre = [false, true]) ∧ Jx pre W')) := by
  have kw0 : IntKind.i64.wrap 0 = 0 := rfl
  have kt0 : Int.toNat 0 = 0 := rfl
  have kw1 : IntKind.i64.wrap 1 = 1 := rfl
  have kt1 : Int.toNat 1 = 1 := rfl
  have i0 : ∀ w, (Instr.index 103 (.agg #[.pointer (some ⟨lk0, 0, none⟩), .pointer (some ⟨lk1, 0, none⟩)]) (.int .i64 0)).run Tryz.prog w = .ok (.pointer (some ⟨lk0, 0, none⟩)) w := fun _ => by kernel_rfl
  have i1 : ∀ w, (Instr.index 103 (.agg #[.pointer (some ⟨lk0, 0, none⟩), .pointer (some ⟨lk1, 0, none⟩)]) (.int .i64 1)).run Tryz.prog w = .ok (.pointer (some ⟨lk1, 0, none⟩)) w := fun _ => by kernel_rfl
  have b0 := blk_cell hbx 0
  have a0 := blk_cell hc 0
  have a1 := blk_cell hc 1
  unfold connC at a0 a1
  simp only [List.getElem?_toArray, List.getElem?_cons_zero, List.getElem?_cons_succ] at b0 a0 a1
  have HY := Lib.hid hY
  have H0 := Lib.hid h0
  clear hbx hc hY h0
  refine callsIn_of_wp Tryz.func69 rfl trivial ?_ rfl
  simp only [Tryz.ntmps69, List.size_toArray, List.length_cons, List.length_nil, Nat.reduceAdd, Nat.reduceSub, Array.replicate_succ, Array.replicate_zero, List.push_toArray, List.append_toArray, List.nil_append, List.cons_append]
  gi_wp2
  refine wpIn_loop_rounds 3 ?_
  rw [roundsIn_succ]
  obtain ⟨fn, tmps, assign, body, hy, hR⟩ := HY.out [] false W H0.out (by decide)
  unfold wayA at hy
  have HR := Lib.hid hR
  clear hR
  gi_wp2
  refine HR.out.mono ?_
  rintro e W2 (⟨rfl, hJ2, _⟩ | ⟨rfl, hJx⟩)
  · clear HR hy
    obtain ⟨fn2, tmps2, assign2, body2, hy2, hR2⟩ := HY.out [false] true W2 hJ2 (by decide)
    unfold wayA at hy2
    have HR2 := Lib.hid hR2
    clear hR2 hJ2
    gi_wp2
    rw [roundsIn_succ]
    gi_wp2
    refine HR2.out.mono ?_
    rintro e W3 (⟨rfl, hJ3, _⟩ | ⟨rfl, hJx3⟩)
    · clear HR2 hy2
      gi_wp2
      rw [roundsIn_succ]
      gi_wp2
      go_end0
      exact ⟨⟨_, rfl⟩, .inl ⟨_, rfl, hJ3⟩⟩
    · clear HR2 hy2
      gi_wp2
      refine bodyPost_ret (results_none rfl _ _ _) rfl ?_
      exact ⟨⟨_, rfl⟩, .inr ⟨_, .inr rfl, hJx3⟩⟩
  · clear HR hy
    gi_wp2
    refine bodyPost_ret (results_none rfl _ _ _) rfl ?_
    exact ⟨⟨_, rfl⟩, .inr ⟨_, .inl rfl, hJx⟩⟩
end Go.Proofs.YtdpfmemcpipbkaaGreatDoor.Hand
end
section
/- conn.New. -/
namespace Go.Proofs.YtdpfmemcpipbkaaGreatDoor.Hand
open Go.RowKit
set_option linter.unusedVariables false
set_option linter.unusedSimpArgs false
theorem CI.Ge.mono {i : CI} {A C : Nat} (h : i.Ge A) (hc : C ≤ A) : i.Ge C := ⟨Nat.le_trans hc h.b, Nat.le_trans hc h.h, Nat.le_trans hc h.la, Nat.le_trans hc h.p0, Nat.le_trans hc h.p1, Nat.le_trans hc h.s0, Nat.le_trans hc h.s1, Nat.le_trans hc h.c0, Nat.le_trans hc h.c1⟩
/-- The blocks of the first link lie ahead of those of the second one. -/
def Apart (i0 : CI) (lk0 : Nat) (i1 : CI) (lk1 : Nat) : Prop := ∃ m, lk0 < m ∧ i0.s0 < m ∧ i0.s1 < m ∧ i0.c0 < m ∧ i0.c1 < m ∧ m ≤ lk1 ∧ i1.Ge m
structure ConnAt (w : World) (cn lk0 lk1 : Nat) (i0 i1 : CI) (s0 s1 sent got : Int) (q0 q1 : Int) (k0 k1 : Nat) : Prop where
  conn : Blk w cn (connC lk0 lk1) 105
  link0 : Blk w lk0 (linkC i0.h true s0 sent got) 145
  link1 : Blk w lk1 (linkC i1.h false s1 0 0) 145
  ch0 : ChainAt w i0 q0 q1 k0 k1
  ch1 : ChainAt w i1 0 0 0 0
  apart : Apart i0 lk0 i1 lk1
theorem ConnAt.lay {w w' : World} {cn lk0 lk1 : Nat} {i0 i1 : CI} {s0 s1 sent got q0 q1 : Int} {k0 k1 : Nat} (h : ConnAt w cn lk0 lk1 i0 i1 s0 s1 sent got q0 q1 k0 k1) (l : AsLay w w') : ConnAt w' cn lk0 lk1 i0 i1 s0 s1 sent got q0 q1 k0 k1 :=
  ⟨l _ _ _ h.conn, l _ _ _ h.link0, l _ _ _ h.link1, h.ch0.lay l, h.ch1.lay l, h.apart⟩
/-- All blocks lie as they lay, but those of type T. -/
def AsLayT (T : TypeId) (w w' : World) : Prop := ∀ b cs t, t ≠ T → Blk w b cs t → Blk w' b cs t
theorem AsLayT.set {T : TypeId} {w : World} {b : Nat} {cs : Array Value} (h : Blk w b cs T) (k : Nat) (v : Value) : AsLayT T w (w.setCell ⟨b, k, none⟩ v) := fun b' cs' t ht hb => set_blk h k v hb ht
theorem Has.layT {B : Nat} {T : TypeId} {w w' : World} {cb k : Nat} (h : Has B w cb k) (hb : AsLayT T w w') (h1 : 287 ≠ T) (h2 : 296 ≠ T) : Has B w' cb k := by
  rcases h with ⟨a, c, h⟩ | ⟨g, c, h, ⟨cur, hp, p01⟩, hc1, hBg⟩
  · exact .none a c (hb _ _ _ h1 h)
  · exact .one g c (hb _ _ _ h1 h) ⟨cur, hb _ _ _ h2 hp, p01⟩ hc1 hBg
theorem ChainAt.layT {T : TypeId} {w w' : World} {i : CI} {q0 q1 : Int} {k0 k1 : Nat} (h : ChainAt w i q0 q1 k0 k1) (hb : AsLayT T w w') (h1 : 181 ≠ T) (h2 : 176 ≠ T) (h3 : 178 ≠ T) (h4 : 244 ≠ T) (h5 : 287 ≠ T) (h6 : 296 ≠ T) : ChainAt w' i q0 q1 k0 k1 :=
  ⟨hb _ _ _ h1 h.chain, hb _ _ _ h2 h.list, hb _ _ _ h3 h.part0, hb _ _ _ h3 h.part1, hb _ _ _ h4 h.st0, hb _ _ _ h4 h.st1, h.has0.layT hb h5 h6, h.has1.layT hb h5 h6, h.nes, h.nec, h.hb⟩
set_option maxHeartbeats 16000000 in
set_option maxRecDepth 100000 in
theorem conn_new (a : Option Addr) (c : Nat) (sd : Int) (w : World) : Calls Tryz.prog 19 #[.slice a 0 c, .int .u64 sd, .int .i64 5, .int .i64 0] w fun e w' => ∃ (cn lk0 lk1 : Nat) (i0 i1 : CI) (s0 s1 : Int), e = .returned (.tuple #[.pointer (some ⟨cn, 0, none⟩), .int .i64 0]) ∧ w.heap.size ≤ cn ∧ w.heap.size ≤ lk0 ∧ i0.Ge w.heap.size ∧ ConnAt w' cn lk0 lk1 i0 i1 s0 s1 0 0 0 0 0 0 ∧ CargoIn w' i0.c0 (.slice none 0 0) ∧ CargoIn w' i0.c1 (.slice none 0 0) ∧ Below w.heap.size w w' := by
  have kw0 : IntKind.i64.wrap 0 = 0 := rfl
  have kt0 : Int.toNat 0 = 0 := rfl
  have kw1 : IntKind.i64.wrap 1 = 1 := rfl
  have kt1 : Int.toNat 1 = 1 := rfl
  have ku0 : IntKind.u64.wrap 0 = 0 := rfl
  have ku1 : IntKind.u64.wrap 1 = 1 := rfl
  have HS := fun n x g w hg => Lib.hid (stream_calls n x g w hg)
  have HL := fun up seed w => Lib.hid (link_new a c up seed w)
  go_enter Tryz.func19, Tryz.ntmps19
  go_wp2_with fail
  refine wp_loop_rounds 3 ?_
  rw [rounds_succ]
  go_wp2_with fail
  refine ((HS sd 0 (w.heap.size + 1) _ ?_).out).mono ?_
  · exact (blk_cell (by
      have := heap_alloc_new (w.alloc (.cells #[.pointer none, .pointer none, .slice none 0 0] 105)) (.cells #[.int .u64 0] 27)
      rwa [World.size_alloc] at this) 0).trans rfl
  rintro e w1 ⟨⟨m1, rfl⟩, hw1⟩
  have hb1 : Below w.heap.size w w1 := by rw [← hw1]; exact below_alloc (below_alloc (Below.refl _ w) _ (Nat.le_refl _)) _ (Nat.le_refl _)
  have hc1 : Blk w1 w.heap.size #[.pointer none, .pointer none, .slice none 0 0] 105 := by rw [← hw1]; exact heap_old _ (heap_alloc_new w _)
  have H1 := Lib.hid (And.intro hb1 hc1)
  clear hb1 hc1 hw1
  go_wp2_with fail
  refine ((HL _ _ _).out).mono ?_
  rintro e w2 ⟨lk0, i0, rfl, hk0, hge0, hl0, hch0, hcn0, hcn1, hb2⟩
  obtain ⟨hb1, hc1⟩ := H1.out
  have hc2 := hc1.lay (AsLay.of_below hb2)
  have z0 := blk_lt hc2
  have fc0 := blk_frozen hc2 0
  have y0 := blk_cell hc2 0
  simp only [List.getElem?_toArray, List.getElem?_cons_zero, List.getElem?_cons_succ] at y0
  obtain ⟨w3, hw3⟩ : ∃ w3, w3 = w2.setCell ⟨w.heap.size, 0, none⟩ (.pointer (some ⟨lk0, 0, none⟩)) := ⟨_, rfl⟩
  have hb3 : Below w.heap.size w w3 := by rw [hw3]; exact (below_step hb1 hb2).setCell (Nat.le_refl _) _
  have hc3 : Blk w3 w.heap.size #[.pointer (some ⟨lk0, 0, none⟩), .pointer none, .slice none 0 0] 105 := by rw [hw3]; exact blk_set hc2 0 _
  have t3 : AsLayT 105 w2 w3 := by rw [hw3]; exact .set hc2 0 _
  have hl3 := t3 _ _ _ (by decide) hl0
  have hch3 := hch0.layT t3 (by decide) (by decide) (by decide) (by decide) (by decide) (by decide)
  have hcn3 : CargoIn w3 i0.c0 (.slice none 0 0) := t3 _ _ _ (by decide) hcn0
  have hcm3 : CargoIn w3 i0.c1 (.slice none 0 0) := t3 _ _ _ (by decide) hcn1
  have HG0 := Lib.hid (And.intro (Nat.le_trans hb1.size hk0) (hge0.mono hb1.size))
  have H3 := Lib.hid (And.intro hb3 (And.intro hc3 (And.intro hl3 (And.intro hch3 (And.intro hcn3 hcm3)))))
  have HW3 := Lib.hid hw3
  clear hk0 hge0 hl0 hch0 hcn0 hcn1 hb2 hb1 hc1 hc2 hb3 hc3 t3 hl3 hch3 hcn3 hcm3 hw3 H1
  go_wp2_with fail
  rw [← HW3.out]
  clear y0 fc0 z0 HW3
  rw [rounds_succ]
  go_wp2_with fail
  refine ((HS sd 1 w3.heap.size _ ?_).out).mono ?_
  · exact (blk_cell (heap_alloc_new w3 _) 0).trans rfl
  rintro e w4 ⟨⟨m2, rfl⟩, hw4⟩
  obtain ⟨hb3, hc3, hl3, hch3, hcn3, hcm3⟩ := H3.out
  have hb34 : Below w3.heap.size w3 w4 := by rw [← hw4]; exact below_alloc (Below.refl _ w3) _ (Nat.le_refl _)
  have l4 := AsLay.of_below hb34
  have H4 := Lib.hid (And.intro (hb3.trans (hb34.mono hb3.size)) (And.intro (hc3.lay l4) (And.intro (hl3.lay l4) (And.intro (hch3.lay l4) (And.intro (hcn3.lay l4) (hcm3.lay l4))))))
  clear hb3 hc3 hl3 hch3 hcn3 hcm3 hb34 l4 hw4 H3
  go_wp2_with fail
  refine ((HL _ _ _).out).mono ?_
  rintro e w5 ⟨lk1, i1, rfl, hk1, hge1, hl1, hch1, _, _, hb45⟩
  obtain ⟨hb4, hc4, hl4, hch4, hcn4, hcm4⟩ := H4.out
  have l5 := AsLay.of_below hb45
  have hap : Apart i0 lk0 i1 lk1 := ⟨w4.heap.size, blk_lt hl4, blk_lt hch4.st0, blk_lt hch4.st1, hch4.has0.lt, hch4.has1.lt, hk1, hge1⟩
  have hc5 := hc4.lay l5
  have y0 := blk_cell hc5 1
  simp only [List.getElem?_toArray, List.getElem?_cons_zero, List.getElem?_cons_succ] at y0
  have fc0 := blk_frozen hc5 1
  have z0 := blk_lt hc5
  obtain ⟨w6, hw6⟩ : ∃ w6, w6 = w5.setCell ⟨w.heap.size, 1, none⟩ (.pointer (some ⟨lk1, 0, none⟩)) := ⟨_, rfl⟩
  have t6 : AsLayT 105 w5 w6 := by rw [hw6]; exact .set hc5 1 _
  have hc6 : Blk w6 w.heap.size (connC lk0 lk1) 105 := by rw [hw6]; exact blk_set hc5 1 _
  have hb6 : Below w.heap.size w w6 := by rw [hw6]; exact (hb4.trans (hb45.mono hb4.size)).setCell (Nat.le_refl _) _
  have H6 : ConnAt w6 w.heap.size lk0 lk1 i0 i1 m1 m2 0 0 0 0 0 0 := ⟨hc6, t6 _ _ _ (by decide) (hl4.lay l5), t6 _ _ _ (by decide) hl1, (hch4.lay l5).layT t6 (by decide) (by decide) (by decide) (by decide) (by decide) (by decide), hch1.layT t6 (by decide) (by decide) (by decide) (by decide) (by decide) (by decide), hap⟩
  have H6 := Lib.hid (And.intro H6 (And.intro (show CargoIn w6 i0.c0 (.slice none 0 0) from t6 _ _ _ (by decide) (hcn4.lay l5)) (And.intro (show CargoIn w6 i0.c1 (.slice none 0 0) from t6 _ _ _ (by decide) (hcm4.lay l5)) hb6)))
  have HW6 := Lib.hid hw6
  clear hk1 hge1 hl1 hch1 hb45 hb4 hc4 hl4 hch4 hcn4 hcm4 l5 hap hc5 t6 hc6 hb6 hw6 H4
  go_wp2_with fail
  rw [← HW6.out]
  clear y0 fc0 z0 HW6
  rw [rounds_succ]
  go_wp2_with fail
  refine wp_loop_rounds 1 ?_
  rw [rounds_succ]
  go_wp2_with fail
  refine bodyPost_ret (results_tmp2 rfl _ _ _) rfl ?_
  exact ⟨w.heap.size, lk0, lk1, i0, i1, m1, m2, rfl, Nat.le_refl _, HG0.out.1, HG0.out.2, H6.out⟩
end Go.Proofs.YtdpfmemcpipbkaaGreatDoor.Hand
end
section
/- conn.Send. -/
namespace Go.Proofs.YtdpfmemcpipbkaaGreatDoor.Hand
open Go.RowKit
set_option linter.unusedVariables false
set_option linter.unusedSimpArgs false
theorem YS.low {i0 i1 : CI} {lk0 lk1 : Nat} (ha : Apart i0 lk0 i1 lk1) : ∃ m, m ≤ lk1 ∧ i1.Ge m ∧ ∀ (w : World) (b : Nat), YS i0 lk0 w b → b < m ∨ isP i0.B w b := by
  obtain ⟨m, h1, h2, h3, h4, h5, h6, h7⟩ := ha
  refine ⟨m, h6, h7, fun w b h => ?_⟩
  rcases h with rfl | rfl | rfl | rfl | rfl | h
  · exact .inl h1
  · exact .inl h3
  · exact .inl h4
  · exact .inl h2
  · exact .inl h5
  · exact .inr h
/-- The first link turned. -/
theorem ConnAt.step {w w' : World} {cn lk0 lk1 : Nat} {i0 i1 : CI} {s0 s1 sent got sent' got' q0 q1 r0 r1 : Int} {k0 k1 m0 m1 : Nat} (h : ConnAt w cn lk0 lk1 i0 i1 s0 s1 sent got q0 q1 k0 k1) (hf : Fr (YS i0 lk0 w) w w') (hl : Blk w' lk0 (linkC i0.h true s0 sent' got') 145) (hc : ChainAt w' i0 r0 r1 m0 m1) : ConnAt w' cn lk0 lk1 i0 i1 s0 s1 sent' got' r0 r1 m0 m1 := by
  obtain ⟨m, h6, h7, hlow⟩ := YS.low h.apart
  have no : ∀ {b : Nat} {cs : Array Value} {t : TypeId}, Blk w b cs t → t ≠ 296 → m ≤ b → ¬ YS i0 lk0 w b := fun hb ht hm hy => by
    rcases hlow _ _ hy with e | e
    · omega
    · exact isP.not hb ht e
  obtain ⟨u0, hu0⟩ := h.ch1.has0.cargo
  obtain ⟨u1, hu1⟩ := h.ch1.has1.cargo
  have c := h.ch1
  exact ⟨h.conn.fr hf (YS.not h.conn h.link0 h.ch0 (by decide) (by decide) (by decide) (by decide)), hl, h.link1.fr hf (no h.link1 (by decide) h6), hc,
    ⟨c.chain.fr hf (no c.chain (by decide) h7.h), c.list.fr hf (no c.list (by decide) h7.la), c.part0.fr hf (no c.part0 (by decide) h7.p0), c.part1.fr hf (no c.part1 (by decide) h7.p1), Blk.fr c.st0 hf (no c.st0 (by decide) h7.s0), Blk.fr c.st1 hf (no c.st1 (by decide) h7.s1), c.has0.fr0 hf (no hu0 (by decide) h7.c0), c.has1.fr0 hf (no hu1 (by decide) h7.c1), c.nes, c.nec, c.hb⟩, h.apart⟩
set_option maxHeartbeats 8000000 in
set_option maxRecDepth 100000 in
theorem conn_send (cn lk0 lk1 : Nat) (i0 i1 : CI) (s0 s1 : Int) (g o c : Nat) (hc1 : 1 ≤ c) (w : World) (h : ConnAt w cn lk0 lk1 i0 i1 s0 s1 0 0 0 0 0 0) (hc : CargoIn w i0.c0 (.slice none 0 0)) (hd : CargoIn w i0.c1 (.slice none 0 0)) (hb : ByteIn w g o) (hg : g < w.heap.size) : Calls Tryz.prog 21 #[.pointer (some ⟨cn, 0, none⟩), .int .i64 0, .int .i64 0, .slice (some ⟨g, o, none⟩) 1 c] w fun e w' => e = .returned (.int .i64 1) ∧ ConnAt w' cn lk0 lk1 i0 i1 s0 s1 1 0 0 0 1 0 ∧ CargoIn w' i0.c1 (.slice none 0 0) ∧ Fr (YS i0 lk0 w) w w' := by
  have kw0 : IntKind.i64.wrap 0 = 0 := rfl
  have kt0 : Int.toNat 0 = 0 := rfl
  have a0 := blk_cell h.conn 0
  simp only [connC, List.getElem?_toArray, List.getElem?_cons_zero, List.getElem?_cons_succ] at a0
  have HP := Lib.hid (link_send lk0 i0 true s0 g o c hc1 w h.link0 h.ch0 hc hb hg)
  have H := Lib.hid (And.intro h hd)
  clear h hc hd hb
  go_enter Tryz.func21, Tryz.ntmps21
  go_wp2_with fail
  refine (is_0 _).mono ?_
  rintro e w1 ⟨rfl, rfl⟩
  go_wp2_with fail
  refine HP.out.mono ?_
  rintro e w2 ⟨rfl, hl2, hch2, hf2⟩
  have H2 := Lib.hid (And.intro hl2 (And.intro hch2 hf2))
  clear hl2 hch2 hf2
  go_wp2_with fail
  go_ret
  obtain ⟨hl2, hch2, hf2⟩ := H2.out
  obtain ⟨h, hd⟩ := H.out
  have hfy : Fr (YS i0 lk0 w) w w2 := hf2.mono (fun b _ e => e.elim (fun e => .inr (.inr (.inl e))) .inl)
  refine ⟨rfl, h.step hfy hl2 hch2, Blk.fr hd hf2 ?_, hfy⟩
  rintro (e | e)
  · exact h.ch0.nec e.symm
  · exact Blk.ne hd h.link0 (by decide) e
end Go.Proofs.YtdpfmemcpipbkaaGreatDoor.Hand
end
section
/- A step of either way's link, as conn.Step reads it. -/
namespace Go.Proofs.YtdpfmemcpipbkaaGreatDoor.Hand
open Go.RowKit
set_option linter.unusedVariables false
set_option linter.unusedSimpArgs false
theorem conv_nil (w : World) : (convert 48 9 (.slice none 0 0)).run Tryz.prog w = .ok (.string ⟨#[]⟩) w := by kernel_rfl
/-- A connection whose byte is on its way (false), or went out (true). -/
def SC (cn lk0 lk1 : Nat) (i0 i1 : CI) (s0 s1 : Int) (w : World) : Bool → Prop
  | false => ConnAt w cn lk0 lk1 i0 i1 s0 s1 1 0 0 0 1 0 ∧ CargoIn w i0.c1 (.slice none 0 0)
  | true => ConnAt w cn lk0 lk1 i0 i1 s0 s1 1 1 1 1 0 0
theorem SC.lay {cn lk0 lk1 : Nat} {i0 i1 : CI} {s0 s1 : Int} {w w' : World} : {b : Bool} → (h : SC cn lk0 lk1 i0 i1 s0 s1 w b) → (l : AsLay w w') → SC cn lk0 lk1 i0 i1 s0 s1 w' b
  | false, h, l => ⟨h.1.lay l, h.2.lay l⟩
  | true, h, l => ConnAt.lay h l
def lkOf (lk0 lk1 : Nat) : Bool → Nat
  | false => lk0
  | true => lk1
/-- What a link's step tells: bytes that are the string s. -/
def Told1 (u : Value) (s : ByteArray) (w' : World) : Prop := (convert 48 9 u).run Tryz.prog w' = .ok (.string s) w'
theorem way_step (cn lk0 lk1 : Nat) (i0 i1 : CI) (s0 s1 : Int) (x b : Bool) (w : World) (h : SC cn lk0 lk1 i0 i1 s0 s1 w b) : Calls Tryz.prog 38 #[.pointer (some ⟨lkOf lk0 lk1 x, 0, none⟩), .int .i64 0, .int .i64 1] w fun e w' => ∃ u s b', e = .returned (.tuple #[u, .int .i64 0]) ∧ Told1 u s w' ∧ (x = false → b = false → s = xB) ∧ (x = true → s = ⟨#[]⟩) ∧ (b = true → b' = true) ∧ (x = false → b' = true) ∧ SC cn lk0 lk1 i0 i1 s0 s1 w' b' ∧ Fr (YS i0 lk0 w) w w' := by
  have quiet : ∀ {w' : World} (hb : Below w.heap.size w w'), SC cn lk0 lk1 i0 i1 s0 s1 w' b ∧ Fr (YS i0 lk0 w) w w' := fun hb => ⟨h.lay (AsLay.of_below hb), Fr.of_below hb⟩
  rcases x with _ | _
  · rcases b with _ | _
    · refine (link_step1 lk0 i0 true s0 w h.1.link0 h.1.ch0 h.2).mono ?_
      rintro e w' ⟨g, c, rfl, hg, hg', hby, hl, hc, hf⟩
      exact ⟨_, xB, true, rfl, conv_x w' g 0 c hby, fun _ _ => rfl, (fun e => by cases e), (fun _ => rfl), fun _ => rfl, h.1.step hf hl hc, hf⟩
    · have h' : ConnAt w cn lk0 lk1 i0 i1 s0 s1 1 1 1 1 0 0 := h
      refine (link_step0 lk0 i0 true s0 1 1 (by omega) (by omega) 1 1 (by omega) (by omega) (by omega) (by omega) w h'.link0 h'.ch0).mono ?_
      rintro e w' ⟨rfl, hb⟩
      exact ⟨_, _, true, rfl, conv_nil w', (fun _ e => by cases e), (fun e => by cases e), (fun _ => rfl), (fun _ => rfl), quiet hb⟩
  · have hl : Blk w lk1 (linkC i1.h false s1 0 0) 145 ∧ ChainAt w i1 0 0 0 0 := by
      rcases b with _ | _
      · exact ⟨h.1.link1, h.1.ch1⟩
      · exact ⟨ConnAt.link1 h, ConnAt.ch1 h⟩
    refine (link_step0 lk1 i1 false s1 0 0 (by omega) (by omega) 0 0 (by omega) (by omega) (by omega) (by omega) w hl.1 hl.2).mono ?_
    rintro e w' ⟨rfl, hb⟩
    exact ⟨_, _, b, rfl, conv_nil w', (fun e => by cases e), (fun _ => rfl), id, (fun e => by cases e), quiet hb⟩
end Go.Proofs.YtdpfmemcpipbkaaGreatDoor.Hand
end
section
/- conn.Step: the byte comes out of the first way. -/
namespace Go.Proofs.YtdpfmemcpipbkaaGreatDoor.Hand
open Go.RowKit
set_option linter.unusedVariables false
set_option linter.unusedSimpArgs false
attribute [local go_sem] Oper.semAt_some
def outC (s : ByteArray) : Array Value := #[.string s, .int .i64 0, .string ⟨#[]⟩, .int .i64 0]
theorem SC.no {cn lk0 lk1 : Nat} {i0 i1 : CI} {s0 s1 : Int} {w : World} {b : Bool} {r : Nat} {cs : Array Value} {t : TypeId} (h : SC cn lk0 lk1 i0 i1 s0 s1 w b) (hb : Blk w r cs t) (h0 : t ≠ 145) (h1 : t ≠ 287) (h2 : t ≠ 244) (h3 : t ≠ 296) : ¬ YS i0 lk0 w r := by
  rcases b with _ | _
  · exact YS.not hb h.1.link0 h.1.ch0 h0 h1 h2 h3
  · exact YS.not hb (ConnAt.link0 h) (ConnAt.ch0 h) h0 h1 h2 h3
theorem SC.ofStage {cn lk0 lk1 : Nat} {i0 i1 : CI} {s0 s1 : Int} {w : World} {b : Bool} {r : Nat} (h : SC cn lk0 lk1 i0 i1 s0 s1 w b) (hy : YS i0 lk0 w r) : ∃ cs t, Blk w r cs t := by
  obtain ⟨hl, q0, q1, k0, k1, hc⟩ : (∃ ls, Blk w lk0 ls 145) ∧ ∃ q0 q1 k0 k1, ChainAt w i0 q0 q1 k0 k1 := by
    rcases b with _ | _
    · exact ⟨⟨_, h.1.link0⟩, _, _, _, _, h.1.ch0⟩
    · exact ⟨⟨_, ConnAt.link0 h⟩, _, _, _, _, ConnAt.ch0 h⟩
  rcases hy with rfl | rfl | hx
  · exact ⟨_, _, hl.choose_spec⟩
  · exact ⟨_, _, hc.st1⟩
  · obtain ⟨cs, t, hb, _⟩ := hx.ofStage hc
    exact ⟨cs, t, hb⟩
theorem YS.back {i : CI} {lk : Nat} {X : Nat → Prop} {w w' : World} {b : Nat} (h : YS i lk w' b) (hf : Fr X w w') (hb : b < w.heap.size) (hx : ¬ X b) : YS i lk w b :=
  h.imp id (fun h => h.imp id (fun h => h.mono (fun p => p.back hf hb hx)))
theorem KeepsFrom.of_cells {X : Nat → Prop} {B : Nat} {W W' : World} (hf : Fr X W W') (hX : ∀ b, X b → ∃ cs t, Blk W b cs t) : KeepsFrom B W W' :=
  ⟨hf.size, fun k o _ hk ho => (hf.block k (blk_lt hk) (fun hx => by
    obtain ⟨cs, t, hb⟩ := hX k hx
    unfold Blk at hb
    rw [hb] at hk
    injection hk with h1
    subst h1
    exact absurd ho (by simp [Obj.isCells]))).trans hk⟩
def IC (cn lk0 lk1 ob : Nat) (i0 i1 : CI) (s0 s1 : Int) (w2 : World) (pre : List Bool) (W : World) : Prop :=
  ∃ s b, Blk W ob (outC s) 86 ∧ ((pre = [false] ∨ pre = [false, true]) → s = xB) ∧ (pre = [] → b = false) ∧ SC cn lk0 lk1 i0 i1 s0 s1 W b ∧ Fr (fun r => r = ob ∨ YS i0 lk0 w2 r) w2 W
theorem IC.lay {cn lk0 lk1 ob : Nat} {i0 i1 : CI} {s0 s1 : Int} {w2 W W' : World} {pre : List Bool} (h : IC cn lk0 lk1 ob i0 i1 s0 s1 w2 pre W) (l : AsLay W W') (hf : Fr (fun r => r = ob ∨ YS i0 lk0 w2 r) w2 W → Fr (fun r => r = ob ∨ YS i0 lk0 w2 r) w2 W') : IC cn lk0 lk1 ob i0 i1 s0 s1 w2 pre W' := by
  obtain ⟨s, b, h1, h2, h3, h4, h5⟩ := h
  exact ⟨s, b, h1.lay l, h2, h3, h4.lay l, hf h5⟩
theorem IC.own (cn lk0 lk1 ob : Nat) (i0 i1 : CI) (s0 s1 : Int) (w2 : World) : OwnFrom w2.heap.size (IC cn lk0 lk1 ob i0 i1 s0 s1 w2) := fun pre A B row h hg hr =>
  h.lay (AsLay.of_grown hg (fun r e => (hr r e).2)) (fun f => f.grown hg (fun r e => (hr r e).1))
theorem ConnAt.layT {T : TypeId} {w w' : World} {cn lk0 lk1 : Nat} {i0 i1 : CI} {s0 s1 sent got q0 q1 : Int} {k0 k1 : Nat} (h : ConnAt w cn lk0 lk1 i0 i1 s0 s1 sent got q0 q1 k0 k1) (l : AsLayT T w w') (h0 : 105 ≠ T) (hl : 145 ≠ T) (h1 : 181 ≠ T) (h2 : 176 ≠ T) (h3 : 178 ≠ T) (h4 : 244 ≠ T) (h5 : 287 ≠ T) (h6 : 296 ≠ T) : ConnAt w' cn lk0 lk1 i0 i1 s0 s1 sent got q0 q1 k0 k1 :=
  ⟨l _ _ _ h0 h.conn, l _ _ _ hl h.link0, l _ _ _ hl h.link1, h.ch0.layT l h1 h2 h3 h4 h5 h6, h.ch1.layT l h1 h2 h3 h4 h5 h6, h.apart⟩
theorem SC.layO {cn lk0 lk1 : Nat} {i0 i1 : CI} {s0 s1 : Int} {w w' : World} {b : Bool} (h : SC cn lk0 lk1 i0 i1 s0 s1 w b) (l : AsLayT 86 w w') : SC cn lk0 lk1 i0 i1 s0 s1 w' b := by
  rcases b with _ | _
  · exact ⟨h.1.layT l (by decide) (by decide) (by decide) (by decide) (by decide) (by decide) (by decide) (by decide), l _ _ _ (by decide) h.2⟩
  · exact ConnAt.layT h l (by decide) (by decide) (by decide) (by decide) (by decide) (by decide) (by decide) (by decide)
theorem AsLayT.trans {T : TypeId} {a b c : World} (h : AsLayT T a b) (k : AsLayT T b c) : AsLayT T a c := fun x cs t ht hx => k x cs t ht (h x cs t ht hx)
theorem IC.next {cn lk0 lk1 ob : Nat} {i0 i1 : CI} {s0 s1 : Int} {w2 W w3 W' : World} {pre : List Bool} {x : Bool} {s s' : ByteArray} {b b3 : Bool} (bo : Blk W ob (outC s) 86) (hF : Fr (fun r => r = ob ∨ YS i0 lk0 w2 r) w2 W) (hS : SC cn lk0 lk1 i0 i1 s0 s1 W b) (hS3 : SC cn lk0 lk1 i0 i1 s0 s1 w3 b3) (hf3 : Fr (YS i0 lk0 W) W w3) (ht : AsLayT 86 w3 W') (hfs : Fr (fun r => r = ob) w3 W') (bo' : Blk W' ob (outC s') 86) (hs' : (pre ++ [x] = [false] ∨ pre ++ [x] = [false, true]) → s' = xB) : KeepsFrom w2.heap.size W W' ∧ True ∧ IC cn lk0 lk1 ob i0 i1 s0 s1 w2 (pre ++ [x]) W' := by
  have hfW : Fr (fun r => r = ob ∨ YS i0 lk0 W r) W W' := hf3.trans hfs (fun _ e => .inr e) (fun _ _ e => .inl e)
  refine ⟨KeepsFrom.of_cells hfW ?_, trivial, s', b3, bo', hs', (fun e => by simp at e), hS3.layO ht, hF.trans hfW (fun _ e => e) ?_⟩
  · rintro r (rfl | e)
    · exact ⟨_, _, bo⟩
    · exact hS.ofStage e
  · rintro r hr (rfl | e)
    · exact .inl rfl
    · by_cases hx : r = ob ∨ YS i0 lk0 w2 r
      · exact hx
      · exact .inr (e.back hF hr hx)
set_option maxHeartbeats 16000000 in
set_option maxRecDepth 100000 in
theorem conn_step (cn lk0 lk1 : Nat) (i0 i1 : CI) (s0 s1 : Int) (w : World) (h : ConnAt w cn lk0 lk1 i0 i1 s0 s1 1 0 0 0 1 0) (hd : CargoIn w i0.c1 (.slice none 0 0)) : Calls Tryz.prog 22 #[.pointer (some ⟨cn, 0, none⟩), .int .i64 0, .agg #[.int .i64 1, .int .i64 1]] w fun e w' => e = .returned (.agg (outC xB)) ∧ Blk w' cn (connC lk0 lk1) 105 ∧ (∃ got, Blk w' lk0 (linkC i0.h true s0 1 got) 145) ∧ Blk w' lk1 (linkC i1.h false s1 0 0) 145 ∧ Fr (YS i0 lk0 w) w w' := by
  obtain ⟨wq, hwq⟩ : ∃ wq, wq = (((w.alloc (.cells #[.int .i64 0] 3)).alloc (.cells #[.int .i64 1, .int .i64 1] 51)).alloc (.cells (outC ⟨#[]⟩) 86)).alloc (.cells (outC ⟨#[]⟩) 86) := ⟨_, rfl⟩
  have hbq : Below w.heap.size w wq := by rw [hwq]; exact below_alloc (below_alloc (below_alloc (below_alloc (Below.refl _ w) _ (Nat.le_refl _)) _ (Nat.le_refl _)) _ (Nat.le_refl _)) _ (Nat.le_refl _)
  have q0 : Blk wq w.heap.size #[.int .i64 0] 3 := by rw [hwq]; exact heap_old _ (heap_old _ (heap_old _ (heap_alloc_new w _)))
  have q1 : Blk wq (w.heap.size + 1) #[.int .i64 1, .int .i64 1] 51 := by
    rw [hwq]
    have := heap_alloc_new (w.alloc (.cells #[.int .i64 0] 3)) (.cells #[.int .i64 1, .int .i64 1] 51)
    rw [World.size_alloc] at this
    exact heap_old _ (heap_old _ this)
  have q2 : Blk wq (w.heap.size + 1 + 1) (outC ⟨#[]⟩) 86 := by
    rw [hwq]
    have := heap_alloc_new ((w.alloc (.cells #[.int .i64 0] 3)).alloc (.cells #[.int .i64 1, .int .i64 1] 51)) (.cells (outC ⟨#[]⟩) 86)
    rw [World.size_alloc, World.size_alloc] at this
    exact heap_old _ this
  have q3 : Blk wq (w.heap.size + 1 + 1 + 1) (outC ⟨#[]⟩) 86 := by
    rw [hwq]
    have := heap_alloc_new (((w.alloc (.cells #[.int .i64 0] 3)).alloc (.cells #[.int .i64 1, .int .i64 1] 51)).alloc (.cells (outC ⟨#[]⟩) 86)) (.cells (outC ⟨#[]⟩) 86)
    rw [World.size_alloc, World.size_alloc, World.size_alloc] at this
    exact this
  unfold outC at hwq
  have H := Lib.hid (And.intro hbq (And.intro q0 (And.intro q1 (And.intro q2 (And.intro q3 (And.intro h hd))))))
  have HWQ := Lib.hid hwq
  clear hbq q0 q1 q2 q3 h hd hwq
  refine (callsIn_wide (n := 6)).1 ?_
  refine callsIn_of_wp_marks Tryz.func22 rfl trivial ?_ rfl
  refine wpIn_wide.2 ?_
  simp only [Tryz.ntmps22, List.size_toArray, List.length_cons, List.length_nil, Nat.reduceAdd, Nat.reduceSub, Array.replicate_succ, Array.replicate_zero, List.push_toArray, List.append_toArray, List.nil_append, List.cons_append]
  go_wp2_with fail
  rw [← HWQ.out]
  clear HWQ
  refine (each_calls cn wq).mono ?_
  rintro e w2 ⟨rfl, hw2⟩
  have hb2 : Below wq.heap.size wq w2 := by rw [hw2]; exact below_alloc (Below.refl _ wq) _ (Nat.le_refl _)
  have bx : Blk w2 wq.heap.size #[.pointer (some ⟨cn, 0, none⟩)] 76 := by rw [hw2]; exact heap_alloc_new wq _
  obtain ⟨hbq, q0, q1, q2, q3, h, hd⟩ := H.out
  have l2 := AsLay.of_below hb2
  have lq := (AsLay.of_below hbq).trans l2
  have H2 := Lib.hid (And.intro (below_step hbq hb2) (And.intro (q0.lay l2) (And.intro (q1.lay l2) (And.intro (q2.lay l2) (And.intro (q3.lay l2) (And.intro (h.lay lq) (And.intro (hd.lay lq) bx)))))))
  clear hw2 hb2 hbq q0 q1 q2 q3 h hd l2 lq bx H
  go_wp2_with fail
  obtain ⟨hb2, q0, q1, q2, q3, h2, hd2, bx⟩ := H2.out
  have HS2 : SC cn lk0 lk1 i0 i1 s0 s1 w2 false := ⟨h2, hd2⟩
  refine (wpIn_wide (n := 6)).1 ?_
  refine wpIn_rangeFunc_ownH (α := Bool) rfl (by omega) (gf := 69) (lb := #[.pointer (some ⟨wq.heap.size, 0, none⟩)]) rfl trivial (enters_of Tryz.func69 (by kernel_rfl) rfl)
    (encs := wayA lk0 lk1) (Kp := fun _ _ => True) (S := fun ys => ys = [false, true]) (Sp := fun pre => pre = [false] ∨ pre = [false, true]) (N := 2) (w0 := w2)
    (fun l J Jx W hW hJ _ hY h0 => each1 (6 - 1) (by omega) cn lk0 lk1 wq.heap.size l J Jx W (bx.lay (AsLay.of_below hW)) (h2.conn.lay (AsLay.of_below hW)) hY h0)
    (fun _ _ => trivial) (fun _ _ _ _ _ _ _ _ => trivial) (Below.refl _ _) (fun x => by cases x <;> rfl)
    (fun pre W => IC cn lk0 lk1 (w.heap.size + 1 + 1 + 1) i0 i1 s0 s1 w2 pre W) (fun _ _ _ => False)
    (IC.own _ _ _ _ _ _ _ _ _) (fun _ _ _ _ _ hs _ _ => hs) ⟨⟨#[]⟩, false, q3, (fun e => by rcases e with e | e <;> cases e), (fun _ => rfl), HS2, Fr.refl _ _⟩
    (fun x a' W => a' = match x with | false => { tmps := #[.pointer (some ⟨cn, 0, none⟩), .int .i64 0, .agg #[.int .i64 1, .int .i64 1], undef, .pointer (some ⟨w.heap.size, 0, none⟩), .pointer (some ⟨w.heap.size + 1, 0, none⟩), .pointer (some ⟨w.heap.size + 1 + 1, 0, none⟩), .pointer (some ⟨w.heap.size + 1 + 1 + 1, 0, none⟩), .int .i64 0, .pointer (some ⟨lk0, 0, none⟩), undef, undef, undef, undef, undef, undef, undef, .pointer (some ⟨cn, 0, none⟩), .func (.func 69) #[] #[.pointer (some ⟨wq.heap.size, 0, none⟩)], .int .i64 0, .pointer (some ⟨lk0, 0, none⟩), undef, undef, undef, undef, undef, undef, undef, undef, undef, undef, undef, undef, undef, undef, undef, undef, undef, undef, undef, undef, undef, undef, undef, undef, undef, undef, undef, undef, undef, undef, undef, undef, undef, undef, undef, undef, undef, undef, undef, undef, undef, undef, undef, undef, undef, undef, undef, undef, undef], defers := [] } | true => { tmps := #[.pointer (some ⟨cn, 0, none⟩), .int .i64 0, .agg #[.int .i64 1, .int .i64 1], undef, .pointer (some ⟨w.heap.size, 0, none⟩), .pointer (some ⟨w.heap.size + 1, 0, none⟩), .pointer (some ⟨w.heap.size + 1 + 1, 0, none⟩), .pointer (some ⟨w.heap.size + 1 + 1 + 1, 0, none⟩), .int .i64 1, .pointer (some ⟨lk1, 0, none⟩), undef, undef, undef, undef, undef, undef, undef, .pointer (some ⟨cn, 0, none⟩), .func (.func 69) #[] #[.pointer (some ⟨wq.heap.size, 0, none⟩)], .int .i64 1, .pointer (some ⟨lk1, 0, none⟩), undef, undef, undef, undef, undef, undef, undef, undef, undef, undef, undef, undef, undef, undef, undef, undef, undef, undef, undef, undef, undef, undef, undef, undef, undef, undef, undef, undef, undef, undef, undef, undef, undef, undef, undef, undef, undef, undef, undef, undef, undef, undef, undef, undef, undef, undef, undef, undef, undef], defers := [] })
    (fun x a' => fun _ A B row hs hg hr => hs) ?assign ?body ?done ?stop
  case assign =>
    intro l pre x W K hi hK
    rcases x with _ | _
    · unfold wayA
      gi_wp2
      exact hK _ _ (KeepsFrom.refl _ _) trivial hi rfl
    · unfold wayA
      gi_wp2
      exact hK _ _ (KeepsFrom.refl _ _) trivial hi rfl
  case stop =>
    rintro D c pre W _ _ h _
    exact h.elim
  case body =>
    rintro l pre x a' W hl _ hI ha hlen
    obtain ⟨s, b, bo, hs, hb, hS, hF⟩ := hI
    have nob : ∀ {r : Nat} {cs : Array Value} {t : TypeId}, Blk w2 r cs t → t ≠ 86 → t ≠ 145 → t ≠ 287 → t ≠ 244 → t ≠ 296 → Blk W r cs t := fun hr h0 h1 h2 h3 h4 => hr.fr hF (by
      rintro (e | e)
      · exact Blk.ne hr q3 h0 e
      · exact SC.no HS2 hr h1 h2 h3 h4 e)
    have n0 := nob q0 (by decide) (by decide) (by decide) (by decide) (by decide)
    have n1 := nob q1 (by decide) (by decide) (by decide) (by decide) (by decide)
    have kw0 : IntKind.i64.wrap 0 = 0 := rfl
    have kt0 : Int.toNat 0 = 0 := rfl
    have kw1 : IntKind.i64.wrap 1 = 1 := rfl
    have kt1 : Int.toNat 1 = 1 := rfl
    have c0 := blk_cell n0 0
    simp only [List.getElem?_toArray, List.getElem?_cons_zero, List.getElem?_cons_succ] at c0
    have HB := Lib.hid (And.intro n0 (And.intro n1 bo))
    have HI := Lib.hid (And.intro hs (And.intro hb hF))
    have HW := Lib.hid (And.intro (way_step cn lk0 lk1 i0 i1 s0 s1 x b W.drew (hS.lay (AsLay.of_below ((Below.refl _ W).drew)))) hS)
    have c1 := fun k => blk_cell n1 k
    clear nob n0 n1 bo hs hb hS hF
    rcases x with _ | _
    · replace c1 := c1 0
      simp only [List.getElem?_toArray, List.getElem?_cons_zero, List.getElem?_cons_succ] at c1
      subst ha
      gi_wp2
      refine start_round (S := fun W => W.cell? ⟨w.heap.size, 0, none⟩ = some (.int .i64 0) ∧ W.cell? ⟨w.heap.size + 1, 0, none⟩ = some (.int .i64 1)) l 4 11 #[false, false, false, false, false, false, false, false, false, false, false] (by kernel_rfl) (by kernel_rfl) ?_ rfl rfl ?_ (fun hHeld => ?_)
      · rintro ⟨_, _, h⟩
        exact h
      · (try dsimp only)
        exact ⟨c0, c1⟩
      refine take_n 0 (some 22) #[true, false, false, false, false, false, false, false, false, false, false] (v := ?_) (a' := ?_) rfl rfl rfl (by kernel_rfl) (by kernel_rfl) (by kernel_rfl) (fun _ _ _ _ h => h) (Or.inl ⟨by rfl, ?_⟩) hHeld ?_ ?_
      rotate_left 2
      · intro w hSw
        (try dsimp only at hSw)
        go_simp
        all_goals (with_reducible rfl)
      · simp only [Act.put, List.setIfInBounds_toArray, List.set_cons_zero, List.set_cons_succ]
        rfl
      refine take_n 1 (some 23) #[true, true, false, false, false, false, false, false, false, false, false] (v := ?_) (a' := ?_) rfl rfl rfl (by kernel_rfl) (by kernel_rfl) (by kernel_rfl) (fun _ _ _ _ h => h) (Or.inl ⟨by rfl, ?_⟩) hHeld ?_ ?_
      rotate_left 2
      · intro w hSw
        (try dsimp only at hSw)
        go_simp
        all_goals (with_reducible rfl)
      · simp only [Act.put, List.setIfInBounds_toArray, List.set_cons_zero, List.set_cons_succ]
        rfl
      refine take_n 2 (some 24) #[true, true, true, false, false, false, false, false, false, false, false] (v := ?_) (a' := ?_) rfl rfl rfl (by kernel_rfl) (by kernel_rfl) (by kernel_rfl) (fun _ _ _ _ h => h) (Or.inl ⟨by rfl, ?_⟩) hHeld ?_ ?_
      rotate_left 2
      · intro w hSw
        (try dsimp only at hSw)
        go_simp
        all_goals (with_reducible rfl)
      · simp only [Act.put, List.setIfInBounds_toArray, List.set_cons_zero, List.set_cons_succ]
        rfl
      refine take_n 3 (some 25) #[true, true, true, true, false, false, false, false, false, false, false] (v := ?_) (a' := ?_) rfl rfl rfl (by kernel_rfl) (by kernel_rfl) (by kernel_rfl) (fun _ _ _ _ h => h) (Or.inl ⟨by rfl, ?_⟩) hHeld ?_ ?_
      rotate_left 2
      · intro w hSw
        (try dsimp only at hSw)
        go_simp
        all_goals (with_reducible rfl)
      · simp only [Act.put, List.setIfInBounds_toArray, List.set_cons_zero, List.set_cons_succ]
        rfl
      refine take_n 4 (some 26) #[true, true, true, true, true, false, false, false, false, false, false] (v := ?_) (a' := ?_) rfl rfl rfl (by kernel_rfl) (by kernel_rfl) (by kernel_rfl) (fun _ _ _ _ h => h) (Or.inl ⟨by rfl, ?_⟩) hHeld ?_ ?_
      rotate_left 2
      · intro w hSw
        (try dsimp only at hSw)
        go_simp
        all_goals (with_reducible rfl)
      · simp only [Act.put, List.setIfInBounds_toArray, List.set_cons_zero, List.set_cons_succ]
        rfl
      refine one_n 5 #[true, true, true, true, true, true, false, false, false, false, false] rfl rfl (by kernel_rfl) (fun K hK => ?_)
      go_simp
      refine (HW.out.1).mono ?_
      rintro e w3 ⟨u, s3, b3, rfl, ht3, hx3, hy3, hz3, hv3, hS3, hf3⟩
      have hf3 : Fr (YS i0 lk0 W) W w3 := ⟨hf3.os, hf3.tape, hf3.output, hf3.size, hf3.block⟩
      have k0 := (HB.out.1.fr hf3 (SC.no HW.out.2 HB.out.1 (by decide) (by decide) (by decide) (by decide)))
      have k1 := (HB.out.2.1.fr hf3 (SC.no HW.out.2 HB.out.2.1 (by decide) (by decide) (by decide) (by decide)))
      have k2 := (HB.out.2.2.fr hf3 (SC.no HW.out.2 HB.out.2.2 (by decide) (by decide) (by decide) (by decide)))
      have H3 := Lib.hid (And.intro k0 (And.intro k1 (And.intro k2 (And.intro ht3 (And.intro hx3 (And.intro hy3 (And.intro hz3 (And.intro hv3 (And.intro hS3 hf3)))))))))
      clear k0 k1 k2 ht3 hx3 hy3 hz3 hv3 hS3 hf3
      refine hK.out _ ?_ _ ?_ ?_ (fun hHeld => ?_)
      rotate_left
      · (try simp only [Act.put, List.setIfInBounds_toArray, List.set_cons_zero, List.set_cons_succ])
        rfl
      · (try dsimp only)
        exact ⟨blk_cell H3.out.1 0, blk_cell H3.out.2.1 0⟩
      clear hK K
      refine take_n 6 (some 21) #[true, true, true, true, true, true, true, false, false, false, false] (v := ?_) (a' := ?_) rfl rfl rfl (by kernel_rfl) (by kernel_rfl) (by kernel_rfl) (fun _ _ _ _ h => h) (Or.inl ⟨by rfl, ?_⟩) hHeld ?_ ?_
      rotate_left 2
      · intro w hSw
        (try dsimp only at hSw)
        go_simp
        all_goals (with_reducible rfl)
      · simp only [Act.put, List.setIfInBounds_toArray, List.set_cons_zero, List.set_cons_succ]
        rfl
      refine take_n 7 (some 28) #[true, true, true, true, true, true, true, true, false, false, false] (v := ?_) (a' := ?_) rfl rfl rfl (by kernel_rfl) (by kernel_rfl) (by kernel_rfl) (fun _ _ _ _ h => h) (Or.inl ⟨by rfl, ?_⟩) hHeld ?_ ?_
      rotate_left 2
      · intro w hSw
        (try dsimp only at hSw)
        go_simp
        all_goals (with_reducible rfl)
      · simp only [Act.put, List.setIfInBounds_toArray, List.set_cons_zero, List.set_cons_succ]
        rfl
      refine take_n 8 (some 29) #[true, true, true, true, true, true, true, true, true, false, false] (v := ?_) (a' := ?_) rfl rfl rfl (by kernel_rfl) (by kernel_rfl) (by kernel_rfl) (fun _ _ _ _ h => h) (Or.inl ⟨by rfl, ?_⟩) hHeld ?_ ?_
      rotate_left 2
      · intro w hSw
        (try dsimp only at hSw)
        go_simp
        all_goals (with_reducible rfl)
      · simp only [Act.put, List.setIfInBounds_toArray, List.set_cons_zero, List.set_cons_succ]
        rfl
      refine take_n 9 (some 10) #[true, true, true, true, true, true, true, true, true, true, false] (v := ?_) (a' := ?_) rfl rfl rfl (by kernel_rfl) (by kernel_rfl) (by kernel_rfl) (fun _ _ _ _ h => h) (Or.inl ⟨by rfl, ?_⟩) hHeld ?_ ?_
      rotate_left 2
      · intro w hSw
        (try dsimp only at hSw)
        go_simp
        all_goals (with_reducible rfl)
      · simp only [Act.put, List.setIfInBounds_toArray, List.set_cons_zero, List.set_cons_succ]
        rfl
      refine take_n 10 (some 11) #[true, true, true, true, true, true, true, true, true, true, true] (v := ?_) (a' := ?_) rfl rfl rfl (by kernel_rfl) (by kernel_rfl) (by kernel_rfl) (fun _ _ _ _ h => h) (Or.inl ⟨by rfl, ?_⟩) hHeld ?_ ?_
      rotate_left 2
      · intro w hSw
        (try dsimp only at hSw)
        go_simp
        all_goals (with_reducible rfl)
      · simp only [Act.put, List.setIfInBounds_toArray, List.set_cons_zero, List.set_cons_succ]
        rfl
      refine wpAnyH_done (by kernel_rfl) ?_ _
      clear hHeld
      obtain ⟨k0, k1, k2, ht3, hx3, hy3, hz3, hv3, hS3, hf3⟩ := H3.out
      unfold Told1 at ht3
      unfold outC at k2
      have f0 := blk_frozen k2 0
      have f1 := blk_frozen k2 1
      have zob := blk_lt k2
      have y0 := blk_cell k2 0
      have y1 := blk_cell k2 1
      simp only [List.getElem?_toArray, List.getElem?_cons_zero, List.getElem?_cons_succ] at y0 y1
      clear k0 k1 k2 hx3 hy3 hz3 hv3 hS3 hf3
      gi_wp2
      obtain ⟨k0, k1, k2, ht3, hx3, hy3, hz3, hv3, hS3, hf3⟩ := H3.out
      obtain ⟨hs, hb, hF⟩ := HI.out
      obtain ⟨_, hS⟩ := HW.out
      exact IC.next HB.out.2.2 hF hS hS3 hf3 ((AsLayT.set k2 0 _).trans (AsLayT.set (blk_set k2 0 _) 1 _)) ((set_fr w3 _ _ _).trans (set_fr _ _ _ _) (fun _ e => e) (fun _ _ e => e)) (blk_set (blk_set k2 0 _) 1 _) (by
        rintro (e | e)
        · have hp : pre = [] := by simpa using congrArg List.dropLast e
          exact hx3 trivial (hb hp)
        · have := congrArg List.getLast? e
          simp at this)
    · replace c1 := c1 1
      simp only [List.getElem?_toArray, List.getElem?_cons_zero, List.getElem?_cons_succ] at c1
      subst ha
      gi_wp2
      refine start_round (S := fun W => W.cell? ⟨w.heap.size, 0, none⟩ = some (.int .i64 0) ∧ W.cell? ⟨w.heap.size + 1, 1, none⟩ = some (.int .i64 1)) l 4 11 #[false, false, false, false, false, false, false, false, false, false, false] (by kernel_rfl) (by kernel_rfl) ?_ rfl rfl ?_ (fun hHeld => ?_)
      · rintro ⟨_, _, h⟩
        exact h
      · (try dsimp only)
        exact ⟨c0, c1⟩
      refine take_n 0 (some 22) #[true, false, false, false, false, false, false, false, false, false, false] (v := ?_) (a' := ?_) rfl rfl rfl (by kernel_rfl) (by kernel_rfl) (by kernel_rfl) (fun _ _ _ _ h => h) (Or.inl ⟨by rfl, ?_⟩) hHeld ?_ ?_
      rotate_left 2
      · intro w hSw
        (try dsimp only at hSw)
        go_simp
        all_goals (with_reducible rfl)
      · simp only [Act.put, List.setIfInBounds_toArray, List.set_cons_zero, List.set_cons_succ]
        rfl
      refine take_n 1 (some 23) #[true, true, false, false, false, false, false, false, false, false, false] (v := ?_) (a' := ?_) rfl rfl rfl (by kernel_rfl) (by kernel_rfl) (by kernel_rfl) (fun _ _ _ _ h => h) (Or.inl ⟨by rfl, ?_⟩) hHeld ?_ ?_
      rotate_left 2
      · intro w hSw
        (try dsimp only at hSw)
        go_simp
        all_goals (with_reducible rfl)
      · simp only [Act.put, List.setIfInBounds_toArray, List.set_cons_zero, List.set_cons_succ]
        rfl
      refine take_n 2 (some 24) #[true, true, true, false, false, false, false, false, false, false, false] (v := ?_) (a' := ?_) rfl rfl rfl (by kernel_rfl) (by kernel_rfl) (by kernel_rfl) (fun _ _ _ _ h => h) (Or.inl ⟨by rfl, ?_⟩) hHeld ?_ ?_
      rotate_left 2
      · intro w hSw
        (try dsimp only at hSw)
        go_simp
        all_goals (with_reducible rfl)
      · simp only [Act.put, List.setIfInBounds_toArray, List.set_cons_zero, List.set_cons_succ]
        rfl
      refine take_n 3 (some 25) #[true, true, true, true, false, false, false, false, false, false, false] (v := ?_) (a' := ?_) rfl rfl rfl (by kernel_rfl) (by kernel_rfl) (by kernel_rfl) (fun _ _ _ _ h => h) (Or.inl ⟨by rfl, ?_⟩) hHeld ?_ ?_
      rotate_left 2
      · intro w hSw
        (try dsimp only at hSw)
        go_simp
        all_goals (with_reducible rfl)
      · simp only [Act.put, List.setIfInBounds_toArray, List.set_cons_zero, List.set_cons_succ]
        rfl
      refine take_n 4 (some 26) #[true, true, true, true, true, false, false, false, false, false, false] (v := ?_) (a' := ?_) rfl rfl rfl (by kernel_rfl) (by kernel_rfl) (by kernel_rfl) (fun _ _ _ _ h => h) (Or.inl ⟨by rfl, ?_⟩) hHeld ?_ ?_
      rotate_left 2
      · intro w hSw
        (try dsimp only at hSw)
        go_simp
        all_goals (with_reducible rfl)
      · simp only [Act.put, List.setIfInBounds_toArray, List.set_cons_zero, List.set_cons_succ]
        rfl
      refine one_n 5 #[true, true, true, true, true, true, false, false, false, false, false] rfl rfl (by kernel_rfl) (fun K hK => ?_)
      go_simp
      refine (HW.out.1).mono ?_
      rintro e w3 ⟨u, s3, b3, rfl, ht3, hx3, hy3, hz3, hv3, hS3, hf3⟩
      have hf3 : Fr (YS i0 lk0 W) W w3 := ⟨hf3.os, hf3.tape, hf3.output, hf3.size, hf3.block⟩
      have k0 := (HB.out.1.fr hf3 (SC.no HW.out.2 HB.out.1 (by decide) (by decide) (by decide) (by decide)))
      have k1 := (HB.out.2.1.fr hf3 (SC.no HW.out.2 HB.out.2.1 (by decide) (by decide) (by decide) (by decide)))
      have k2 := (HB.out.2.2.fr hf3 (SC.no HW.out.2 HB.out.2.2 (by decide) (by decide) (by decide) (by decide)))
      have H3 := Lib.hid (And.intro k0 (And.intro k1 (And.intro k2 (And.intro ht3 (And.intro hx3 (And.intro hy3 (And.intro hz3 (And.intro hv3 (And.intro hS3 hf3)))))))))
      clear k0 k1 k2 ht3 hx3 hy3 hz3 hv3 hS3 hf3
      refine hK.out _ ?_ _ ?_ ?_ (fun hHeld => ?_)
      rotate_left
      · (try simp only [Act.put, List.setIfInBounds_toArray, List.set_cons_zero, List.set_cons_succ])
        rfl
      · (try dsimp only)
        exact ⟨blk_cell H3.out.1 0, blk_cell H3.out.2.1 1⟩
      clear hK K
      refine take_n 6 (some 21) #[true, true, true, true, true, true, true, false, false, false, false] (v := ?_) (a' := ?_) rfl rfl rfl (by kernel_rfl) (by kernel_rfl) (by kernel_rfl) (fun _ _ _ _ h => h) (Or.inl ⟨by rfl, ?_⟩) hHeld ?_ ?_
      rotate_left 2
      · intro w hSw
        (try dsimp only at hSw)
        go_simp
        all_goals (with_reducible rfl)
      · simp only [Act.put, List.setIfInBounds_toArray, List.set_cons_zero, List.set_cons_succ]
        rfl
      refine take_n 7 (some 28) #[true, true, true, true, true, true, true, true, false, false, false] (v := ?_) (a' := ?_) rfl rfl rfl (by kernel_rfl) (by kernel_rfl) (by kernel_rfl) (fun _ _ _ _ h => h) (Or.inl ⟨by rfl, ?_⟩) hHeld ?_ ?_
      rotate_left 2
      · intro w hSw
        (try dsimp only at hSw)
        go_simp
        all_goals (with_reducible rfl)
      · simp only [Act.put, List.setIfInBounds_toArray, List.set_cons_zero, List.set_cons_succ]
        rfl
      refine take_n 8 (some 29) #[true, true, true, true, true, true, true, true, true, false, false] (v := ?_) (a' := ?_) rfl rfl rfl (by kernel_rfl) (by kernel_rfl) (by kernel_rfl) (fun _ _ _ _ h => h) (Or.inl ⟨by rfl, ?_⟩) hHeld ?_ ?_
      rotate_left 2
      · intro w hSw
        (try dsimp only at hSw)
        go_simp
        all_goals (with_reducible rfl)
      · simp only [Act.put, List.setIfInBounds_toArray, List.set_cons_zero, List.set_cons_succ]
        rfl
      refine take_n 9 (some 10) #[true, true, true, true, true, true, true, true, true, true, false] (v := ?_) (a' := ?_) rfl rfl rfl (by kernel_rfl) (by kernel_rfl) (by kernel_rfl) (fun _ _ _ _ h => h) (Or.inl ⟨by rfl, ?_⟩) hHeld ?_ ?_
      rotate_left 2
      · intro w hSw
        (try dsimp only at hSw)
        go_simp
        all_goals (with_reducible rfl)
      · simp only [Act.put, List.setIfInBounds_toArray, List.set_cons_zero, List.set_cons_succ]
        rfl
      refine take_n 10 (some 11) #[true, true, true, true, true, true, true, true, true, true, true] (v := ?_) (a' := ?_) rfl rfl rfl (by kernel_rfl) (by kernel_rfl) (by kernel_rfl) (fun _ _ _ _ h => h) (Or.inl ⟨by rfl, ?_⟩) hHeld ?_ ?_
      rotate_left 2
      · intro w hSw
        (try dsimp only at hSw)
        go_simp
        all_goals (with_reducible rfl)
      · simp only [Act.put, List.setIfInBounds_toArray, List.set_cons_zero, List.set_cons_succ]
        rfl
      refine wpAnyH_done (by kernel_rfl) ?_ _
      clear hHeld
      obtain ⟨k0, k1, k2, ht3, hx3, hy3, hz3, hv3, hS3, hf3⟩ := H3.out
      have hs3 := hy3 trivial
      subst hs3
      unfold Told1 at ht3
      unfold outC at k2
      have f0 := blk_frozen k2 2
      have f1 := blk_frozen k2 3
      have zob := blk_lt k2
      have y0 := blk_cell k2 2
      have y1 := blk_cell k2 3
      simp only [List.getElem?_toArray, List.getElem?_cons_zero, List.getElem?_cons_succ] at y0 y1
      clear k0 k1 k2 hx3 hy3 hz3 hv3 hS3 hf3
      gi_wp2
      obtain ⟨k0, k1, k2, ht3, hx3, hy3, hz3, hv3, hS3, hf3⟩ := H3.out
      obtain ⟨hs, hb, hF⟩ := HI.out
      obtain ⟨_, hS⟩ := HW.out
      exact IC.next HB.out.2.2 hF hS hS3 hf3 ((AsLayT.set k2 2 _).trans (AsLayT.set (blk_set k2 2 _) 3 _)) ((set_fr w3 _ _ _).trans (set_fr _ _ _ _) (fun _ e => e) (fun _ _ e => e)) (blk_set (blk_set k2 2 _) 3 _) (by
        rintro (e | e)
        · have := congrArg List.getLast? e
          simp at this
        · have hp : pre = [false] := by
            have := congrArg List.dropLast e
            simpa using this
          exact hs (.inl hp))
  case done =>
    rintro D ys W hD rfl hI hKD
    obtain ⟨s, b, bo, hs, hb, hS, hF⟩ := hI
    have hsx := hs (.inr rfl)
    subst hsx
    have br : Blk W (w.heap.size + 1 + 1) (outC ⟨#[]⟩) 86 := q2.fr hF (by
      rintro (e | e)
      · omega
      · exact SC.no HS2 q2 (by decide) (by decide) (by decide) (by decide) e)
    have hcl : Blk W cn (connC lk0 lk1) 105 ∧ (∃ got, Blk W lk0 (linkC i0.h true s0 1 got) 145) ∧ Blk W lk1 (linkC i1.h false s1 0 0) 145 := by
      rcases b with _ | _
      · exact ⟨hS.1.conn, ⟨_, hS.1.link0⟩, hS.1.link1⟩
      · exact ⟨ConnAt.conn hS, ⟨_, ConnAt.link0 hS⟩, ConnAt.link1 hS⟩
    unfold outC at bo
    have y0 := blk_cell bo 0
    have y1 := blk_cell bo 1
    have y2 := blk_cell bo 2
    have y3 := blk_cell bo 3
    simp only [List.getElem?_toArray, List.getElem?_cons_zero, List.getElem?_cons_succ] at y0 y1 y2 y3
    have kw0 : IntKind.i64.wrap 0 = 0 := rfl
    have kt0 : Int.toNat 0 = 0 := rfl
    have kw1 : IntKind.i64.wrap 1 = 1 := rfl
    have kt1 : Int.toNat 1 = 1 := rfl
    have H3 := Lib.hid (And.intro bo (And.intro br (And.intro hcl (And.intro hF hKD))))
    clear bo hs hb hS hF br hcl hKD
    go_wp2_with fail
    obtain ⟨W3, hW3⟩ : ∃ W3, W3 = W.alloc (.cells #[.bool false] 4) := ⟨_, rfl⟩
    rw [← hW3]
    have hb3 : Below W.heap.size W W3 := by rw [hW3]; exact below_alloc (Below.refl _ W) _ (Nat.le_refl _)
    have bb3 : Blk W3 W.heap.size #[.bool false] 4 := by rw [hW3]; exact heap_alloc_new W _
    clear y0 y1 y2 y3 hW3
    refine (each_calls cn W3).mono ?_
    rintro e w4 ⟨rfl, hw4⟩
    have hb4 : Below W3.heap.size W3 w4 := by rw [hw4]; exact below_alloc (Below.refl _ W3) _ (Nat.le_refl _)
    have bx4 : Blk w4 W3.heap.size #[.pointer (some ⟨cn, 0, none⟩)] 76 := by rw [hw4]; exact heap_alloc_new W3 _
    have hbW4 := below_step hb3 hb4
    have H4 := Lib.hid (And.intro hbW4 (And.intro bx4 (bb3.lay (AsLay.of_below hb4))))
    clear hw4 hb4 bx4 hbW4 hb3 bb3
    go_wp2_with fail
    obtain ⟨hbW4, bx4, bb4⟩ := H4.out
    obtain ⟨bo, br, hcl, hF, hKD0⟩ := H3.out
    refine (wpIn_wide (n := 6)).1 ?_
    refine wpIn_rangeFunc_ownH (α := Bool) rfl (by omega) (gf := 69) (lb := #[.pointer (some ⟨W3.heap.size, 0, none⟩)]) rfl trivial (enters_of Tryz.func69 (by kernel_rfl) rfl)
      (encs := wayA lk0 lk1) (Kp := fun _ _ => True) (S := fun ys => ys = [false, true]) (Sp := fun pre => pre = [false] ∨ pre = [false, true]) (N := 2) (w0 := w4)
      (fun l J Jx W' hW hJ _ hY h0 => each1 (6 - 1) (by omega) cn lk0 lk1 W3.heap.size l J Jx W' (bx4.lay (AsLay.of_below hW)) (hcl.1.lay ((AsLay.of_below hbW4).trans (AsLay.of_below hW))) hY h0)
      (fun _ _ => trivial) (fun _ _ _ _ _ _ _ _ => trivial) (Below.refl _ _) (fun x => by cases x <;> rfl)
      (fun _ W' => Below w4.heap.size w4 W') (fun _ _ _ => False)
      (ownFrom_below (Nat.le_refl _) (Nat.le_refl _)) (fun _ _ _ _ _ hs _ _ => hs) (Below.refl _ _)
      (fun x a' W' => a' = match x with | false => { tmps := #[.pointer (some ⟨cn, 0, none⟩), .int .i64 0, .agg #[.int .i64 1, .int .i64 1], undef, .pointer (some ⟨w.heap.size, 0, none⟩), .pointer (some ⟨w.heap.size + 1, 0, none⟩), .pointer (some ⟨w.heap.size + 1 + 1, 0, none⟩), .pointer (some ⟨w.heap.size + 1 + 1 + 1, 0, none⟩), undef, undef, undef, undef, .pointer (some ⟨W.heap.size, 0, none⟩), .int .i64 0, .pointer (some ⟨lk0, 0, none⟩), undef, undef, .pointer (some ⟨cn, 0, none⟩), .func (.func 69) #[] #[.pointer (some ⟨wq.heap.size, 0, none⟩)], undef, undef, undef, undef, undef, undef, undef, undef, undef, undef, undef, undef, undef, undef, undef, undef, undef, .pointer (some ⟨w.heap.size + 1 + 1 + 1, 0, none⟩), .pointer (some ⟨w.heap.size + 1 + 1 + 1, 1, none⟩), .int .i64 0, .bool false, .bool false, .pointer (some ⟨w.heap.size + 1 + 1 + 1, 2, none⟩), .pointer (some ⟨w.heap.size + 1 + 1 + 1, 3, none⟩), .int .i64 0, .bool false, .bool false, .pointer (some ⟨cn, 0, none⟩), .func (.func 69) #[] #[.pointer (some ⟨W3.heap.size, 0, none⟩)], .int .i64 0, .pointer (some ⟨lk0, 0, none⟩), undef, undef, undef, undef, undef, undef, undef, undef, undef, undef, undef, undef, undef, undef, undef, undef, undef, undef, undef, undef], defers := [] } | true => { tmps := #[.pointer (some ⟨cn, 0, none⟩), .int .i64 0, .agg #[.int .i64 1, .int .i64 1], undef, .pointer (some ⟨w.heap.size, 0, none⟩), .pointer (some ⟨w.heap.size + 1, 0, none⟩), .pointer (some ⟨w.heap.size + 1 + 1, 0, none⟩), .pointer (some ⟨w.heap.size + 1 + 1 + 1, 0, none⟩), undef, undef, undef, undef, .pointer (some ⟨W.heap.size, 0, none⟩), .int .i64 1, .pointer (some ⟨lk1, 0, none⟩), undef, undef, .pointer (some ⟨cn, 0, none⟩), .func (.func 69) #[] #[.pointer (some ⟨wq.heap.size, 0, none⟩)], undef, undef, undef, undef, undef, undef, undef, undef, undef, undef, undef, undef, undef, undef, undef, undef, undef, .pointer (some ⟨w.heap.size + 1 + 1 + 1, 0, none⟩), .pointer (some ⟨w.heap.size + 1 + 1 + 1, 1, none⟩), .int .i64 0, .bool false, .bool false, .pointer (some ⟨w.heap.size + 1 + 1 + 1, 2, none⟩), .pointer (some ⟨w.heap.size + 1 + 1 + 1, 3, none⟩), .int .i64 0, .bool false, .bool false, .pointer (some ⟨cn, 0, none⟩), .func (.func 69) #[] #[.pointer (some ⟨W3.heap.size, 0, none⟩)], .int .i64 1, .pointer (some ⟨lk1, 0, none⟩), undef, undef, undef, undef, undef, undef, undef, undef, undef, undef, undef, undef, undef, undef, undef, undef, undef, undef, undef, undef], defers := [] })
      (fun x a' => fun _ A B row hs hg hr => hs) ?assign2 ?body2 ?done2 ?stop2
    case assign2 =>
      intro l pre x W2 K hi hK
      rcases x with _ | _
      · unfold wayA
        gi_wp2
        exact hK _ _ (KeepsFrom.refl _ _) trivial hi rfl
      · unfold wayA
        gi_wp2
        exact hK _ _ (KeepsFrom.refl _ _) trivial hi rfl
    case stop2 =>
      rintro D2 c pre W2 _ _ h _
      exact h.elim
    case body2 =>
      rintro l pre x a' W2 hl _ hI ha hlen
      have c0 := blk_cell (bb4.lay (AsLay.of_below hI)) 0
      simp only [List.getElem?_toArray, List.getElem?_cons_zero, List.getElem?_cons_succ] at c0
      have HI := Lib.hid hI
      clear hI
      rcases x with _ | _
      · subst ha
        gi_wp2
        refine ⟨trivial, ?_⟩
        gi_wp2
        exact ⟨KeepsFrom.refl _ _, trivial, HI.out⟩
      · subst ha
        gi_wp2
        refine ⟨trivial, ?_⟩
        gi_wp2
        exact ⟨KeepsFrom.refl _ _, trivial, HI.out⟩
    case done2 =>
      rintro D2 ys W2 hD2 rfl hI2 hKD2
      have hbWW := below_step hbW4 hI2
      have lW := AsLay.of_below hbWW
      have bo2 := bo.lay lW
      have br2 := br.lay lW
      unfold outC at br2
      have y0 := blk_cell bo2 0
      have y1 := blk_cell bo2 1
      have y2 := blk_cell bo2 2
      have y3 := blk_cell bo2 3
      have r0 := blk_cell br2 0
      have r1 := blk_cell br2 1
      have r2 := blk_cell br2 2
      have r3 := blk_cell br2 3
      have f0 := blk_frozen br2 0
      have f1 := blk_frozen br2 1
      have f2 := blk_frozen br2 2
      have f3 := blk_frozen br2 3
      have zb := blk_lt br2
      simp only [List.getElem?_toArray, List.getElem?_cons_zero, List.getElem?_cons_succ] at y0 y1 y2 y3 r0 r1 r2 r3
      have H5 := Lib.hid (And.intro hbWW (And.intro bo2 (And.intro br2 (And.intro hKD2 ((hbWW.block D (blk_lt hKD0)).trans hKD0)))))
      clear hbWW lW bo2 br2 hKD2 hI2
      go_wp2_with fail
      obtain ⟨hbWW, bo2, br2, hKD2, hKD⟩ := H5.out
      have hrD2 : D2 ≠ w.heap.size + 1 + 1 := by have := blk_lt q2; have := hF.size; have := hbW4.size; omega
      have hrD : D ≠ w.heap.size + 1 + 1 := by have := blk_lt q2; omega
      have hDD : D ≠ D2 := by have := blk_lt hKD0; have := hbW4.size; omega
      have s1' := blk_set br2 0 (.string xB)
      have s2' := blk_set s1' 1 (.int .i64 0)
      have s3' := blk_set s2' 2 (.string ⟨#[]⟩)
      have s4' := blk_set s3' 3 (.int .i64 0)
      have ht : AsLayT 86 W2 _ := (((AsLayT.set br2 0 (.string xB)).trans (AsLayT.set s1' 1 (.int .i64 0))).trans (AsLayT.set s2' 2 (.string ⟨#[]⟩))).trans (AsLayT.set s3' 3 (.int .i64 0))
      have hfs : Fr (fun r => r = w.heap.size + 1 + 1) W2 _ := ((((Fr.refl (fun r => r = w.heap.size + 1 + 1) W2).set (p := ⟨w.heap.size + 1 + 1, 0, none⟩) (.inl rfl) (.string xB)).set (p := ⟨w.heap.size + 1 + 1, 1, none⟩) (.inl rfl) (.int .i64 0)).set (p := ⟨w.heap.size + 1 + 1, 2, none⟩) (.inl rfl) (.string ⟨#[]⟩)).set (p := ⟨w.heap.size + 1 + 1, 3, none⟩) (.inl rfl) (.int .i64 0)
      obtain ⟨W5, hW5⟩ : ∃ W5, W5 = ((((W2.setCell ⟨w.heap.size + 1 + 1, 0, none⟩ (.string xB)).setCell ⟨w.heap.size + 1 + 1, 1, none⟩ (.int .i64 0)).setCell ⟨w.heap.size + 1 + 1, 2, none⟩ (.string ⟨#[]⟩)).setCell ⟨w.heap.size + 1 + 1, 3, none⟩ (.int .i64 0)) := ⟨_, rfl⟩
      rw [← hW5] at ht hfs s4' ⊢
      have hKD2' := (hfs.block D2 (blk_lt hKD2) hrD2).trans hKD2
      have hKD' := (hfs.block D (blk_lt hKD) hrD).trans hKD
      refine ⟨by simp, .inl ⟨_, _, rfl, run_takeDeferred hKD2', ?_⟩⟩
      have hKD3 := (World.putObj_heap_other (w := W5) (o := .deferred none) (r := D2) (k := D) hDD).trans hKD'
      refine ⟨by simp, .inl ⟨_, _, rfl, run_takeDeferred hKD3, ?_⟩⟩
      have hal : AsLay W5 ((W5.putObj D2 (.deferred none)).putObj D (.deferred none)) := (AsLay.of_grown (grownBy_putObj' W5 D2 _) (fun r e => by cases e; exact ⟨_, hKD2', rfl⟩)).trans (AsLay.of_grown (grownBy_putObj' _ D _) (fun r e => by cases e; exact ⟨_, hKD3, rfl⟩))
      have br5 : Blk ((W5.putObj D2 (.deferred none)).putObj D (.deferred none)) (w.heap.size + 1 + 1) (outC xB) 86 := hal _ _ _ s4'
      refine ⟨_, results_cell_row rfl _ _ (w.heap.size + 1 + 1) _ (outC xB) _ _ rfl br5 Tryz.underlying86 rfl (by kernel_rfl), rfl, ?_⟩
      have lcl : ∀ {r : Nat} {cs : Array Value} {t : TypeId}, Blk W r cs t → t ≠ 86 → Blk ((W5.putObj D2 (.deferred none)).putObj D (.deferred none)) r cs t := fun hr h0 => hal _ _ _ (ht _ _ _ h0 (hr.lay (AsLay.of_below hbWW)))
      refine ⟨lcl hcl.1 (by decide), hcl.2.1.imp (fun g hg => lcl hg (by decide)), lcl hcl.2.2 (by decide), ?_⟩
      have e1 : w.heap.size ≤ D := Nat.le_trans hb2.size hD
      have e2 : w.heap.size ≤ D2 := Nat.le_trans hb2.size (Nat.le_trans hF.size (Nat.le_trans hbW4.size hD2))
      have g1 : Fr (YS i0 lk0 w) w W := (Fr.of_below (X := fun _ => False) hb2).trans hF (fun _ e => e.elim) (fun r hr e => by
        rcases e with e | e
        · omega
        · exact e.back (Fr.of_below (X := fun _ => False) hb2) hr (fun e => e))
      have g2 : Fr (YS i0 lk0 w) w W5 := (g1.then_below hbWW).trans hfs (fun _ e => e) (fun r hr e => by omega)
      exact Fr.grown (Fr.grown g2 (grownBy_putObj' W5 D2 _) (fun r e => by cases e; exact e2)) (grownBy_putObj' _ D _) (fun r e => by cases e; exact e1)
end Go.Proofs.YtdpfmemcpipbkaaGreatDoor.Hand
end
section
/- conn.Over: not yet. -/
namespace Go.Proofs.YtdpfmemcpipbkaaGreatDoor.Hand
open Go.RowKit
set_option linter.unusedVariables false
set_option linter.unusedSimpArgs false
attribute [local go_sem] Oper.semAt_some
theorem over_result {w : World} {b : Nat} {t : Array Value} (h : Blk w b #[.bool false] 4) (h2 : t[2]?.getD undef = .pointer (some ⟨b, 0, none⟩)) : (results Tryz.f23 t).run Tryz.prog w = .ok (.bool false) w := by
  have c0 := blk_cell h 0
  simp only [List.getElem?_toArray, List.getElem?_cons_zero] at c0
  simp [results, Tryz.results23, go_sem, h2, c0]
set_option maxHeartbeats 16000000 in
set_option maxRecDepth 100000 in
theorem conn_over (cn lk0 lk1 h0 h1 : Nat) (u0 u1 : Bool) (s0 s1 n0 n1 g0 g1 : Int) (w : World) (hc : Blk w cn (connC lk0 lk1) 105) (hl0 : Blk w lk0 (linkC h0 u0 s0 n0 g0) 145) (hl1 : Blk w lk1 (linkC h1 u1 s1 n1 g1) 145) : Calls Tryz.prog 23 #[.pointer (some ⟨cn, 0, none⟩)] w fun e w' => e = .returned (.bool false) ∧ Below w.heap.size w w' := by
  obtain ⟨wq, hwq⟩ : ∃ wq, wq = w.alloc (.cells #[.bool false] 4) := ⟨_, rfl⟩
  have hbq : Below w.heap.size w wq := by rw [hwq]; exact below_alloc (Below.refl _ w) _ (Nat.le_refl _)
  have q0 : Blk wq w.heap.size #[.bool false] 4 := by rw [hwq]; exact heap_alloc_new w _
  have H := Lib.hid (And.intro hbq (And.intro q0 (And.intro hc (And.intro hl0 hl1))))
  have HWQ := Lib.hid hwq
  clear hbq q0 hc hl0 hl1 hwq
  refine (callsIn_wide (n := 6)).1 ?_
  refine callsIn_of_wp_marks Tryz.func23 rfl trivial ?_ rfl
  refine wpIn_wide.2 ?_
  simp only [Tryz.ntmps23, List.size_toArray, List.length_cons, List.length_nil, Nat.reduceAdd, Nat.reduceSub, Array.replicate_succ, Array.replicate_zero, List.push_toArray, List.append_toArray, List.nil_append, List.cons_append]
  go_wp2_with fail
  rw [← HWQ.out]
  clear HWQ
  refine (each_calls cn wq).mono ?_
  rintro e w2 ⟨rfl, hw2⟩
  have hb2 : Below wq.heap.size wq w2 := by rw [hw2]; exact below_alloc (Below.refl _ wq) _ (Nat.le_refl _)
  have bx : Blk w2 wq.heap.size #[.pointer (some ⟨cn, 0, none⟩)] 76 := by rw [hw2]; exact heap_alloc_new wq _
  obtain ⟨hbq, q0, hc, hl0, hl1⟩ := H.out
  have l2 := AsLay.of_below hb2
  have lq := (AsLay.of_below hbq).trans l2
  have H2 := Lib.hid (And.intro (below_step hbq hb2) (And.intro (q0.lay l2) (And.intro (hc.lay lq) (And.intro (hl0.lay lq) (And.intro (hl1.lay lq) bx)))))
  clear hw2 hb2 hbq q0 hc hl0 hl1 l2 lq bx H
  go_wp2_with fail
  obtain ⟨hb2, q2, hc2, hl2, hm2, bx⟩ := H2.out
  refine (wpIn_wide (n := 6)).1 ?_
  refine wpIn_rangeFunc_ownH (α := Bool) rfl (by omega) (gf := 69) (lb := #[.pointer (some ⟨wq.heap.size, 0, none⟩)]) rfl trivial (enters_of Tryz.func69 (by kernel_rfl) rfl)
    (encs := wayA lk0 lk1) (Kp := fun _ _ => True) (S := fun ys => ys = [false, true]) (Sp := fun pre => pre = [false] ∨ pre = [false, true]) (N := 2) (w0 := w2)
    (fun l J Jx W hW hJ _ hY h0 => each1 (6 - 1) (by omega) cn lk0 lk1 wq.heap.size l J Jx W (bx.lay (AsLay.of_below hW)) (hc2.lay (AsLay.of_below hW)) hY h0)
    (fun _ _ => trivial) (fun _ _ _ _ _ _ _ _ => trivial) (Below.refl _ _) (fun x => by cases x <;> rfl)
    (fun pre W => pre = [] ∧ Below w2.heap.size w2 W) (fun c _ W => c = .ret ∧ Blk W w.heap.size #[.bool false] 4 ∧ Fr (fun r => r = w.heap.size) w2 W)
    (fun pre A B row h hg hr => ⟨h.1, ownFrom_below (Nat.le_refl _) (Nat.le_refl _) pre A B row h.2 hg hr⟩)
    (fun c pre A B row h hg hr => ⟨h.1, h.2.1.lay (AsLay.of_grown hg (fun r e => (hr r e).2)), h.2.2.grown hg (fun r e => (hr r e).1)⟩) ⟨rfl, Below.refl _ _⟩
    (fun x a' W => a' = match x with | false => { tmps := #[.pointer (some ⟨cn, 0, none⟩), undef, .pointer (some ⟨w.heap.size, 0, none⟩), undef, .pointer (some ⟨lk0, 0, none⟩), .pointer (some ⟨cn, 0, none⟩), .func (.func 69) #[] #[.pointer (some ⟨wq.heap.size, 0, none⟩)], .int .i64 0, .pointer (some ⟨lk0, 0, none⟩), undef, undef, undef], defers := [] } | true => { tmps := #[.pointer (some ⟨cn, 0, none⟩), undef, .pointer (some ⟨w.heap.size, 0, none⟩), undef, .pointer (some ⟨lk1, 0, none⟩), .pointer (some ⟨cn, 0, none⟩), .func (.func 69) #[] #[.pointer (some ⟨wq.heap.size, 0, none⟩)], .int .i64 1, .pointer (some ⟨lk1, 0, none⟩), undef, undef, undef], defers := [] })
    (fun x a' => fun _ A B row hs hg hr => hs) ?assign ?body ?done ?stop
  case assign =>
    intro l pre x W K hi hK
    rcases x with _ | _
    · unfold wayA
      gi_wp2
      exact hK _ _ (KeepsFrom.refl _ _) trivial hi rfl
    · unfold wayA
      gi_wp2
      exact hK _ _ (KeepsFrom.refl _ _) trivial hi rfl
  case done =>
    rintro D ys W hD rfl hI hKD
    cases hI.1
  case body =>
    rintro l pre x a' W hl _ hI ha hlen
    have lW := AsLay.of_below hI.2
    have D0 := Lib.hid (done_calls lk0 h0 u0 s0 n0 g0 W (hl2.lay lW))
    have D1 := Lib.hid (done_calls lk1 h1 u1 s1 n1 g1 W (hm2.lay lW))
    have qW := q2.lay lW
    have r0 := blk_cell qW 0
    have rf := blk_frozen qW 0
    have rz := blk_lt qW
    simp only [List.getElem?_toArray, List.getElem?_cons_zero, List.getElem?_cons_succ] at r0
    have HI := Lib.hid (And.intro hI qW)
    clear hI lW qW
    rcases x with _ | _
    · subst ha
      gi_wp2
      refine ⟨trivial, CallsIn.inRound l (callsIn_wide.2 (D0.out.mono ?_))⟩
      rintro e W1 ⟨rfl, rfl⟩
      gi_wp2
      obtain ⟨hI, qW⟩ := HI.out
      refine ⟨KeepsFrom.of_cells (X := fun r => r = w.heap.size) (set_fr W _ _ _) (fun r e => ⟨_, _, e ▸ qW⟩), rfl, blk_set qW 0 _, (Fr.of_below hI.2).trans (set_fr W _ _ _) (fun _ e => e) (fun _ _ e => e)⟩
    · subst ha
      gi_wp2
      refine ⟨trivial, CallsIn.inRound l (callsIn_wide.2 (D1.out.mono ?_))⟩
      rintro e W1 ⟨rfl, rfl⟩
      gi_wp2
      obtain ⟨hI, qW⟩ := HI.out
      refine ⟨KeepsFrom.of_cells (X := fun r => r = w.heap.size) (set_fr W _ _ _) (fun r e => ⟨_, _, e ▸ qW⟩), rfl, blk_set qW 0 _, (Fr.of_below hI.2).trans (set_fr W _ _ _) (fun _ e => e) (fun _ _ e => e)⟩
  case stop =>
    rintro D c pre W hD _ ⟨rfl, hr, hf⟩ hKD
    gi_wp2
    refine ⟨by simp, .inl ⟨_, _, rfl, run_takeDeferred hKD, ?_⟩⟩
    have hal : AsLay W (W.putObj D (.deferred none)) := AsLay.of_grown (grownBy_putObj' W D _) (fun r e => by cases e; exact ⟨_, hKD, rfl⟩)
    refine ⟨_, over_result (hal _ _ _ hr) rfl, rfl, ?_⟩
    have e1 : w.heap.size ≤ D := Nat.le_trans hb2.size hD
    have hg : Fr (fun r => r = w.heap.size) w2 (W.putObj D (.deferred none)) := hf.grown (grownBy_putObj' W D _) (fun r e => by cases e; exact hD)
    exact hb2.trans (Fr.below hg hb2.size (fun r e => by omega))
end Go.Proofs.YtdpfmemcpipbkaaGreatDoor.Hand
end
