/- hub.Proxy of lives' one proxy. -/
import Derived.Test.YtdpfmemcpipbkaaGreatDoorZConn
import Derived.Test.YtdpfmemcpipbkaaGreatDoorZSplit
section
namespace Go.Proofs.YtdpfmemcpipbkaaGreatDoor.Hand
open Go.RowKit
set_option linter.unusedVariables false
set_option linter.unusedSimpArgs false
def lifeP : List Px := [(nm 0, true, 1)]
def pxC (p : Px) : Array Value := #[.string p.1, .bool p.2.1, .int .i64 p.2.2, .slice none 0 0]
theorem find_result {w : World} {b : Nat} {t : Array Value} {p : Px} (h : w.heap[b]? = some (.cells (pxC p) 71 (0, 0))) (h2 : t[4]?.getD undef = .pointer (some ⟨b, 0, none⟩)) (h3 : t[5]?.getD undef = .bool true) : (results Tryz.f30 t).run Tryz.prog w = .ok (.tuple #[.agg (pxC p), .bool true]) w := by
  have o0 := blk_cell h 0
  have o1 := blk_cell h 1
  have o2 := blk_cell h 2
  have o3 := blk_cell h 3
  simp only [pxC, List.getElem?_toArray, List.getElem?_cons_zero, List.getElem?_cons_succ] at o0 o1 o2 o3
  unfold pxC
  simp [results, Tryz.results30, go_sem, h2, h3, o0, o1, o2, o3]
theorem proxy_result {w : World} {b : Nat} {t : Array Value} {p : Px} (h : w.heap[b]? = some (.cells (pxC p) 71 (0, 0))) (h2 : t[4]?.getD undef = .pointer (some ⟨b, 0, none⟩)) (h3 : t[5]?.getD undef = .bool true) : (results Tryz.f17 t).run Tryz.prog w = .ok (.tuple #[.agg (pxC p), .bool true]) w := by
  have o0 := blk_cell h 0
  have o1 := blk_cell h 1
  have o2 := blk_cell h 2
  have o3 := blk_cell h 3
  simp only [pxC, List.getElem?_toArray, List.getElem?_cons_zero, List.getElem?_cons_succ] at o0 o1 o2 o3
  unfold pxC
  simp [results, Tryz.results17, go_sem, h2, h3, o0, o1, o2, o3]
set_option maxHeartbeats 8000000 in
set_option maxRecDepth 100000 in
theorem find_life (a : Option Addr) (n cap : Nat) (w : World) (h : RegAt w a n cap lifeP) : Calls Tryz.prog 30 #[.slice a n cap, .string (nm 0)] w fun e w' => e = .returned (.tuple #[.agg (pxC (nm 0, true, 1)), .bool true]) ∧ Below w.heap.size w w' := by
  obtain rfl : n = 1 := h.len.symm
  have kw0 : IntKind.i64.wrap 0 = 0 := rfl
  have kt0 : Int.toNat 0 = 0 := rfl
  have hb0 : Below w.heap.size w (w.alloc (.cells #[.string ⟨#[]⟩, .bool false, .int .i64 0, .slice none 0 0] 71)) := below_alloc (Below.refl _ w) _ (Nat.le_refl _)
  have q0 : Blk (w.alloc (.cells #[.string ⟨#[]⟩, .bool false, .int .i64 0, .slice none 0 0] 71)) w.heap.size #[.string ⟨#[]⟩, .bool false, .int .i64 0, .slice none 0 0] 71 := heap_alloc_new w _
  have h0 := h.below hb0
  have HA := Lib.hid (at_calls (nm 0) lifeP a 1 cap _ h0 (by omega))
  have hi : idx (nm 0) lifeP = 0 := by simp [idx, idxFrom, lifeP, same_eq]
  rw [hi] at HA
  have H0 := Lib.hid (And.intro hb0 (And.intro q0 h0))
  clear hb0 q0 h0 h hi
  go_enter Tryz.func30, Tryz.ntmps30
  go_wp2_with fail
  refine HA.out.mono ?_
  rintro e w1 ⟨rfl, hb1⟩
  obtain ⟨hb0, q0, h0⟩ := H0.out
  have HO := Lib.hid (own_calls lifeP a 1 cap w1 (h0.below hb1) (by omega))
  have H1 := Lib.hid (And.intro (below_step hb0 hb1) (q0.lay (AsLay.of_below hb1)))
  clear hb0 q0 h0 hb1
  go_wp2_with fail
  refine HO.out.mono ?_
  rintro e w2 ⟨a2, c2, rfl, hr2, hf2, hb2⟩
  obtain ⟨g2, rfl, e0, e1, e2, e3⟩ := hr2.at 0 (by omega)
  obtain ⟨hb1, q1⟩ := H1.out
  have q2 := q1.lay (AsLay.of_below hb2)
  have f0 := blk_frozen q2 0
  have f1 := blk_frozen q2 1
  have f2 := blk_frozen q2 2
  have f3 := blk_frozen q2 3
  have y0 := blk_cell q2 0
  have y1 := blk_cell q2 1
  have y2 := blk_cell q2 2
  have y3 := blk_cell q2 3
  have zq := blk_lt q2
  simp only [List.getElem?_toArray, List.getElem?_cons_zero, List.getElem?_cons_succ] at y0 y1 y2 y3
  simp only [lifeP, List.getD_cons_zero, Nat.zero_mul, Nat.zero_add] at e0 e1 e2 e3
  have hne : g2 ≠ w.heap.size := by have := hf2 g2 rfl; have := hb1.size; have := blk_lt q1; omega
  have H2 := Lib.hid (And.intro (below_step hb1 hb2) q2)
  clear hb1 q1 q2 hb2 hr2 hf2
  go_wp2_with fail
  obtain ⟨hb2, q2⟩ := H2.out
  refine bodyPost_ret (find_result (p := (nm 0, true, 1)) (blk_set (blk_set (blk_set (blk_set q2 0 _) 1 _) 2 _) 3 _) rfl rfl) rfl ?_
  exact ⟨rfl, (((hb2.setCell (p := ⟨w.heap.size, 0, none⟩) (Nat.le_refl _) _).setCell (p := ⟨w.heap.size, 1, none⟩) (Nat.le_refl _) _).setCell (p := ⟨w.heap.size, 2, none⟩) (Nat.le_refl _) _).setCell (p := ⟨w.heap.size, 3, none⟩) (Nat.le_refl _) _⟩
set_option maxHeartbeats 8000000 in
set_option maxRecDepth 100000 in
theorem proxy_life (dk : Nat) (w : World) (h : DeskAt w dk lifeP) : Calls Tryz.prog 17 #[.pointer (some ⟨dk, 0, none⟩), .string (nm 0)] w fun e w' => e = .returned (.tuple #[.agg (pxC (nm 0, true, 1)), .bool true]) ∧ Below w.heap.size w w' := by
  obtain ⟨wq, hwq⟩ : ∃ wq, wq = w.alloc (.cells #[.string ⟨#[]⟩, .bool false, .int .i64 0, .slice none 0 0] 71) := ⟨_, rfl⟩
  have hb0 : Below w.heap.size w wq := by rw [hwq]; exact below_alloc (Below.refl _ w) _ (Nat.le_refl _)
  have q0 : Blk wq w.heap.size #[.string ⟨#[]⟩, .bool false, .int .i64 0, .slice none 0 0] 71 := by rw [hwq]; exact heap_alloc_new w _
  obtain ⟨a, n, cap, d, r, hd⟩ := h.below hb0
  have c0 := blk_cell hd.blk 0
  simp only [List.getElem?_toArray, List.getElem?_cons_zero, List.getElem?_cons_succ] at c0
  have HA := Lib.hid (find_life a n cap wq hd.reg)
  have H0 := Lib.hid (And.intro hb0 q0)
  have HWQ := Lib.hid hwq
  unfold pxC at HA
  rw [hwq] at c0
  clear hb0 q0 h hd hwq
  go_enter Tryz.func17, Tryz.ntmps17
  go_wp2_with fail
  rw [← HWQ.out]
  clear c0 HWQ
  refine HA.out.mono ?_
  rintro e w2 ⟨rfl, hb2⟩
  obtain ⟨hb1, q1⟩ := H0.out
  have q2 := q1.lay (AsLay.of_below hb2)
  have f0 := blk_frozen q2 0
  have f1 := blk_frozen q2 1
  have f2 := blk_frozen q2 2
  have f3 := blk_frozen q2 3
  have y0 := blk_cell q2 0
  have y1 := blk_cell q2 1
  have y2 := blk_cell q2 2
  have y3 := blk_cell q2 3
  have zq := blk_lt q2
  simp only [List.getElem?_toArray, List.getElem?_cons_zero, List.getElem?_cons_succ] at y0 y1 y2 y3
  have H2 := Lib.hid (And.intro (below_step hb1 hb2) q2)
  clear hb1 q1 q2 hb2
  go_wp2_with fail
  obtain ⟨hb2, q2⟩ := H2.out
  refine bodyPost_ret (proxy_result (p := (nm 0, true, 1)) (blk_set (blk_set (blk_set (blk_set q2 0 _) 1 _) 2 _) 3 _) rfl rfl) rfl ?_
  exact ⟨rfl, (((hb2.setCell (p := ⟨w.heap.size, 0, none⟩) (Nat.le_refl _) _).setCell (p := ⟨w.heap.size, 1, none⟩) (Nat.le_refl _) _).setCell (p := ⟨w.heap.size, 2, none⟩) (Nat.le_refl _) _).setCell (p := ⟨w.heap.size, 3, none⟩) (Nat.le_refl _) _⟩
end Go.Proofs.YtdpfmemcpipbkaaGreatDoor.Hand
end
section
/- hub.Connect to lives' one proxy. -/
namespace Go.Proofs.YtdpfmemcpipbkaaGreatDoor.Hand
open Go.RowKit
set_option linter.unusedVariables false
set_option linter.unusedSimpArgs false
attribute [local go_sem] Oper.semAt_some
theorem live_put {w : World} {b : Nat} {c : Nat} (f : Value) (hb : w.heap[b]? = some (.map #[] c)) : ∃ w', (Instr.mapUpdate 61 (.map (some b)) (.int .i64 1) f).run Tryz.prog w = .ok () w' ∧ w'.heap[b]? = some (.map #[⟨.int .i64 1, f, c⟩] (c + 1)) ∧ Fr (fun r => r = b) w w' := by
  have hlt := blk_lt hb
  refine ⟨{ w with heap := w.heap.setIfInBounds b (.map #[⟨.int .i64 1, f, c⟩] (c + 1)) }, ?_, ?_, ?_⟩
  · simp [Instr.mapUpdate, run_underlying Tryz.underlying61, MapKept.run_getObj_map hb, MapKept.run_checkKey (k := .int .i64 1) Tryz.underlying3 (show MapKept.IsKey (.int .i64) (.int .i64 1) from rfl), MapKept.run_findKey (l := []) Tryz.underlying3 (show Instr.findNow (.int .i64) (.int .i64 1) ([] : List MapEntry) 0 = some none from rfl), MapKept.run_setObj_map _ hb, Result.andThen]
  · simp [hlt]
  · exact ⟨rfl, rfl, rfl, by simp, fun i hi hx => by simp [Array.getElem?_setIfInBounds, Ne.symm hx]⟩
theorem live_len {w : World} {b : Nat} {c : Nat} (hb : w.heap[b]? = some (.map #[] c)) (ty : TypeId) : (Builtin.len_ #[61] ty #[.map (some b)]).run Tryz.prog w = .ok (.int .i64 0) w := by
  simp [Builtin.len_, run_underlying Tryz.underlying61, MapKept.run_getObj_map hb, Result.andThen, go_sem]
/-- A hub with one connection. -/
structure HubOne (w : World) (hp dk : Nat) (seed room : Int) (mb c cn : Nat) : Prop where
  hub : HubIn w hp dk seed room 1 mb
  map : w.heap[mb]? = some (.map #[⟨.int .i64 1, .agg #[.pointer (some ⟨cn, 0, none⟩), .string (nm 0)], c⟩] (c + 1))
set_option maxHeartbeats 16000000 in
set_option maxRecDepth 100000 in
theorem hub_connect (hp dk mb c : Nat) (seed : Int) (w : World) (h : HubAt w hp dk seed 5 0 mb c lifeP) : Calls Tryz.prog 9 #[.pointer (some ⟨hp, 0, none⟩), .int .i64 0, .string (nm 0)] w fun e w' => ∃ (cn lk0 lk1 : Nat) (i0 i1 : CI) (s0 s1 : Int), e = .returned (.tuple #[.int .i64 1, .int .i64 0]) ∧ w.heap.size ≤ lk0 ∧ i0.Ge w.heap.size ∧ HubOne w' hp dk seed 5 mb c cn ∧ ConnAt w' cn lk0 lk1 i0 i1 s0 s1 0 0 0 0 0 0 ∧ CargoIn w' i0.c0 (.slice none 0 0) ∧ CargoIn w' i0.c1 (.slice none 0 0) ∧ Fr (fun b => b = hp ∨ b = mb) w w' := by
  have HP := Lib.hid (proxy_life dk w h.desk)
  have h0 := blk_cell h.hub 0
  have zh := blk_lt h.hub
  simp only [List.getElem?_toArray, List.getElem?_cons_zero, List.getElem?_cons_succ] at h0
  have H := Lib.hid h
  unfold pxC at HP
  clear h
  refine (callsIn_wide (n := 6)).1 ?_
  refine callsIn_of_wp_marks Tryz.func9 rfl trivial ?_ rfl
  refine wpIn_wide.2 ?_
  simp only [Tryz.ntmps9, List.size_toArray, List.length_cons, List.length_nil, Nat.reduceAdd, Nat.reduceSub, Array.replicate_succ, Array.replicate_zero, List.push_toArray, List.append_toArray, List.nil_append, List.cons_append]
  go_wp2_with fail
  refine HP.out.mono ?_
  rintro e w1 ⟨rfl, hb1⟩
  have H1 := Lib.hid (And.intro (H.out.below hb1) hb1)
  clear hb1 H HP h0
  go_wp2_with fail
  obtain ⟨W1, hW1⟩ : ∃ W1, W1 = (w1.alloc (.cells #[.string (nm 0), .bool true, .int .i64 1, .slice none 0 0] 71)).alloc (.cells #[.int .i64 0] 3) := ⟨_, rfl⟩
  rw [← hW1]
  have hbW : Below w1.heap.size w1 W1 := by rw [hW1]; exact below_alloc (below_alloc (Below.refl _ w1) _ (Nat.le_refl _)) _ (Nat.le_refl _)
  have hp1 : Blk W1 w1.heap.size #[.string (nm 0), .bool true, .int .i64 1, .slice none 0 0] 71 := by rw [hW1]; exact heap_old _ (heap_alloc_new w1 _)
  have hn1 : Blk W1 (w1.heap.size + 1) #[.int .i64 0] 3 := by
    rw [hW1]
    have := heap_alloc_new (w1.alloc (.cells #[.string (nm 0), .bool true, .int .i64 1, .slice none 0 0] 71)) (.cells #[.int .i64 0] 3)
    rwa [World.size_alloc] at this
  clear hW1
  refine (all_calls hp (nm 0) W1).mono ?_
  rintro e w3 ⟨rfl, hw3⟩
  have hb3 : Below W1.heap.size W1 w3 := by rw [hw3]; exact below_alloc (below_alloc (Below.refl _ W1) _ (Nat.le_refl _)) _ (Nat.le_refl _)
  have hh3 : w3.heap[W1.heap.size]? = some (.cells #[.pointer (some ⟨hp, 0, none⟩)] 31 (0, 0)) := by rw [hw3]; exact (Below.heap_alloc _ _ _ (by rw [World.size_alloc]; omega)).trans (heap_alloc_new W1 _)
  obtain ⟨h1, hb1⟩ := H1.out
  have H3 := Lib.hid (And.intro (h1.below (below_step hbW hb3)) (And.intro (below_step hb1 (below_step hbW hb3)) (And.intro (hp1.lay (AsLay.of_below hb3)) (And.intro (hn1.lay (AsLay.of_below hb3)) hh3))))
  clear hw3 hb3 hh3 h1 hb1 hbW hp1 hn1 H1
  go_wp2_with fail
  obtain ⟨h3, hb3, hp3, hn3, hh3⟩ := H3.out
  refine (wpIn_wide (n := 6)).1 ?_
  refine wpIn_rangeFunc_ownG (α := Empty) rfl (by omega) (gf := 31) (lb := #[.pointer (some ⟨W1.heap.size, 0, none⟩), .pointer (some ⟨W1.heap.size + 1, 0, none⟩)]) rfl trivial (enters_of Tryz.func31 (by kernel_rfl) rfl)
    (encs := fun x => x.elim) (Kp := fun _ _ => True) (S := fun ys => ys = []) (Sp := fun _ => True) (N := 0) (w0 := w3)
    (fun l J Jx W hW hJ _ _ h0 => all1_none (6 - 1) (by omega) l W1.heap.size hp dk mb c seed 5 0 ⟨W1.heap.size + 1, 0, none⟩ J Jx W ((blk_cell ((hW.block _ (blk_lt hh3)).trans hh3) 0).trans rfl) ((hW.block _ (blk_lt h3.hub)).trans h3.hub) ((hW.block _ (blk_lt h3.map)).trans h3.map) hJ h0)
    (fun _ _ => trivial) (fun _ _ _ _ _ _ _ _ => trivial) (Below.refl _ _) (fun x => x.elim)
    (fun _ W => Below w3.heap.size w3 W) (fun _ _ _ => False)
    (ownFrom_below (Nat.le_refl _) (Nat.le_refl _)) (fun _ _ _ _ _ hs _ _ => hs) (Below.refl _ _)
    (fun x => x.elim) (fun l x => x.elim) (fun l pre x => x.elim) ?done ?stop
  case stop =>
    rintro D c pre W _ _ h _
    exact h.elim
  case done =>
    rintro D ys W hD _ hB hK
    have l3 := AsLay.of_below hB
    have hW := h3.below hB
    have hpW := hp3.lay l3
    have hnW := hn3.lay l3
    have p0 := blk_cell hpW 0
    have p1 := blk_cell hpW 1
    have p2 := blk_cell hpW 2
    have p3 := blk_cell hpW 3
    have n0 := blk_cell hnW 0
    have g1 := blk_cell hW.hub 1
    have g2 := blk_cell hW.hub 2
    have g3 := blk_cell hW.hub 3
    have g4 := blk_cell hW.hub 4
    have hlen := fun ty => live_len hW.map ty
    simp only [List.getElem?_toArray, List.getElem?_cons_zero, List.getElem?_cons_succ] at p0 p1 p2 p3 n0 g1 g2 g3 g4
    have HW := Lib.hid (And.intro hW (And.intro (below_step hb3 hB) (And.intro hpW (And.intro hnW hK))))
    have zhW := blk_lt hW.hub
    clear hW hpW hnW l3 hB hK
    have zpW : w1.heap.size < W.heap.size := blk_lt HW.out.2.2.1
    have ku1 : IntKind.u64.wrap 1 = 1 := rfl
    go_wp2_with fail
    refine wp_region_noPanic ?_
    refine start_n (S := fun W => W.cell? ⟨w1.heap.size, 3, none⟩ = some (.slice none 0 0) ∧ W.cell? ⟨hp, 1, none⟩ = some (.int .u64 seed) ∧ W.cell? ⟨hp, 3, none⟩ = some (.int .i64 0) ∧ W.cell? ⟨hp, 2, none⟩ = some (.int .i64 5)) 25 #[false, false, false, false, false, false, false, false, false, false, false, false, false, false, false, false, false, false, false, false, false, false, false, false, false] (by kernel_rfl) rfl rfl ?_ (fun hHeld => ?_)
    · (try dsimp only)
      exact ⟨p3, g1, g3, g2⟩
    refine take_n 0 (some 50) #[true, false, false, false, false, false, false, false, false, false, false, false, false, false, false, false, false, false, false, false, false, false, false, false, false] (v := ?_) (a' := ?_) rfl rfl rfl (by kernel_rfl) (by kernel_rfl) (by kernel_rfl) (fun _ _ _ _ h => h) (Or.inl ⟨by rfl, ?_⟩) hHeld ?_ ?_
    rotate_left 2
    · intro w hSw
      (try dsimp only at hSw)
      go_simp
      all_goals (with_reducible rfl)
    · simp only [Act.put, List.setIfInBounds_toArray, List.set_cons_zero, List.set_cons_succ]
      rfl
    refine take_n 1 (some 51) #[true, true, false, false, false, false, false, false, false, false, false, false, false, false, false, false, false, false, false, false, false, false, false, false, false] (v := ?_) (a' := ?_) rfl rfl rfl (by kernel_rfl) (by kernel_rfl) (by kernel_rfl) (fun _ _ _ _ h => h) (Or.inl ⟨by rfl, ?_⟩) hHeld ?_ ?_
    rotate_left 2
    · intro w hSw
      (try dsimp only at hSw)
      go_simp
      all_goals (with_reducible rfl)
    · simp only [Act.put, List.setIfInBounds_toArray, List.set_cons_zero, List.set_cons_succ]
      rfl
    refine take_n 2 (some 52) #[true, true, true, false, false, false, false, false, false, false, false, false, false, false, false, false, false, false, false, false, false, false, false, false, false] (v := ?_) (a' := ?_) rfl rfl rfl (by kernel_rfl) (by kernel_rfl) (by kernel_rfl) (fun _ _ _ _ h => h) (Or.inl ⟨by rfl, ?_⟩) hHeld ?_ ?_
    rotate_left 2
    · intro w hSw
      (try dsimp only at hSw)
      go_simp
      all_goals (with_reducible rfl)
    · simp only [Act.put, List.setIfInBounds_toArray, List.set_cons_zero, List.set_cons_succ]
      rfl
    refine take_n 3 (some 53) #[true, true, true, true, false, false, false, false, false, false, false, false, false, false, false, false, false, false, false, false, false, false, false, false, false] (v := ?_) (a' := ?_) rfl rfl rfl (by kernel_rfl) (by kernel_rfl) (by kernel_rfl) (fun _ _ _ _ h => h) (Or.inl ⟨by rfl, ?_⟩) hHeld ?_ ?_
    rotate_left 2
    · intro w hSw
      (try dsimp only at hSw)
      go_simp
      all_goals (with_reducible rfl)
    · simp only [Act.put, List.setIfInBounds_toArray, List.set_cons_zero, List.set_cons_succ]
      rfl
    refine take_n 4 (some 54) #[true, true, true, true, true, false, false, false, false, false, false, false, false, false, false, false, false, false, false, false, false, false, false, false, false] (v := ?_) (a' := ?_) rfl rfl rfl (by kernel_rfl) (by kernel_rfl) (by kernel_rfl) (fun _ _ _ _ h => h) (Or.inl ⟨by rfl, ?_⟩) hHeld ?_ ?_
    rotate_left 2
    · intro w hSw
      (try dsimp only at hSw)
      go_simp
      all_goals (with_reducible rfl)
    · simp only [Act.put, List.setIfInBounds_toArray, List.set_cons_zero, List.set_cons_succ]
      rfl
    refine take_n 5 (some 55) #[true, true, true, true, true, true, false, false, false, false, false, false, false, false, false, false, false, false, false, false, false, false, false, false, false] (v := ?_) (a' := ?_) rfl rfl rfl (by kernel_rfl) (by kernel_rfl) (by kernel_rfl) (fun _ _ _ _ h => h) (Or.inl ⟨by rfl, ?_⟩) hHeld ?_ ?_
    rotate_left 2
    · intro w hSw
      (try dsimp only at hSw)
      go_simp
      all_goals (with_reducible rfl)
    · simp only [Act.put, List.setIfInBounds_toArray, List.set_cons_zero, List.set_cons_succ]
      rfl
    refine take_n 6 (some 56) #[true, true, true, true, true, true, true, false, false, false, false, false, false, false, false, false, false, false, false, false, false, false, false, false, false] (v := ?_) (a' := ?_) rfl rfl rfl (by kernel_rfl) (by kernel_rfl) (by kernel_rfl) (fun _ _ _ _ h => h) (Or.inl ⟨by rfl, ?_⟩) hHeld ?_ ?_
    rotate_left 2
    · intro w hSw
      (try dsimp only at hSw)
      go_simp
      all_goals (with_reducible rfl)
    · simp only [Act.put, List.setIfInBounds_toArray, List.set_cons_zero, List.set_cons_succ]
      rfl
    refine take_n 7 (some 57) #[true, true, true, true, true, true, true, true, false, false, false, false, false, false, false, false, false, false, false, false, false, false, false, false, false] (v := ?_) (a' := ?_) rfl rfl rfl (by kernel_rfl) (by kernel_rfl) (by kernel_rfl) (fun _ _ _ _ h => h) (Or.inl ⟨by rfl, ?_⟩) hHeld ?_ ?_
    rotate_left 2
    · intro w hSw
      (try dsimp only at hSw)
      go_simp
      all_goals (with_reducible rfl)
    · simp only [Act.put, List.setIfInBounds_toArray, List.set_cons_zero, List.set_cons_succ]
      rfl
    refine take_n 8 (some 58) #[true, true, true, true, true, true, true, true, true, false, false, false, false, false, false, false, false, false, false, false, false, false, false, false, false] (v := ?_) (a' := ?_) rfl rfl rfl (by kernel_rfl) (by kernel_rfl) (by kernel_rfl) (fun _ _ _ _ h => h) (Or.inl ⟨by rfl, ?_⟩) hHeld ?_ ?_
    rotate_left 2
    · intro w hSw
      (try dsimp only at hSw)
      go_simp
      all_goals (with_reducible rfl)
    · simp only [Act.put, List.setIfInBounds_toArray, List.set_cons_zero, List.set_cons_succ]
      rfl
    refine take_n 9 (some 59) #[true, true, true, true, true, true, true, true, true, true, false, false, false, false, false, false, false, false, false, false, false, false, false, false, false] (v := ?_) (a' := ?_) rfl rfl rfl (by kernel_rfl) (by kernel_rfl) (by kernel_rfl) (fun _ _ _ _ h => h) (Or.inl ⟨by rfl, ?_⟩) hHeld ?_ ?_
    rotate_left 2
    · intro w hSw
      (try dsimp only at hSw)
      go_simp
      all_goals (with_reducible rfl)
    · simp only [Act.put, List.setIfInBounds_toArray, List.set_cons_zero, List.set_cons_succ]
      rfl
    refine take_n 10 (some 60) #[true, true, true, true, true, true, true, true, true, true, true, false, false, false, false, false, false, false, false, false, false, false, false, false, false] (v := ?_) (a' := ?_) rfl rfl rfl (by kernel_rfl) (by kernel_rfl) (by kernel_rfl) (fun _ _ _ _ h => h) (Or.inl ⟨by rfl, ?_⟩) hHeld ?_ ?_
    rotate_left 2
    · intro w hSw
      (try dsimp only at hSw)
      go_simp
      all_goals (with_reducible rfl)
    · simp only [Act.put, List.setIfInBounds_toArray, List.set_cons_zero, List.set_cons_succ]
      rfl
    refine take_n 11 (some 61) #[true, true, true, true, true, true, true, true, true, true, true, true, false, false, false, false, false, false, false, false, false, false, false, false, false] (v := ?_) (a' := ?_) rfl rfl rfl (by kernel_rfl) (by kernel_rfl) (by kernel_rfl) (fun _ _ _ _ h => h) (Or.inl ⟨by rfl, ?_⟩) hHeld ?_ ?_
    rotate_left 2
    · intro w hSw
      (try dsimp only at hSw)
      go_simp
      all_goals (with_reducible rfl)
    · simp only [Act.put, List.setIfInBounds_toArray, List.set_cons_zero, List.set_cons_succ]
      rfl
    refine take_n 14 (some 64) #[true, true, true, true, true, true, true, true, true, true, true, true, false, false, true, false, false, false, false, false, false, false, false, false, false] (v := ?_) (a' := ?_) rfl rfl rfl (by kernel_rfl) (by kernel_rfl) (by kernel_rfl) (fun _ _ _ _ h => h) (Or.inl ⟨by rfl, ?_⟩) hHeld ?_ ?_
    rotate_left 2
    · intro w hSw
      (try dsimp only at hSw)
      go_simp
      all_goals (with_reducible rfl)
    · simp only [Act.put, List.setIfInBounds_toArray, List.set_cons_zero, List.set_cons_succ]
      rfl
    refine take_n 15 (some 65) #[true, true, true, true, true, true, true, true, true, true, true, true, false, false, true, true, false, false, false, false, false, false, false, false, false] (v := ?_) (a' := ?_) rfl rfl rfl (by kernel_rfl) (by kernel_rfl) (by kernel_rfl) (fun _ _ _ _ h => h) (Or.inl ⟨by rfl, ?_⟩) hHeld ?_ ?_
    rotate_left 2
    · intro w hSw
      (try dsimp only at hSw)
      go_simp
      all_goals (with_reducible rfl)
    · simp only [Act.put, List.setIfInBounds_toArray, List.set_cons_zero, List.set_cons_succ]
      rfl
    refine take_n 16 (some 66) #[true, true, true, true, true, true, true, true, true, true, true, true, false, false, true, true, true, false, false, false, false, false, false, false, false] (v := ?_) (a' := ?_) rfl rfl rfl (by kernel_rfl) (by kernel_rfl) (by kernel_rfl) (fun _ _ _ _ h => h) (Or.inl ⟨by rfl, ?_⟩) hHeld ?_ ?_
    rotate_left 2
    · intro w hSw
      (try dsimp only at hSw)
      go_simp
      all_goals (with_reducible rfl)
    · simp only [Act.put, List.setIfInBounds_toArray, List.set_cons_zero, List.set_cons_succ]
      rfl
    refine take_n 17 (some 67) #[true, true, true, true, true, true, true, true, true, true, true, true, false, false, true, true, true, true, false, false, false, false, false, false, false] (v := ?_) (a' := ?_) rfl rfl rfl (by kernel_rfl) (by kernel_rfl) (by kernel_rfl) (fun _ _ _ _ h => h) (Or.inl ⟨by rfl, ?_⟩) hHeld ?_ ?_
    rotate_left 2
    · intro w hSw
      (try dsimp only at hSw)
      go_simp
      all_goals (with_reducible rfl)
    · simp only [Act.put, List.setIfInBounds_toArray, List.set_cons_zero, List.set_cons_succ]
      rfl
    refine take_n 18 (some 68) #[true, true, true, true, true, true, true, true, true, true, true, true, false, false, true, true, true, true, true, false, false, false, false, false, false] (v := ?_) (a' := ?_) rfl rfl rfl (by kernel_rfl) (by kernel_rfl) (by kernel_rfl) (fun _ _ _ _ h => h) (Or.inl ⟨by rfl, ?_⟩) hHeld ?_ ?_
    rotate_left 2
    · intro w hSw
      (try dsimp only at hSw)
      go_simp
      all_goals (with_reducible rfl)
    · simp only [Act.put, List.setIfInBounds_toArray, List.set_cons_zero, List.set_cons_succ]
      rfl
    refine one_n 12 #[true, true, true, true, true, true, true, true, true, true, true, true, true, false, true, true, true, true, true, false, false, false, false, false, false] rfl rfl (by kernel_rfl) (fun K hK => ?_)
    go_simp
    refine hK.out _ ?_ _ ?_ ?_ (fun hHeld => ?_)
    rotate_left
    · (try simp only [Act.put, List.setIfInBounds_toArray, List.set_cons_zero, List.set_cons_succ])
      rfl
    · (try dsimp only)
      go_keep
    clear hK K
    refine one_n 13 #[true, true, true, true, true, true, true, true, true, true, true, true, true, true, true, true, true, true, true, false, false, false, false, false, false] rfl rfl (by kernel_rfl) (fun K hK => ?_)
    go_simp
    refine (stream_calls seed 1 W.heap.size _ ((blk_cell (heap_alloc_new W.drew _) 0).trans rfl)).mono ?_
    rintro e w4 ⟨⟨m4, rfl⟩, hw4⟩
    have hb4 : Below W.heap.size W w4 := by rw [← hw4]; exact below_drew (below_alloc (Below.refl _ W.drew) _ (Nat.le_refl _))
    have zp4 : w1.heap.size < w4.heap.size := Nat.lt_of_lt_of_le zpW hb4.size
    have zh4 : hp < w4.heap.size := Nat.lt_of_lt_of_le zhW hb4.size
    have HB4 := Lib.hid hb4
    clear hb4
    refine hK.out _ ?_ _ ?_ ?_ (fun hHeld => ?_)
    rotate_left
    · (try simp only [Act.put, List.setIfInBounds_toArray, List.set_cons_zero, List.set_cons_succ])
      rfl
    · (try dsimp only)
      rw [← hw4]
      exact hHeld
    clear hK K
    refine one_n 19 #[true, true, true, true, true, true, true, true, true, true, true, true, true, true, true, true, true, true, true, true, false, false, false, false, false] rfl rfl (by kernel_rfl) (fun K hK => ?_)
    go_simp
    refine (conn_new none 0 _ _).mono ?_
    rintro e w5 ⟨cn, lk0, lk1, i0, i1, s0, s1, rfl, hge5, hlk5, hG5, hC5, hz5, hy5, hb5⟩
    have H5 := Lib.hid (And.intro (And.intro hlk5 hG5) (And.intro hC5 (And.intro hz5 (And.intro hy5 (below_step HB4.out hb5)))))
    clear hge5 hlk5 hG5 hC5 hz5 hy5
    refine hK.out _ ?_ _ ?_ ?_ (fun hHeld => ?_)
    rotate_left
    · (try simp only [Act.put, List.setIfInBounds_toArray, List.set_cons_zero, List.set_cons_succ])
      rfl
    · (try dsimp only)
      exact ⟨(hb5.cell (p := ⟨w1.heap.size, 3, none⟩) zp4).trans hHeld.1, (hb5.cell (p := ⟨hp, 1, none⟩) zh4).trans hHeld.2.1, (hb5.cell (p := ⟨hp, 3, none⟩) zh4).trans hHeld.2.2.1, (hb5.cell (p := ⟨hp, 2, none⟩) zh4).trans hHeld.2.2.2⟩
    clear hK K
    refine take_n 20 (some 49) #[true, true, true, true, true, true, true, true, true, true, true, true, true, true, true, true, true, true, true, true, true, false, false, false, false] (v := ?_) (a' := ?_) rfl rfl rfl (by kernel_rfl) (by kernel_rfl) (by kernel_rfl) (fun _ _ _ _ h => h) (Or.inl ⟨by rfl, ?_⟩) hHeld ?_ ?_
    rotate_left 2
    · intro w hSw
      (try dsimp only at hSw)
      go_simp
      all_goals (with_reducible rfl)
    · simp only [Act.put, List.setIfInBounds_toArray, List.set_cons_zero, List.set_cons_succ]
      rfl
    refine take_n 21 (some 70) #[true, true, true, true, true, true, true, true, true, true, true, true, true, true, true, true, true, true, true, true, true, true, false, false, false] (v := ?_) (a' := ?_) rfl rfl rfl (by kernel_rfl) (by kernel_rfl) (by kernel_rfl) (fun _ _ _ _ h => h) (Or.inl ⟨by rfl, ?_⟩) hHeld ?_ ?_
    rotate_left 2
    · intro w hSw
      (try dsimp only at hSw)
      go_simp
      all_goals (with_reducible rfl)
    · simp only [Act.put, List.setIfInBounds_toArray, List.set_cons_zero, List.set_cons_succ]
      rfl
    refine take_n 22 (some 71) #[true, true, true, true, true, true, true, true, true, true, true, true, true, true, true, true, true, true, true, true, true, true, true, false, false] (v := ?_) (a' := ?_) rfl rfl rfl (by kernel_rfl) (by kernel_rfl) (by kernel_rfl) (fun _ _ _ _ h => h) (Or.inl ⟨by rfl, ?_⟩) hHeld ?_ ?_
    rotate_left 2
    · intro w hSw
      (try dsimp only at hSw)
      go_simp
      all_goals (with_reducible rfl)
    · simp only [Act.put, List.setIfInBounds_toArray, List.set_cons_zero, List.set_cons_succ]
      rfl
    refine take_n 23 (some 11) #[true, true, true, true, true, true, true, true, true, true, true, true, true, true, true, true, true, true, true, true, true, true, true, true, false] (v := ?_) (a' := ?_) rfl rfl rfl (by kernel_rfl) (by kernel_rfl) (by kernel_rfl) (fun _ _ _ _ h => h) (Or.inl ⟨by rfl, ?_⟩) hHeld ?_ ?_
    rotate_left 2
    · intro w hSw
      (try dsimp only at hSw)
      go_simp
      all_goals (with_reducible rfl)
    · simp only [Act.put, List.setIfInBounds_toArray, List.set_cons_zero, List.set_cons_succ]
      rfl
    refine take_n 24 (some 12) #[true, true, true, true, true, true, true, true, true, true, true, true, true, true, true, true, true, true, true, true, true, true, true, true, true] (v := ?_) (a' := ?_) rfl rfl rfl (by kernel_rfl) (by kernel_rfl) (by kernel_rfl) (fun _ _ _ _ h => h) (Or.inl ⟨by rfl, ?_⟩) hHeld ?_ ?_
    rotate_left 2
    · intro w hSw
      (try dsimp only at hSw)
      go_simp
      all_goals (with_reducible rfl)
    · simp only [Act.put, List.setIfInBounds_toArray, List.set_cons_zero, List.set_cons_succ]
      rfl
    refine wpAnyH_done (by kernel_rfl) ?_ _
    refine NoPanic.normal ?_
    clear hHeld hb5 hw4 hlen p0 p1 p2 p3 n0 g1 g2 g3 g4
    obtain ⟨hge5, hC5, hz5, hy5, hb5⟩ := H5.out
    obtain ⟨hW, hwW, _, _, hK⟩ := HW.out
    have h5 := hW.below hb5
    have hK5 := (hb5.block D (blk_lt hK)).trans hK
    have g3 := blk_cell h5.hub 3
    have fz := blk_frozen h5.hub 3
    simp only [List.getElem?_toArray, List.getElem?_cons_zero, List.getElem?_cons_succ] at g3
    have kw1 : IntKind.i64.wrap 1 = 1 := rfl
    have zh5 := blk_lt h5.hub
    have hmh : mb ≠ hp := by
      rintro rfl
      have e1 := h5.hub
      unfold HubIn at e1
      rw [h5.map] at e1
      injection e1 with e2
      cases e2
    have hDh : D ≠ hp := by have := blk_lt h3.hub; omega
    have hDm : D ≠ mb := by have := blk_lt h3.map; omega
    obtain ⟨W6, hW6⟩ : ∃ W6, W6 = w5.setCell ⟨hp, 3, none⟩ (.int .i64 1) := ⟨_, rfl⟩
    have hf6 : Fr (fun b => b = hp) w5 W6 := by rw [hW6]; exact set_fr _ _ _ _
    have hub6 : HubIn W6 hp dk seed 5 1 mb := by rw [hW6]; exact blk_set h5.hub 3 _
    have map6 : W6.heap[mb]? = some (.map #[] c) := (hf6.block mb (blk_lt h5.map) hmh).trans h5.map
    have t6 : AsLayT 63 w5 W6 := by rw [hW6]; exact .set h5.hub 3 _
    obtain ⟨w7, hrun, map7, hf7⟩ := live_put (.agg #[.pointer (some ⟨cn, 0, none⟩), .string (nm 0)]) (show W6.drew.heap[mb]? = some (.map #[] c) from map6)
    have hf7 : Fr (fun b => b = mb) W6 w7 := ⟨hf7.os, hf7.tape, hf7.output, hf7.size, hf7.block⟩
    have hub7 : HubIn w7 hp dk seed 5 1 mb := (hf7.block hp (blk_lt hub6) (Ne.symm hmh)).trans hub6
    have hK7 := (hf7.block D (blk_lt ((hf6.block D (blk_lt hK5) hDh).trans hK5)) hDm).trans ((hf6.block D (blk_lt hK5) hDh).trans hK5)
    have t7 : AsLayT 63 w5 w7 := fun b cs t ht hb => (hf7.block b (blk_lt (t6 b cs t ht hb)) (by
      rintro rfl
      have e1 := t6 b cs t ht hb
      unfold Blk at e1
      rw [map6] at e1
      injection e1 with e2
      cases e2)).trans (t6 b cs t ht hb)
    have u3 := blk_cell hub6 3
    have u4 := blk_cell hub6 4
    have v3 := blk_cell hub7 3
    have v4 := blk_cell hub7 4
    simp only [List.getElem?_toArray, List.getElem?_cons_zero, List.getElem?_cons_succ] at u3 u4 v3 v4
    have h4w : w.heap.size ≤ w4.heap.size := Nat.le_trans hwW.size HB4.out.size
    have HGE := Lib.hid (And.intro (Nat.le_trans h4w hge5.1) (hge5.2.mono h4w))
    clear h4w
    have HF := Lib.hid (And.intro hwW (And.intro hb5 (And.intro hf6 (And.intro hf7 (And.intro hub7 (And.intro map7 (And.intro t7 (And.intro hC5 (And.intro hz5 (And.intro hy5 hK7))))))))))
    have HW6 := Lib.hid hW6
    clear hge5 hC5 hz5 hy5 hb5 hW hwW h5 hK5 hf6 hub6 map6 t6 map7 hf7 hub7 t7 hmh hK7 hW6
    go_wp2_with fail
    rw [← HW6.out]
    clear HW6 g3 fz
    refine wp_region_noPanic ?_
    refine start_n (S := fun W => W.cell? ⟨hp, 4, none⟩ = some (.map (some mb)) ∧ W.cell? ⟨hp, 3, none⟩ = some (.int .i64 1)) 12 #[false, false, false, false, false, false, false, false, false, false, false, false] (by kernel_rfl) rfl rfl ?_ (fun hHeld => ?_)
    · (try dsimp only)
      exact ⟨u4, u3⟩
    refine take_n 0 (some 82) #[true, false, false, false, false, false, false, false, false, false, false, false] (v := ?_) (a' := ?_) rfl rfl rfl (by kernel_rfl) (by kernel_rfl) (by kernel_rfl) (fun _ _ _ _ h => h) (Or.inl ⟨by rfl, ?_⟩) hHeld ?_ ?_
    rotate_left 2
    · intro w hSw
      (try dsimp only at hSw)
      go_simp
      all_goals (with_reducible rfl)
    · simp only [Act.put, List.setIfInBounds_toArray, List.set_cons_zero, List.set_cons_succ]
      rfl
    refine take_n 1 (some 83) #[true, true, false, false, false, false, false, false, false, false, false, false] (v := ?_) (a' := ?_) rfl rfl rfl (by kernel_rfl) (by kernel_rfl) (by kernel_rfl) (fun _ _ _ _ h => h) (Or.inl ⟨by rfl, ?_⟩) hHeld ?_ ?_
    rotate_left 2
    · intro w hSw
      (try dsimp only at hSw)
      go_simp
      all_goals (with_reducible rfl)
    · simp only [Act.put, List.setIfInBounds_toArray, List.set_cons_zero, List.set_cons_succ]
      rfl
    refine take_n 2 (some 84) #[true, true, true, false, false, false, false, false, false, false, false, false] (v := ?_) (a' := ?_) rfl rfl rfl (by kernel_rfl) (by kernel_rfl) (by kernel_rfl) (fun _ _ _ _ h => h) (Or.inl ⟨by rfl, ?_⟩) hHeld ?_ ?_
    rotate_left 2
    · intro w hSw
      (try dsimp only at hSw)
      go_simp
      all_goals (with_reducible rfl)
    · simp only [Act.put, List.setIfInBounds_toArray, List.set_cons_zero, List.set_cons_succ]
      rfl
    refine take_n 3 (some 85) #[true, true, true, true, false, false, false, false, false, false, false, false] (v := ?_) (a' := ?_) rfl rfl rfl (by kernel_rfl) (by kernel_rfl) (by kernel_rfl) (fun _ _ _ _ h => h) (Or.inl ⟨by rfl, ?_⟩) hHeld ?_ ?_
    rotate_left 2
    · intro w hSw
      (try dsimp only at hSw)
      go_simp
      all_goals (with_reducible rfl)
    · simp only [Act.put, List.setIfInBounds_toArray, List.set_cons_zero, List.set_cons_succ]
      rfl
    refine take_n 4 (some 86) #[true, true, true, true, true, false, false, false, false, false, false, false] (v := ?_) (a' := ?_) rfl rfl rfl (by kernel_rfl) (by kernel_rfl) (by kernel_rfl) (fun _ _ _ _ h => h) (Or.inl ⟨by rfl, ?_⟩) hHeld ?_ ?_
    rotate_left 2
    · intro w hSw
      (try dsimp only at hSw)
      go_simp
      all_goals (with_reducible rfl)
    · simp only [Act.put, List.setIfInBounds_toArray, List.set_cons_zero, List.set_cons_succ]
      rfl
    refine take_n 5 (some 87) #[true, true, true, true, true, true, false, false, false, false, false, false] (v := ?_) (a' := ?_) rfl rfl rfl (by kernel_rfl) (by kernel_rfl) (by kernel_rfl) (fun _ _ _ _ h => h) (Or.inl ⟨by rfl, ?_⟩) hHeld ?_ ?_
    rotate_left 2
    · intro w hSw
      (try dsimp only at hSw)
      go_simp
      all_goals (with_reducible rfl)
    · simp only [Act.put, List.setIfInBounds_toArray, List.set_cons_zero, List.set_cons_succ]
      rfl
    refine take_n 6 (some 88) #[true, true, true, true, true, true, true, false, false, false, false, false] (v := ?_) (a' := ?_) rfl rfl rfl (by kernel_rfl) (by kernel_rfl) (by kernel_rfl) (fun _ _ _ _ h => h) (Or.inl ⟨by rfl, ?_⟩) hHeld ?_ ?_
    rotate_left 2
    · intro w hSw
      (try dsimp only at hSw)
      go_simp
      all_goals (with_reducible rfl)
    · simp only [Act.put, List.setIfInBounds_toArray, List.set_cons_zero, List.set_cons_succ]
      rfl
    refine take_n 7 (some 89) #[true, true, true, true, true, true, true, true, false, false, false, false] (v := ?_) (a' := ?_) rfl rfl rfl (by kernel_rfl) (by kernel_rfl) (by kernel_rfl) (fun _ _ _ _ h => h) (Or.inl ⟨by rfl, ?_⟩) hHeld ?_ ?_
    rotate_left 2
    · intro w hSw
      (try dsimp only at hSw)
      go_simp
      all_goals (with_reducible rfl)
    · simp only [Act.put, List.setIfInBounds_toArray, List.set_cons_zero, List.set_cons_succ]
      rfl
    refine take_n 8 (some 90) #[true, true, true, true, true, true, true, true, true, false, false, false] (v := ?_) (a' := ?_) rfl rfl rfl (by kernel_rfl) (by kernel_rfl) (by kernel_rfl) (fun _ _ _ _ h => h) (Or.inl ⟨by rfl, ?_⟩) hHeld ?_ ?_
    rotate_left 2
    · intro w hSw
      (try dsimp only at hSw)
      go_simp
      all_goals (with_reducible rfl)
    · simp only [Act.put, List.setIfInBounds_toArray, List.set_cons_zero, List.set_cons_succ]
      rfl
    refine take_n 9 (some 91) #[true, true, true, true, true, true, true, true, true, true, false, false] (v := ?_) (a' := ?_) rfl rfl rfl (by kernel_rfl) (by kernel_rfl) (by kernel_rfl) (fun _ _ _ _ h => h) (Or.inl ⟨by rfl, ?_⟩) hHeld ?_ ?_
    rotate_left 2
    · intro w hSw
      (try dsimp only at hSw)
      go_simp
      all_goals (with_reducible rfl)
    · simp only [Act.put, List.setIfInBounds_toArray, List.set_cons_zero, List.set_cons_succ]
      rfl
    refine take_n 10 (some 92) #[true, true, true, true, true, true, true, true, true, true, true, false] (v := ?_) (a' := ?_) rfl rfl rfl (by kernel_rfl) (by kernel_rfl) (by kernel_rfl) (fun _ _ _ _ h => h) (Or.inl ⟨by rfl, ?_⟩) hHeld ?_ ?_
    rotate_left 2
    · intro w hSw
      (try dsimp only at hSw)
      go_simp
      all_goals (with_reducible rfl)
    · simp only [Act.put, List.setIfInBounds_toArray, List.set_cons_zero, List.set_cons_succ]
      rfl
    refine one_n 11 #[true, true, true, true, true, true, true, true, true, true, true, true] rfl rfl (by kernel_rfl) (fun K hK => ?_)
    go_simp
    refine hK.out _ ?_ _ ?_ ?_ (fun hHeld => ?_)
    rotate_left
    · (try simp only [Act.put, List.setIfInBounds_toArray, List.set_cons_zero, List.set_cons_succ])
      rfl
    · (try dsimp only)
      exact ⟨v4, v3⟩
    clear hK K
    refine wpAnyH_done (by kernel_rfl) ?_ _
    refine NoPanic.normal ?_
    clear hHeld
    go_wp2_with fail
    obtain ⟨hwW, hb5, hf6, hf7, hub7, map7, t7, hC5, hz5, hy5, hK7⟩ := HF.out
    refine ⟨by simp, .inl ⟨_, _, rfl, run_takeDeferred hK7, ?_⟩⟩
    have hal : AsLay w7 (w7.putObj D (.deferred none)) := AsLay.of_grown (grownBy_putObj' w7 D _) (fun r e => by cases e; exact ⟨_, hK7, rfl⟩)
    have e1 : w.heap.size ≤ D := Nat.le_trans hb3.size hD
    have g7 : Fr (fun b => b = hp ∨ b = mb) w w7 := (((Fr.of_below (X := fun b => b = hp ∨ b = mb) hwW).then_below hb5).trans hf6 (fun _ e => e) (fun _ _ e => .inl e)).trans hf7 (fun _ e => e) (fun _ _ e => .inr e)
    exact ⟨_, results_tmp2 rfl _ _ _, cn, lk0, lk1, i0, i1, s0, s1, rfl, HGE.out.1, HGE.out.2, ⟨hal _ _ _ hub7, (World.putObj_heap_other (w := w7) (o := .deferred none) (r := D) (k := mb) (Ne.symm hDm)).trans map7⟩, (hC5.layT t7 (by decide) (by decide) (by decide) (by decide) (by decide) (by decide) (by decide) (by decide)).lay hal, hal _ _ _ (t7 _ _ _ (by decide) hz5), hal _ _ _ (t7 _ _ _ (by decide) hy5), Fr.grown g7 (grownBy_putObj' w7 D _) (fun r e => by cases e; exact e1)⟩
end Go.Proofs.YtdpfmemcpipbkaaGreatDoor.Hand
end
section
/- hub.Send to the one connection. -/
namespace Go.Proofs.YtdpfmemcpipbkaaGreatDoor.Hand
open Go.RowKit
set_option linter.unusedVariables false
set_option linter.unusedSimpArgs false
theorem live_look {w : World} {b c cn : Nat} (hb : w.heap[b]? = some (.map #[⟨.int .i64 1, .agg #[.pointer (some ⟨cn, 0, none⟩), .string (nm 0)], c⟩] (c + 1))) : (Instr.lookup 61 (.map (some b)) (.int .i64 1) true).run Tryz.prog w = .ok (.tuple #[.agg #[.pointer (some ⟨cn, 0, none⟩), .string (nm 0)], .bool true]) w := by
  simp [Instr.lookup, run_underlying Tryz.underlying61, MapKept.run_getObj_map hb, MapKept.run_checkKey (k := .int .i64 1) Tryz.underlying3 (show MapKept.IsKey (.int .i64) (.int .i64 1) from rfl), MapKept.run_findKey (l := [⟨.int .i64 1, .agg #[.pointer (some ⟨cn, 0, none⟩), .string (nm 0)], c⟩]) Tryz.underlying3 (show Instr.findNow (.int .i64) (.int .i64 1) [⟨.int .i64 1, .agg #[.pointer (some ⟨cn, 0, none⟩), .string (nm 0)], c⟩] 0 = some (some (0, .agg #[.pointer (some ⟨cn, 0, none⟩), .string (nm 0)])) from rfl), Result.andThen]
theorem live_look0 {w : World} {b c cn : Nat} (hb : w.heap[b]? = some (.map #[⟨.int .i64 1, .agg #[.pointer (some ⟨cn, 0, none⟩), .string (nm 0)], c⟩] (c + 1))) : (Instr.lookup 61 (.map (some b)) (.int .i64 1) false).run Tryz.prog w = .ok (.agg #[.pointer (some ⟨cn, 0, none⟩), .string (nm 0)]) w := by
  simp [Instr.lookup, run_underlying Tryz.underlying61, MapKept.run_getObj_map hb, MapKept.run_checkKey (k := .int .i64 1) Tryz.underlying3 (show MapKept.IsKey (.int .i64) (.int .i64 1) from rfl), MapKept.run_findKey (l := [⟨.int .i64 1, .agg #[.pointer (some ⟨cn, 0, none⟩), .string (nm 0)], c⟩]) Tryz.underlying3 (show Instr.findNow (.int .i64) (.int .i64 1) [⟨.int .i64 1, .agg #[.pointer (some ⟨cn, 0, none⟩), .string (nm 0)], c⟩] 0 = some (some (0, .agg #[.pointer (some ⟨cn, 0, none⟩), .string (nm 0)])) from rfl), Result.andThen]
theorem ConnAt.blk {w : World} {cn lk0 lk1 : Nat} {i0 i1 : CI} {s0 s1 sent got q0 q1 : Int} {k0 k1 r : Nat} (h : ConnAt w cn lk0 lk1 i0 i1 s0 s1 sent got q0 q1 k0 k1) (hy : YS i0 lk0 w r) : ∃ cs t, Blk w r cs t := by
  rcases hy with rfl | rfl | hx
  · exact ⟨_, _, h.link0⟩
  · exact ⟨_, _, h.ch0.st1⟩
  · obtain ⟨cs, t, hb, _⟩ := hx.ofStage h.ch0
    exact ⟨cs, t, hb⟩
theorem map_noblk {w : World} {mb : Nat} {es : Array MapEntry} {c : Nat} (hm : w.heap[mb]? = some (.map es c)) : ¬ ∃ cs t, Blk w mb cs t := by
  rintro ⟨cs, t, hb⟩
  unfold Blk at hb
  rw [hm] at hb
  injection hb with e
  cases e
theorem HubOne.step {w w' : World} {hp dk : Nat} {seed room : Int} {mb c cn lk0 lk1 : Nat} {i0 i1 : CI} {s0 s1 sent got q0 q1 : Int} {k0 k1 : Nat} (h : HubOne w hp dk seed room mb c cn) (hc : ConnAt w cn lk0 lk1 i0 i1 s0 s1 sent got q0 q1 k0 k1) (hf : Fr (YS i0 lk0 w) w w') : HubOne w' hp dk seed room mb c cn :=
  ⟨Blk.fr h.hub hf (YS.not h.hub hc.link0 hc.ch0 (by decide) (by decide) (by decide) (by decide)), (hf.block mb (blk_lt h.map) (fun e => map_noblk h.map (hc.blk e))).trans h.map⟩
theorem HubOne.below {w w' : World} {hp dk : Nat} {seed room : Int} {mb c cn : Nat} (h : HubOne w hp dk seed room mb c cn) (hb : Below w.heap.size w w') : HubOne w' hp dk seed room mb c cn :=
  ⟨(hb.block _ (blk_lt h.hub)).trans h.hub, (hb.block _ (blk_lt h.map)).trans h.map⟩
set_option maxHeartbeats 8000000 in
set_option maxRecDepth 100000 in
theorem hub_send (hp dk mb c cn lk0 lk1 : Nat) (seed : Int) (i0 i1 : CI) (s0 s1 : Int) (g o gc : Nat) (hgc : 1 ≤ gc) (w : World) (hh : HubOne w hp dk seed 5 mb c cn) (h : ConnAt w cn lk0 lk1 i0 i1 s0 s1 0 0 0 0 0 0) (hc : CargoIn w i0.c0 (.slice none 0 0)) (hd : CargoIn w i0.c1 (.slice none 0 0)) (hb : ByteIn w g o) (hg : g < w.heap.size) : Calls Tryz.prog 10 #[.pointer (some ⟨hp, 0, none⟩), .int .i64 0, .int .i64 1, .int .i64 0, .slice (some ⟨g, o, none⟩) 1 gc] w fun e w' => e = .returned (.int .i64 1) ∧ HubOne w' hp dk seed 5 mb c cn ∧ ConnAt w' cn lk0 lk1 i0 i1 s0 s1 1 0 0 0 1 0 ∧ CargoIn w' i0.c1 (.slice none 0 0) ∧ Fr (YS i0 lk0 w) w w' := by
  obtain ⟨wq, hwq⟩ : ∃ wq, wq = w.alloc (.cells #[.pointer (some ⟨cn, 0, none⟩), .string (nm 0)] 81) := ⟨_, rfl⟩
  have hbq : Below w.heap.size w wq := by rw [hwq]; exact below_alloc (Below.refl _ w) _ (Nat.le_refl _)
  have lq := AsLay.of_below hbq
  have HS := Lib.hid (conn_send cn lk0 lk1 i0 i1 s0 s1 g o gc hgc wq (h.lay lq) (hc.lay lq) (hd.lay lq) (hb.below hg hbq) (Nat.lt_of_lt_of_le hg hbq.size))
  have hk := live_look hh.map
  have a4 := blk_cell hh.hub 4
  simp only [List.getElem?_toArray, List.getElem?_cons_zero, List.getElem?_cons_succ] at a4
  have H := Lib.hid (And.intro hh (And.intro h (And.intro hbq (And.intro hb hg))))
  have HWQ := Lib.hid hwq
  clear hh h hc hd hb hwq hbq lq
  go_enter Tryz.func10, Tryz.ntmps10
  go_wp2_with fail
  rw [← HWQ.out]
  refine HS.out.mono ?_
  rintro e w2 ⟨rfl, hC2, hd2, hf2⟩
  have H2 := Lib.hid (And.intro hC2 (And.intro hd2 hf2))
  clear hC2 hd2 hf2
  go_wp2_with fail
  go_ret
  obtain ⟨hh, h, hbq, hb, hg⟩ := H.out
  obtain ⟨hC2, hd2, hf2⟩ := H2.out
  have lq := AsLay.of_below hbq
  refine ⟨rfl, (hh.below hbq).step (h.lay lq) hf2, hC2, hd2, (Fr.of_below (X := fun _ => False) hbq).trans hf2 (fun _ e => e.elim) (fun r hr e => e.back (Fr.of_below (X := fun _ => False) hbq) hr (fun e => e))⟩
end Go.Proofs.YtdpfmemcpipbkaaGreatDoor.Hand
end
