/- order.FromWords of the words of the law's lines. -/
import Derived.Test.YtdpfmemcpipbkaaGreatDoorZVerb
section
namespace Go.Proofs.YtdpfmemcpipbkaaGreatDoor.Hand
open Go.RowKit
set_option linter.unusedVariables false
set_option linter.unusedSimpArgs false
set_option maxHeartbeats 4000000 in
set_option maxRecDepth 100000 in
theorem nothing_calls (p : Addr) (u : Value) (w : World) : Calls Tryz.prog 47 #[.pointer (some p), u] w fun e w' => e = .returned (.int .i64 0) ∧ w = w' := by
  go_enter Tryz.func47, Tryz.ntmps47
  go_wp2_with fail
  go_ret
  exact ⟨rfl, rfl⟩
set_option maxHeartbeats 4000000 in
set_option maxRecDepth 100000 in
theorem number_calls (p g o c : Nat) (m : Int) (q : ByteArray) (hm : m = 3 ∧ q = ⟨#[51]⟩ ∨ m = 1 ∧ q = ⟨#[49]⟩) (w : World) (hq : w.cell? ⟨g, o, none⟩ = some (.string q)) (hg : g < w.heap.size) (hp : p < w.heap.size) (h3 : w.cell? ⟨p, 3, none⟩ = some (.int .i64 0)) (hz : w.frozen? ⟨p, 3, none⟩ = false) : Calls Tryz.prog 48 #[.pointer (some ⟨p, 0, none⟩), .slice (some ⟨g, o, none⟩) 1 c] w fun e w' => e = .returned (.int .i64 0) ∧ ∃ w1, Below w.heap.size w w1 ∧ w' = w1.setCell ⟨p, 3, none⟩ (.int .i64 m) := by
  have hP : Calls Tryz.prog 76 #[.string q] w fun e w' => e = .returned (.tuple #[.int .i64 m, .int .i64 0]) ∧ Below w.heap.size w w' := by
    rcases hm with ⟨rfl, rfl⟩ | ⟨rfl, rfl⟩
    · exact parse_3 w
    · exact parse_1 w
  clear hm
  go_enter Tryz.func48, Tryz.ntmps48
  go_wp2_with fail
  refine hP.mono ?_
  rintro e w1 ⟨rfl, hb⟩
  have h31 := (hb.cell (p := ⟨p, 3, none⟩) hp).trans h3
  have hz1 : w1.frozen? ⟨p, 3, none⟩ = false := (World.frozen?_of_block (hb.block _ hp)).trans hz
  go_wp2_with fail
  go_ret
  exact ⟨rfl, w1, hb, rfl⟩
theorem heap_setCell_ne (w : World) (a : Addr) (v : Value) (i : Nat) (h : i ≠ a.block) : (w.setCell a v).heap[i]? = w.heap[i]? := by
  simp [World.setCell, Array.getElem?_modify, Ne.symm h]
def setOrd (w : World) (b : Nat) (v : Int) (s : ByteArray) (m : Int) : World := ((((((((((w.setCell ⟨b, 0, none⟩ (.int .i64 v)).setCell ⟨b, 1, none⟩ (.string s)).setCell ⟨b, 2, none⟩ (.string ⟨#[]⟩)).setCell ⟨b, 3, none⟩ (.int .i64 m)).setCell ⟨b, 4, none⟩ (.string ⟨#[]⟩)).setCell ⟨b, 5, none⟩ (.int .i64 0)).setCell ⟨b, 6, none⟩ (.bool false)).setCell ⟨b, 7, none⟩ (.int .i64 0)).setCell ⟨b, 8, none⟩ (.int .i64 0)).setCell ⟨b, 9, none⟩ (.int .i64 0))
theorem ord_below {w0 w : World} {B : Nat} (h : Below B w0 w) (v : Int) (s : ByteArray) (m : Int) (b : Nat) (hb : B ≤ b) : Below B w0 (setOrd w b v s m) := by
  unfold setOrd
  exact (Below.setCell (Below.setCell (Below.setCell (Below.setCell (Below.setCell (Below.setCell (Below.setCell (Below.setCell (Below.setCell (Below.setCell h (by show B ≤ b; omega) (.int .i64 v)) (by show B ≤ b; omega) (.string s)) (by show B ≤ b; omega) (.string ⟨#[]⟩)) (by show B ≤ b; omega) (.int .i64 m)) (by show B ≤ b; omega) (.string ⟨#[]⟩)) (by show B ≤ b; omega) (.int .i64 0)) (by show B ≤ b; omega) (.bool false)) (by show B ≤ b; omega) (.int .i64 0)) (by show B ≤ b; omega) (.int .i64 0)) (by show B ≤ b; omega) (.int .i64 0))
theorem ord_set {w : World} {b : Nat} (h : w.heap[b]? = some (.cells (ordC 0 ⟨#[]⟩ 0) 57 (0, 0))) (v : Int) (s : ByteArray) (m : Int) : (setOrd w b v s m).heap[b]? = some (.cells (ordC v s m) 57 (0, 0)) := by
  unfold setOrd
  refine (blk_set (blk_set (blk_set (blk_set (blk_set (blk_set (blk_set (blk_set (blk_set (blk_set h 0 (.int .i64 v)) 1 (.string s)) 2 (.string ⟨#[]⟩)) 3 (.int .i64 m)) 4 (.string ⟨#[]⟩)) 5 (.int .i64 0)) 6 (.bool false)) 7 (.int .i64 0)) 8 (.int .i64 0)) 9 (.int .i64 0)).trans ?_
  simp [ordC]
set_option maxHeartbeats 4000000 in
set_option maxRecDepth 100000 in
theorem ord_result {w : World} {b : Nat} {t : Array Value} {v : Int} {s : ByteArray} {m : Int} (h : w.heap[b]? = some (.cells (ordC v s m) 57 (0, 0))) (h2 : t[2]?.getD undef = .pointer (some ⟨b, 0, none⟩)) (h3 : t[3]?.getD undef = .int .i64 0) : (results Tryz.f25 t).run Tryz.prog w = .ok (.tuple #[.agg (ordC v s m), .int .i64 0]) w := by
  have o0 := blk_cell h 0
  have o1 := blk_cell h 1
  have o2 := blk_cell h 2
  have o3 := blk_cell h 3
  have o4 := blk_cell h 4
  have o5 := blk_cell h 5
  have o6 := blk_cell h 6
  have o7 := blk_cell h 7
  have o8 := blk_cell h 8
  have o9 := blk_cell h 9
  simp only [ordC, List.getElem?_toArray, List.getElem?_cons_zero, List.getElem?_cons_succ] at o0 o1 o2 o3 o4 o5 o6 o7 o8 o9
  unfold ordC
  simp [results, Tryz.results25, go_sem, h2, h3, o0, o1, o2, o3, o4, o5, o6, o7, o8, o9]
set_option maxHeartbeats 4000000 in
set_option maxRecDepth 100000 in
theorem noProxy_1 (w : World) : Calls Tryz.prog 46 #[.int .i64 1] w fun e w' => e = .returned (.bool false) ∧ w = w' := by
  go_enter Tryz.func46, Tryz.ntmps46
  go_wp2_with fail
  go_ret
  exact ⟨rfl, rfl⟩
set_option maxHeartbeats 4000000 in
set_option maxRecDepth 100000 in
theorem toxical_1 (w : World) : Calls Tryz.prog 50 #[.int .i64 1] w fun e w' => e = .returned (.bool false) ∧ w = w' := by
  go_enter Tryz.func50, Tryz.ntmps50
  go_wp2_with fail
  go_ret
  exact ⟨rfl, rfl⟩
set_option maxHeartbeats 4000000 in
set_option maxRecDepth 100000 in
theorem most_1 (w : World) : Calls Tryz.prog 45 #[.int .i64 1] w fun e w' => e = .returned (.tuple #[.int .i64 2, .int .i64 2]) ∧ w = w' := by
  go_enter Tryz.func45, Tryz.ntmps45
  go_wp2_with fail
  refine (noProxy_1 _).mono ?_
  rintro e w1 ⟨rfl, rfl⟩
  go_wp2_with fail
  refine (toxical_1 _).mono ?_
  rintro e w1 ⟨rfl, rfl⟩
  go_wp2_with fail
  refine bodyPost_ret (results_tmp2 rfl _ _ _) rfl ?_
  exact ⟨rfl, rfl⟩
set_option maxHeartbeats 4000000 in
set_option maxRecDepth 100000 in
theorem noProxy_2 (w : World) : Calls Tryz.prog 46 #[.int .i64 2] w fun e w' => e = .returned (.bool false) ∧ w = w' := by
  go_enter Tryz.func46, Tryz.ntmps46
  go_wp2_with fail
  go_ret
  exact ⟨rfl, rfl⟩
set_option maxHeartbeats 4000000 in
set_option maxRecDepth 100000 in
theorem toxical_2 (w : World) : Calls Tryz.prog 50 #[.int .i64 2] w fun e w' => e = .returned (.bool false) ∧ w = w' := by
  go_enter Tryz.func50, Tryz.ntmps50
  go_wp2_with fail
  go_ret
  exact ⟨rfl, rfl⟩
set_option maxHeartbeats 4000000 in
set_option maxRecDepth 100000 in
theorem most_2 (w : World) : Calls Tryz.prog 45 #[.int .i64 2] w fun e w' => e = .returned (.tuple #[.int .i64 1, .int .i64 1]) ∧ w = w' := by
  go_enter Tryz.func45, Tryz.ntmps45
  go_wp2_with fail
  refine (noProxy_2 _).mono ?_
  rintro e w1 ⟨rfl, rfl⟩
  go_wp2_with fail
  refine (toxical_2 _).mono ?_
  rintro e w1 ⟨rfl, rfl⟩
  go_wp2_with fail
  refine bodyPost_ret (results_tmp2 rfl _ _ _) rfl ?_
  exact ⟨rfl, rfl⟩
set_option maxHeartbeats 4000000 in
set_option maxRecDepth 100000 in
theorem noProxy_3 (w : World) : Calls Tryz.prog 46 #[.int .i64 3] w fun e w' => e = .returned (.bool false) ∧ w = w' := by
  go_enter Tryz.func46, Tryz.ntmps46
  go_wp2_with fail
  go_ret
  exact ⟨rfl, rfl⟩
set_option maxHeartbeats 4000000 in
set_option maxRecDepth 100000 in
theorem toxical_3 (w : World) : Calls Tryz.prog 50 #[.int .i64 3] w fun e w' => e = .returned (.bool false) ∧ w = w' := by
  go_enter Tryz.func50, Tryz.ntmps50
  go_wp2_with fail
  go_ret
  exact ⟨rfl, rfl⟩
set_option maxHeartbeats 4000000 in
set_option maxRecDepth 100000 in
theorem most_3 (w : World) : Calls Tryz.prog 45 #[.int .i64 3] w fun e w' => e = .returned (.tuple #[.int .i64 1, .int .i64 1]) ∧ w = w' := by
  go_enter Tryz.func45, Tryz.ntmps45
  go_wp2_with fail
  refine (noProxy_3 _).mono ?_
  rintro e w1 ⟨rfl, rfl⟩
  go_wp2_with fail
  refine (toxical_3 _).mono ?_
  rintro e w1 ⟨rfl, rfl⟩
  go_wp2_with fail
  refine bodyPost_ret (results_tmp2 rfl _ _ _) rfl ?_
  exact ⟨rfl, rfl⟩
set_option maxHeartbeats 4000000 in
set_option maxRecDepth 100000 in
theorem noProxy_4 (w : World) : Calls Tryz.prog 46 #[.int .i64 4] w fun e w' => e = .returned (.bool false) ∧ w = w' := by
  go_enter Tryz.func46, Tryz.ntmps46
  go_wp2_with fail
  go_ret
  exact ⟨rfl, rfl⟩
set_option maxHeartbeats 4000000 in
set_option maxRecDepth 100000 in
theorem toxical_4 (w : World) : Calls Tryz.prog 50 #[.int .i64 4] w fun e w' => e = .returned (.bool false) ∧ w = w' := by
  go_enter Tryz.func50, Tryz.ntmps50
  go_wp2_with fail
  go_ret
  exact ⟨rfl, rfl⟩
set_option maxHeartbeats 4000000 in
set_option maxRecDepth 100000 in
theorem most_4 (w : World) : Calls Tryz.prog 45 #[.int .i64 4] w fun e w' => e = .returned (.tuple #[.int .i64 1, .int .i64 1]) ∧ w = w' := by
  go_enter Tryz.func45, Tryz.ntmps45
  go_wp2_with fail
  refine (noProxy_4 _).mono ?_
  rintro e w1 ⟨rfl, rfl⟩
  go_wp2_with fail
  refine (toxical_4 _).mono ?_
  rintro e w1 ⟨rfl, rfl⟩
  go_wp2_with fail
  refine bodyPost_ret (results_tmp2 rfl _ _ _) rfl ?_
  exact ⟨rfl, rfl⟩
set_option maxHeartbeats 4000000 in
set_option maxRecDepth 100000 in
theorem noProxy_8 (w : World) : Calls Tryz.prog 46 #[.int .i64 8] w fun e w' => e = .returned (.bool true) ∧ w = w' := by
  go_enter Tryz.func46, Tryz.ntmps46
  go_wp2_with fail
  go_ret
  exact ⟨rfl, rfl⟩
set_option maxHeartbeats 4000000 in
set_option maxRecDepth 100000 in
theorem most_8 (w : World) : Calls Tryz.prog 45 #[.int .i64 8] w fun e w' => e = .returned (.tuple #[.int .i64 0, .int .i64 0]) ∧ w = w' := by
  go_enter Tryz.func45, Tryz.ntmps45
  go_wp2_with fail
  refine (noProxy_8 _).mono ?_
  rintro e w1 ⟨rfl, rfl⟩
  go_wp2_with fail
  refine bodyPost_ret (results_tmp2 rfl _ _ _) rfl ?_
  exact ⟨rfl, rfl⟩
set_option maxHeartbeats 16000000 in
set_option maxRecDepth 100000 in
theorem from_1 (g c : Nat) (s : ByteArray) (m : Int) (q : ByteArray) (w : World) (hS : Sp w) (hg : g < w.heap.size) (hc : 4 ≤ c) (h0 : w.cell? ⟨g, 0, none⟩ = some (strV [112, 114, 111, 120, 121])) (h1 : w.cell? ⟨g, 1, none⟩ = some (strV [97, 100, 100])) (hn : w.cell? ⟨g, 2, none⟩ = some (.string s)) (h3 : w.cell? ⟨g, 3, none⟩ = some (.string q)) (hm : m = 3 ∧ q = ⟨#[51]⟩ ∨ m = 1 ∧ q = ⟨#[49]⟩) : Calls Tryz.prog 25 #[.slice (some ⟨g, 0, none⟩) 4 c] w fun e w' => e = .returned (.tuple #[.agg (ordC 1 s m), .int .i64 0]) ∧ Below w.heap.size w w' := by
  have hb0 : Below w.heap.size w (w.alloc (.cells (ordC 0 ⟨#[]⟩ 0) 57)) := below_alloc (Below.refl _ w) _ (Nat.le_refl _)
  have HV := Lib.hid (verb_1 g c _ (hS.below hb0 hS.1) (Nat.lt_of_lt_of_le hg hb0.size) hc ((hb0.cell (p := ⟨g, 0, none⟩) hg).trans h0) ((hb0.cell (p := ⟨g, 1, none⟩) hg).trans h1))
  have HB0 := Lib.hid hb0
  clear hb0
  unfold ordC at *
  go_enter Tryz.func25, Tryz.ntmps25
  go_wp2_with fail
  refine HV.out.mono ?_
  rintro e w1 ⟨rfl, hb1⟩
  have hb01 := below_step HB0.out hb1
  have hz1 : w.heap.size < w1.heap.size := Nat.lt_of_lt_of_le (by rw [World.size_alloc]; omega) hb1.size
  have ho : w1.heap[w.heap.size]? = some (.cells (ordC 0 ⟨#[]⟩ 0) 57 (0, 0)) := (hb1.block _ (by rw [World.size_alloc]; omega)).trans (heap_alloc_new w _)
  have hgz : g < w1.heap.size := by omega
  have hn1 := (hb01.cell (p := ⟨g, 2, none⟩) hg).trans hn
  have h31 := (hb01.cell (p := ⟨g, 3, none⟩) hg).trans h3
  have o0 := blk_cell ho 0
  have o1 := blk_cell ho 1
  have o2 := blk_cell ho 2
  have o3 := blk_cell ho 3
  have o4 := blk_cell ho 4
  have o5 := blk_cell ho 5
  have o6 := blk_cell ho 6
  have o7 := blk_cell ho 7
  have o8 := blk_cell ho 8
  have o9 := blk_cell ho 9
  have z0 := blk_frozen ho 0
  have z1 := blk_frozen ho 1
  have z2 := blk_frozen ho 2
  have z3 := blk_frozen ho 3
  have z4 := blk_frozen ho 4
  have z5 := blk_frozen ho 5
  have z6 := blk_frozen ho 6
  have z7 := blk_frozen ho 7
  have z8 := blk_frozen ho 8
  have z9 := blk_frozen ho 9
  simp only [ordC, List.getElem?_toArray, List.getElem?_cons_zero, List.getElem?_cons_succ] at o0 o1 o2 o3 o4 o5 o6 o7 o8 o9
  have HO := Lib.hid ho
  have HB1 := Lib.hid hb01
  clear hb1 hb01 ho
  go_wp2_with fail
  refine (most_1 _).mono ?_
  rintro e w2 ⟨rfl, rfl⟩
  go_wp2_with fail
  refine (noProxy_1 _).mono ?_
  rintro e w2 ⟨rfl, rfl⟩
  go_wp2_with fail
  have ha1 := below_alloc (Below.refl w1.heap.size w1) (.cells (ordC 1 s 0) 57) (Nat.le_refl _)
  have hn2 := (ha1.cell (p := ⟨w.heap.size, 0, none⟩) hz1)
  have hqa := (ha1.cell (p := ⟨g, 3, none⟩) hgz).trans h31
  have hob := heap_alloc_new w1 (.cells (ordC 1 s 0) 57)
  have hsz := World.size_alloc w1 (.cells (ordC 1 s 0) 57)
  have hnc := number_calls w1.heap.size g 3 (c - 2 - 1) m q hm _ hqa (by omega) (by omega) (blk_cell hob 3) (blk_frozen hob 3)
  unfold ordC at hnc hob ha1 hsz
  refine hnc.mono ?_
  rintro e w2 ⟨rfl, w3, hb3, rfl⟩
  have ho3 := blk_set ((hb3.block _ (by omega)).trans hob) 3 (.int .i64 m)
  have hw3 : (w3.setCell ⟨w1.heap.size, 3, none⟩ (.int .i64 m)).heap[w.heap.size]? = some (.cells (ordC 0 ⟨#[]⟩ 0) 57 (0, 0)) := by
    rw [heap_setCell_ne _ _ _ _ (by show w.heap.size ≠ w1.heap.size; omega)]
    exact (hb3.block _ (by omega)).trans ((ha1.block _ hz1).trans HO.out)
  have hb2 : Below w.heap.size w (w3.setCell ⟨w1.heap.size, 3, none⟩ (.int .i64 m)) := ((HB1.out.trans (ha1.mono (by omega))).trans (hb3.mono (by omega))).setCell (by show w.heap.size ≤ w1.heap.size; omega) _
  have hs2 : w1.heap.size < (w3.setCell ⟨w1.heap.size, 3, none⟩ (.int .i64 m)).heap.size := by rw [set_size]; have := hb3.size; omega
  obtain ⟨w2, hw2⟩ : ∃ x, x = w3.setCell ⟨w1.heap.size, 3, none⟩ (.int .i64 m) := ⟨_, rfl⟩
  rw [← hw2] at ho3 hw3 hb2 hs2 ⊢
  clear hw2
  all_goals (have p0 := blk_cell ho3 0)
  all_goals (have p1 := blk_cell ho3 1)
  all_goals (have p2 := blk_cell ho3 2)
  all_goals (have p3 := blk_cell ho3 3)
  all_goals (have p4 := blk_cell ho3 4)
  all_goals (have p5 := blk_cell ho3 5)
  all_goals (have p6 := blk_cell ho3 6)
  all_goals (have p7 := blk_cell ho3 7)
  all_goals (have p8 := blk_cell ho3 8)
  all_goals (have p9 := blk_cell ho3 9)
  all_goals (have y0 := blk_cell hw3 0)
  all_goals (have y1 := blk_cell hw3 1)
  all_goals (have y2 := blk_cell hw3 2)
  all_goals (have y3 := blk_cell hw3 3)
  all_goals (have y4 := blk_cell hw3 4)
  all_goals (have y5 := blk_cell hw3 5)
  all_goals (have y6 := blk_cell hw3 6)
  all_goals (have y7 := blk_cell hw3 7)
  all_goals (have y8 := blk_cell hw3 8)
  all_goals (have y9 := blk_cell hw3 9)
  all_goals (have x0 := blk_frozen hw3 0)
  all_goals (have x1 := blk_frozen hw3 1)
  all_goals (have x2 := blk_frozen hw3 2)
  all_goals (have x3 := blk_frozen hw3 3)
  all_goals (have x4 := blk_frozen hw3 4)
  all_goals (have x5 := blk_frozen hw3 5)
  all_goals (have x6 := blk_frozen hw3 6)
  all_goals (have x7 := blk_frozen hw3 7)
  all_goals (have x8 := blk_frozen hw3 8)
  all_goals (have x9 := blk_frozen hw3 9)
  all_goals (simp only [ordC, List.getElem?_toArray, List.getElem?_cons_zero, List.getElem?_cons_succ, List.setIfInBounds_toArray, List.set_cons_zero, List.set_cons_succ] at p0 y0 p1 y1 p2 y2 p3 y3 p4 y4 p5 y5 p6 y6 p7 y7 p8 y8 p9 y9)
  all_goals (have HB2 := Lib.hid hb2)
  all_goals (have HW3 := Lib.hid hw3)
  all_goals (clear hb2 ho3 hw3)
  all_goals (go_wp2_with fail)
  all_goals (have hb5 := ord_below HB2.out 1 s (m) w.heap.size (Nat.le_refl _))
  all_goals (have ho5 := ord_set HW3.out 1 s (m))
  all_goals (unfold setOrd at hb5 ho5)
  all_goals (refine bodyPost_ret (ord_result ho5 rfl rfl) rfl ?_)
  all_goals (exact ⟨rfl, hb5⟩)
set_option maxHeartbeats 16000000 in
set_option maxRecDepth 100000 in
theorem from_2 (g c : Nat) (s : ByteArray) (w : World) (hS : Sp w) (hg : g < w.heap.size) (hc : 3 ≤ c) (h0 : w.cell? ⟨g, 0, none⟩ = some (strV [112, 114, 111, 120, 121])) (h1 : w.cell? ⟨g, 1, none⟩ = some (strV [100, 114, 111, 112])) (hn : w.cell? ⟨g, 2, none⟩ = some (.string s)) : Calls Tryz.prog 25 #[.slice (some ⟨g, 0, none⟩) 3 c] w fun e w' => e = .returned (.tuple #[.agg (ordC 2 s 0), .int .i64 0]) ∧ Below w.heap.size w w' := by
  have hb0 : Below w.heap.size w (w.alloc (.cells (ordC 0 ⟨#[]⟩ 0) 57)) := below_alloc (Below.refl _ w) _ (Nat.le_refl _)
  have HV := Lib.hid (verb_2 g c _ (hS.below hb0 hS.1) (Nat.lt_of_lt_of_le hg hb0.size) hc ((hb0.cell (p := ⟨g, 0, none⟩) hg).trans h0) ((hb0.cell (p := ⟨g, 1, none⟩) hg).trans h1))
  have HB0 := Lib.hid hb0
  clear hb0
  unfold ordC at *
  go_enter Tryz.func25, Tryz.ntmps25
  go_wp2_with fail
  refine HV.out.mono ?_
  rintro e w1 ⟨rfl, hb1⟩
  have hb01 := below_step HB0.out hb1
  have hz1 : w.heap.size < w1.heap.size := Nat.lt_of_lt_of_le (by rw [World.size_alloc]; omega) hb1.size
  have ho : w1.heap[w.heap.size]? = some (.cells (ordC 0 ⟨#[]⟩ 0) 57 (0, 0)) := (hb1.block _ (by rw [World.size_alloc]; omega)).trans (heap_alloc_new w _)
  have hgz : g < w1.heap.size := by omega
  have hn1 := (hb01.cell (p := ⟨g, 2, none⟩) hg).trans hn
  have o0 := blk_cell ho 0
  have o1 := blk_cell ho 1
  have o2 := blk_cell ho 2
  have o3 := blk_cell ho 3
  have o4 := blk_cell ho 4
  have o5 := blk_cell ho 5
  have o6 := blk_cell ho 6
  have o7 := blk_cell ho 7
  have o8 := blk_cell ho 8
  have o9 := blk_cell ho 9
  have z0 := blk_frozen ho 0
  have z1 := blk_frozen ho 1
  have z2 := blk_frozen ho 2
  have z3 := blk_frozen ho 3
  have z4 := blk_frozen ho 4
  have z5 := blk_frozen ho 5
  have z6 := blk_frozen ho 6
  have z7 := blk_frozen ho 7
  have z8 := blk_frozen ho 8
  have z9 := blk_frozen ho 9
  simp only [ordC, List.getElem?_toArray, List.getElem?_cons_zero, List.getElem?_cons_succ] at o0 o1 o2 o3 o4 o5 o6 o7 o8 o9
  have HO := Lib.hid ho
  have HB1 := Lib.hid hb01
  clear hb1 hb01 ho
  go_wp2_with fail
  refine (most_2 _).mono ?_
  rintro e w2 ⟨rfl, rfl⟩
  go_wp2_with fail
  refine (noProxy_2 _).mono ?_
  rintro e w2 ⟨rfl, rfl⟩
  go_wp2_with fail
  have ha1 := below_alloc (Below.refl w1.heap.size w1) (.cells (ordC 2 s 0) 57) (Nat.le_refl _)
  have hn2 := (ha1.cell (p := ⟨w.heap.size, 0, none⟩) hz1)
  have ho3 := heap_alloc_new w1 (.cells (ordC 2 s 0) 57)
  have hw3 := (ha1.block _ hz1).trans HO.out
  have hb2 := HB1.out.trans (ha1.mono (by omega))
  have hs2 : w1.heap.size < (w1.alloc (.cells (ordC 2 s 0) 57)).heap.size := by rw [World.size_alloc]; omega
  obtain ⟨w2, hw2⟩ : ∃ x, x = w1.alloc (.cells (ordC 2 s 0) 57) := ⟨_, rfl⟩
  rw [← hw2] at ho3 hw3 hb2 hs2
  unfold ordC at hw2
  rw [← hw2]
  clear hw2 ha1 hn2
  refine (toxical_2 _).mono ?_
  rintro e w3 ⟨rfl, rfl⟩
  have HO3 := Lib.hid ho3
  have HW3 := Lib.hid hw3
  have HB2 := Lib.hid hb2
  have HS2 := Lib.hid hs2
  clear ho3 hw3 hb2 hs2
  have hcc : c = 3 ∨ 3 < c := by omega
  go_wp2_with fail
  all_goals (refine (nothing_calls _ _ _).mono ?_)
  all_goals (rintro e w3 ⟨rfl, rfl⟩)
  all_goals (have ho3 := HO3.out)
  all_goals (have hw3 := HW3.out)
  all_goals (have hb2 := HB2.out)
  all_goals (have hs2 := HS2.out)
  all_goals (have p0 := blk_cell ho3 0)
  all_goals (have p1 := blk_cell ho3 1)
  all_goals (have p2 := blk_cell ho3 2)
  all_goals (have p3 := blk_cell ho3 3)
  all_goals (have p4 := blk_cell ho3 4)
  all_goals (have p5 := blk_cell ho3 5)
  all_goals (have p6 := blk_cell ho3 6)
  all_goals (have p7 := blk_cell ho3 7)
  all_goals (have p8 := blk_cell ho3 8)
  all_goals (have p9 := blk_cell ho3 9)
  all_goals (have y0 := blk_cell hw3 0)
  all_goals (have y1 := blk_cell hw3 1)
  all_goals (have y2 := blk_cell hw3 2)
  all_goals (have y3 := blk_cell hw3 3)
  all_goals (have y4 := blk_cell hw3 4)
  all_goals (have y5 := blk_cell hw3 5)
  all_goals (have y6 := blk_cell hw3 6)
  all_goals (have y7 := blk_cell hw3 7)
  all_goals (have y8 := blk_cell hw3 8)
  all_goals (have y9 := blk_cell hw3 9)
  all_goals (have x0 := blk_frozen hw3 0)
  all_goals (have x1 := blk_frozen hw3 1)
  all_goals (have x2 := blk_frozen hw3 2)
  all_goals (have x3 := blk_frozen hw3 3)
  all_goals (have x4 := blk_frozen hw3 4)
  all_goals (have x5 := blk_frozen hw3 5)
  all_goals (have x6 := blk_frozen hw3 6)
  all_goals (have x7 := blk_frozen hw3 7)
  all_goals (have x8 := blk_frozen hw3 8)
  all_goals (have x9 := blk_frozen hw3 9)
  all_goals (simp only [ordC, List.getElem?_toArray, List.getElem?_cons_zero, List.getElem?_cons_succ, List.setIfInBounds_toArray, List.set_cons_zero, List.set_cons_succ] at p0 y0 p1 y1 p2 y2 p3 y3 p4 y4 p5 y5 p6 y6 p7 y7 p8 y8 p9 y9)
  all_goals (have HB2 := Lib.hid hb2)
  all_goals (have HW3 := Lib.hid hw3)
  all_goals (clear hb2 ho3 hw3)
  all_goals (go_wp2_with fail)
  all_goals (have hb5 := ord_below HB2.out 2 s (0) w.heap.size (Nat.le_refl _))
  all_goals (have ho5 := ord_set HW3.out 2 s (0))
  all_goals (unfold setOrd at hb5 ho5)
  all_goals (refine bodyPost_ret (ord_result ho5 rfl rfl) rfl ?_)
  all_goals (exact ⟨rfl, hb5⟩)
set_option maxHeartbeats 16000000 in
set_option maxRecDepth 100000 in
theorem from_3 (g c : Nat) (s : ByteArray) (w : World) (hS : Sp w) (hg : g < w.heap.size) (hc : 2 ≤ c) (h0 : w.cell? ⟨g, 0, none⟩ = some (strV [111, 110])) (hn : w.cell? ⟨g, 1, none⟩ = some (.string s)) : Calls Tryz.prog 25 #[.slice (some ⟨g, 0, none⟩) 2 c] w fun e w' => e = .returned (.tuple #[.agg (ordC 3 s 0), .int .i64 0]) ∧ Below w.heap.size w w' := by
  have hb0 : Below w.heap.size w (w.alloc (.cells (ordC 0 ⟨#[]⟩ 0) 57)) := below_alloc (Below.refl _ w) _ (Nat.le_refl _)
  have HV := Lib.hid (verb_3 g c _ (hS.below hb0 hS.1) (Nat.lt_of_lt_of_le hg hb0.size) hc ((hb0.cell (p := ⟨g, 0, none⟩) hg).trans h0))
  have HB0 := Lib.hid hb0
  clear hb0
  unfold ordC at *
  go_enter Tryz.func25, Tryz.ntmps25
  go_wp2_with fail
  refine HV.out.mono ?_
  rintro e w1 ⟨rfl, hb1⟩
  have hb01 := below_step HB0.out hb1
  have hz1 : w.heap.size < w1.heap.size := Nat.lt_of_lt_of_le (by rw [World.size_alloc]; omega) hb1.size
  have ho : w1.heap[w.heap.size]? = some (.cells (ordC 0 ⟨#[]⟩ 0) 57 (0, 0)) := (hb1.block _ (by rw [World.size_alloc]; omega)).trans (heap_alloc_new w _)
  have hgz : g < w1.heap.size := by omega
  have hn1 := (hb01.cell (p := ⟨g, 1, none⟩) hg).trans hn
  have o0 := blk_cell ho 0
  have o1 := blk_cell ho 1
  have o2 := blk_cell ho 2
  have o3 := blk_cell ho 3
  have o4 := blk_cell ho 4
  have o5 := blk_cell ho 5
  have o6 := blk_cell ho 6
  have o7 := blk_cell ho 7
  have o8 := blk_cell ho 8
  have o9 := blk_cell ho 9
  have z0 := blk_frozen ho 0
  have z1 := blk_frozen ho 1
  have z2 := blk_frozen ho 2
  have z3 := blk_frozen ho 3
  have z4 := blk_frozen ho 4
  have z5 := blk_frozen ho 5
  have z6 := blk_frozen ho 6
  have z7 := blk_frozen ho 7
  have z8 := blk_frozen ho 8
  have z9 := blk_frozen ho 9
  simp only [ordC, List.getElem?_toArray, List.getElem?_cons_zero, List.getElem?_cons_succ] at o0 o1 o2 o3 o4 o5 o6 o7 o8 o9
  have HO := Lib.hid ho
  have HB1 := Lib.hid hb01
  clear hb1 hb01 ho
  go_wp2_with fail
  refine (most_3 _).mono ?_
  rintro e w2 ⟨rfl, rfl⟩
  go_wp2_with fail
  refine (noProxy_3 _).mono ?_
  rintro e w2 ⟨rfl, rfl⟩
  go_wp2_with fail
  have ha1 := below_alloc (Below.refl w1.heap.size w1) (.cells (ordC 3 s 0) 57) (Nat.le_refl _)
  have hn2 := (ha1.cell (p := ⟨w.heap.size, 0, none⟩) hz1)
  have ho3 := heap_alloc_new w1 (.cells (ordC 3 s 0) 57)
  have hw3 := (ha1.block _ hz1).trans HO.out
  have hb2 := HB1.out.trans (ha1.mono (by omega))
  have hs2 : w1.heap.size < (w1.alloc (.cells (ordC 3 s 0) 57)).heap.size := by rw [World.size_alloc]; omega
  obtain ⟨w2, hw2⟩ : ∃ x, x = w1.alloc (.cells (ordC 3 s 0) 57) := ⟨_, rfl⟩
  rw [← hw2] at ho3 hw3 hb2 hs2
  unfold ordC at hw2
  rw [← hw2]
  clear hw2 ha1 hn2
  refine (toxical_3 _).mono ?_
  rintro e w3 ⟨rfl, rfl⟩
  have HO3 := Lib.hid ho3
  have HW3 := Lib.hid hw3
  have HB2 := Lib.hid hb2
  have HS2 := Lib.hid hs2
  clear ho3 hw3 hb2 hs2
  have hcc : c = 2 ∨ 2 < c := by omega
  go_wp2_with fail
  all_goals (refine (nothing_calls _ _ _).mono ?_)
  all_goals (rintro e w3 ⟨rfl, rfl⟩)
  all_goals (have ho3 := HO3.out)
  all_goals (have hw3 := HW3.out)
  all_goals (have hb2 := HB2.out)
  all_goals (have hs2 := HS2.out)
  all_goals (have p0 := blk_cell ho3 0)
  all_goals (have p1 := blk_cell ho3 1)
  all_goals (have p2 := blk_cell ho3 2)
  all_goals (have p3 := blk_cell ho3 3)
  all_goals (have p4 := blk_cell ho3 4)
  all_goals (have p5 := blk_cell ho3 5)
  all_goals (have p6 := blk_cell ho3 6)
  all_goals (have p7 := blk_cell ho3 7)
  all_goals (have p8 := blk_cell ho3 8)
  all_goals (have p9 := blk_cell ho3 9)
  all_goals (have y0 := blk_cell hw3 0)
  all_goals (have y1 := blk_cell hw3 1)
  all_goals (have y2 := blk_cell hw3 2)
  all_goals (have y3 := blk_cell hw3 3)
  all_goals (have y4 := blk_cell hw3 4)
  all_goals (have y5 := blk_cell hw3 5)
  all_goals (have y6 := blk_cell hw3 6)
  all_goals (have y7 := blk_cell hw3 7)
  all_goals (have y8 := blk_cell hw3 8)
  all_goals (have y9 := blk_cell hw3 9)
  all_goals (have x0 := blk_frozen hw3 0)
  all_goals (have x1 := blk_frozen hw3 1)
  all_goals (have x2 := blk_frozen hw3 2)
  all_goals (have x3 := blk_frozen hw3 3)
  all_goals (have x4 := blk_frozen hw3 4)
  all_goals (have x5 := blk_frozen hw3 5)
  all_goals (have x6 := blk_frozen hw3 6)
  all_goals (have x7 := blk_frozen hw3 7)
  all_goals (have x8 := blk_frozen hw3 8)
  all_goals (have x9 := blk_frozen hw3 9)
  all_goals (simp only [ordC, List.getElem?_toArray, List.getElem?_cons_zero, List.getElem?_cons_succ, List.setIfInBounds_toArray, List.set_cons_zero, List.set_cons_succ] at p0 y0 p1 y1 p2 y2 p3 y3 p4 y4 p5 y5 p6 y6 p7 y7 p8 y8 p9 y9)
  all_goals (have HB2 := Lib.hid hb2)
  all_goals (have HW3 := Lib.hid hw3)
  all_goals (clear hb2 ho3 hw3)
  all_goals (go_wp2_with fail)
  all_goals (have hb5 := ord_below HB2.out 3 s (0) w.heap.size (Nat.le_refl _))
  all_goals (have ho5 := ord_set HW3.out 3 s (0))
  all_goals (unfold setOrd at hb5 ho5)
  all_goals (refine bodyPost_ret (ord_result ho5 rfl rfl) rfl ?_)
  all_goals (exact ⟨rfl, hb5⟩)
set_option maxHeartbeats 16000000 in
set_option maxRecDepth 100000 in
theorem from_4 (g c : Nat) (s : ByteArray) (w : World) (hS : Sp w) (hg : g < w.heap.size) (hc : 2 ≤ c) (h0 : w.cell? ⟨g, 0, none⟩ = some (strV [111, 102, 102])) (hn : w.cell? ⟨g, 1, none⟩ = some (.string s)) : Calls Tryz.prog 25 #[.slice (some ⟨g, 0, none⟩) 2 c] w fun e w' => e = .returned (.tuple #[.agg (ordC 4 s 0), .int .i64 0]) ∧ Below w.heap.size w w' := by
  have hb0 : Below w.heap.size w (w.alloc (.cells (ordC 0 ⟨#[]⟩ 0) 57)) := below_alloc (Below.refl _ w) _ (Nat.le_refl _)
  have HV := Lib.hid (verb_4 g c _ (hS.below hb0 hS.1) (Nat.lt_of_lt_of_le hg hb0.size) hc ((hb0.cell (p := ⟨g, 0, none⟩) hg).trans h0))
  have HB0 := Lib.hid hb0
  clear hb0
  unfold ordC at *
  go_enter Tryz.func25, Tryz.ntmps25
  go_wp2_with fail
  refine HV.out.mono ?_
  rintro e w1 ⟨rfl, hb1⟩
  have hb01 := below_step HB0.out hb1
  have hz1 : w.heap.size < w1.heap.size := Nat.lt_of_lt_of_le (by rw [World.size_alloc]; omega) hb1.size
  have ho : w1.heap[w.heap.size]? = some (.cells (ordC 0 ⟨#[]⟩ 0) 57 (0, 0)) := (hb1.block _ (by rw [World.size_alloc]; omega)).trans (heap_alloc_new w _)
  have hgz : g < w1.heap.size := by omega
  have hn1 := (hb01.cell (p := ⟨g, 1, none⟩) hg).trans hn
  have o0 := blk_cell ho 0
  have o1 := blk_cell ho 1
  have o2 := blk_cell ho 2
  have o3 := blk_cell ho 3
  have o4 := blk_cell ho 4
  have o5 := blk_cell ho 5
  have o6 := blk_cell ho 6
  have o7 := blk_cell ho 7
  have o8 := blk_cell ho 8
  have o9 := blk_cell ho 9
  have z0 := blk_frozen ho 0
  have z1 := blk_frozen ho 1
  have z2 := blk_frozen ho 2
  have z3 := blk_frozen ho 3
  have z4 := blk_frozen ho 4
  have z5 := blk_frozen ho 5
  have z6 := blk_frozen ho 6
  have z7 := blk_frozen ho 7
  have z8 := blk_frozen ho 8
  have z9 := blk_frozen ho 9
  simp only [ordC, List.getElem?_toArray, List.getElem?_cons_zero, List.getElem?_cons_succ] at o0 o1 o2 o3 o4 o5 o6 o7 o8 o9
  have HO := Lib.hid ho
  have HB1 := Lib.hid hb01
  clear hb1 hb01 ho
  go_wp2_with fail
  refine (most_4 _).mono ?_
  rintro e w2 ⟨rfl, rfl⟩
  go_wp2_with fail
  refine (noProxy_4 _).mono ?_
  rintro e w2 ⟨rfl, rfl⟩
  go_wp2_with fail
  have ha1 := below_alloc (Below.refl w1.heap.size w1) (.cells (ordC 4 s 0) 57) (Nat.le_refl _)
  have hn2 := (ha1.cell (p := ⟨w.heap.size, 0, none⟩) hz1)
  have ho3 := heap_alloc_new w1 (.cells (ordC 4 s 0) 57)
  have hw3 := (ha1.block _ hz1).trans HO.out
  have hb2 := HB1.out.trans (ha1.mono (by omega))
  have hs2 : w1.heap.size < (w1.alloc (.cells (ordC 4 s 0) 57)).heap.size := by rw [World.size_alloc]; omega
  obtain ⟨w2, hw2⟩ : ∃ x, x = w1.alloc (.cells (ordC 4 s 0) 57) := ⟨_, rfl⟩
  rw [← hw2] at ho3 hw3 hb2 hs2
  unfold ordC at hw2
  rw [← hw2]
  clear hw2 ha1 hn2
  refine (toxical_4 _).mono ?_
  rintro e w3 ⟨rfl, rfl⟩
  have HO3 := Lib.hid ho3
  have HW3 := Lib.hid hw3
  have HB2 := Lib.hid hb2
  have HS2 := Lib.hid hs2
  clear ho3 hw3 hb2 hs2
  have hcc : c = 2 ∨ 2 < c := by omega
  go_wp2_with fail
  all_goals (refine (nothing_calls _ _ _).mono ?_)
  all_goals (rintro e w3 ⟨rfl, rfl⟩)
  all_goals (have ho3 := HO3.out)
  all_goals (have hw3 := HW3.out)
  all_goals (have hb2 := HB2.out)
  all_goals (have hs2 := HS2.out)
  all_goals (have p0 := blk_cell ho3 0)
  all_goals (have p1 := blk_cell ho3 1)
  all_goals (have p2 := blk_cell ho3 2)
  all_goals (have p3 := blk_cell ho3 3)
  all_goals (have p4 := blk_cell ho3 4)
  all_goals (have p5 := blk_cell ho3 5)
  all_goals (have p6 := blk_cell ho3 6)
  all_goals (have p7 := blk_cell ho3 7)
  all_goals (have p8 := blk_cell ho3 8)
  all_goals (have p9 := blk_cell ho3 9)
  all_goals (have y0 := blk_cell hw3 0)
  all_goals (have y1 := blk_cell hw3 1)
  all_goals (have y2 := blk_cell hw3 2)
  all_goals (have y3 := blk_cell hw3 3)
  all_goals (have y4 := blk_cell hw3 4)
  all_goals (have y5 := blk_cell hw3 5)
  all_goals (have y6 := blk_cell hw3 6)
  all_goals (have y7 := blk_cell hw3 7)
  all_goals (have y8 := blk_cell hw3 8)
  all_goals (have y9 := blk_cell hw3 9)
  all_goals (have x0 := blk_frozen hw3 0)
  all_goals (have x1 := blk_frozen hw3 1)
  all_goals (have x2 := blk_frozen hw3 2)
  all_goals (have x3 := blk_frozen hw3 3)
  all_goals (have x4 := blk_frozen hw3 4)
  all_goals (have x5 := blk_frozen hw3 5)
  all_goals (have x6 := blk_frozen hw3 6)
  all_goals (have x7 := blk_frozen hw3 7)
  all_goals (have x8 := blk_frozen hw3 8)
  all_goals (have x9 := blk_frozen hw3 9)
  all_goals (simp only [ordC, List.getElem?_toArray, List.getElem?_cons_zero, List.getElem?_cons_succ, List.setIfInBounds_toArray, List.set_cons_zero, List.set_cons_succ] at p0 y0 p1 y1 p2 y2 p3 y3 p4 y4 p5 y5 p6 y6 p7 y7 p8 y8 p9 y9)
  all_goals (have HB2 := Lib.hid hb2)
  all_goals (have HW3 := Lib.hid hw3)
  all_goals (clear hb2 ho3 hw3)
  all_goals (go_wp2_with fail)
  all_goals (have hb5 := ord_below HB2.out 4 s (0) w.heap.size (Nat.le_refl _))
  all_goals (have ho5 := ord_set HW3.out 4 s (0))
  all_goals (unfold setOrd at hb5 ho5)
  all_goals (refine bodyPost_ret (ord_result ho5 rfl rfl) rfl ?_)
  all_goals (exact ⟨rfl, hb5⟩)
set_option maxHeartbeats 16000000 in
set_option maxRecDepth 100000 in
theorem from_8 (g c : Nat) (w : World) (hS : Sp w) (hg : g < w.heap.size) (hc : 1 ≤ c) (h0 : w.cell? ⟨g, 0, none⟩ = some (strV [108, 105, 115, 116])) : Calls Tryz.prog 25 #[.slice (some ⟨g, 0, none⟩) 1 c] w fun e w' => e = .returned (.tuple #[.agg (ordC 8 ⟨#[]⟩ 0), .int .i64 0]) ∧ Below w.heap.size w w' := by
  have hb0 : Below w.heap.size w (w.alloc (.cells (ordC 0 ⟨#[]⟩ 0) 57)) := below_alloc (Below.refl _ w) _ (Nat.le_refl _)
  have HV := Lib.hid (verb_8 g c _ (hS.below hb0 hS.1) (Nat.lt_of_lt_of_le hg hb0.size) hc ((hb0.cell (p := ⟨g, 0, none⟩) hg).trans h0))
  have HB0 := Lib.hid hb0
  clear hb0
  unfold ordC at *
  go_enter Tryz.func25, Tryz.ntmps25
  go_wp2_with fail
  refine HV.out.mono ?_
  rintro e w1 ⟨⟨a, d, rfl⟩, hb1⟩
  have hb01 := below_step HB0.out hb1
  have hz1 : w.heap.size < w1.heap.size := Nat.lt_of_lt_of_le (by rw [World.size_alloc]; omega) hb1.size
  have ho : w1.heap[w.heap.size]? = some (.cells (ordC 0 ⟨#[]⟩ 0) 57 (0, 0)) := (hb1.block _ (by rw [World.size_alloc]; omega)).trans (heap_alloc_new w _)
  have hgz : g < w1.heap.size := by omega
  have o0 := blk_cell ho 0
  have o1 := blk_cell ho 1
  have o2 := blk_cell ho 2
  have o3 := blk_cell ho 3
  have o4 := blk_cell ho 4
  have o5 := blk_cell ho 5
  have o6 := blk_cell ho 6
  have o7 := blk_cell ho 7
  have o8 := blk_cell ho 8
  have o9 := blk_cell ho 9
  have z0 := blk_frozen ho 0
  have z1 := blk_frozen ho 1
  have z2 := blk_frozen ho 2
  have z3 := blk_frozen ho 3
  have z4 := blk_frozen ho 4
  have z5 := blk_frozen ho 5
  have z6 := blk_frozen ho 6
  have z7 := blk_frozen ho 7
  have z8 := blk_frozen ho 8
  have z9 := blk_frozen ho 9
  simp only [ordC, List.getElem?_toArray, List.getElem?_cons_zero, List.getElem?_cons_succ] at o0 o1 o2 o3 o4 o5 o6 o7 o8 o9
  have HO := Lib.hid ho
  have HB1 := Lib.hid hb01
  clear hb1 hb01 ho
  go_wp2_with fail
  refine (most_8 _).mono ?_
  rintro e w2 ⟨rfl, rfl⟩
  go_wp2_with fail
  refine (noProxy_8 _).mono ?_
  rintro e w2 ⟨rfl, rfl⟩
  go_wp2_with fail
  have hb5 := ord_below HB1.out 8 ⟨#[]⟩ 0 w.heap.size (Nat.le_refl _)
  have ho5 := ord_set HO.out 8 ⟨#[]⟩ 0
  all_goals (unfold setOrd at hb5 ho5)
  all_goals (refine bodyPost_ret (ord_result ho5 rfl rfl) rfl ?_)
  all_goals (exact ⟨rfl, hb5⟩)
end Go.Proofs.YtdpfmemcpipbkaaGreatDoor.Hand
end
section
/- order.Parse of the law's lines. -/
namespace Go.Proofs.YtdpfmemcpipbkaaGreatDoor.Hand
open Go.RowKit
set_option linter.unusedVariables false
set_option linter.unusedSimpArgs false
theorem add_lit' (g j : Nat) : (⟨g, 0, none⟩ : Addr).add j = ⟨g, j, none⟩ := by rw [Addr.add_lit, Nat.zero_add]
theorem row_some {w : World} {B e size n : Nat} {v : Value} {xs : List Value} (h : w.ownsRow B e size v n xs) (hn : 1 ≤ n) : ∃ g c, v = .slice (some ⟨g, 0, none⟩) n c ∧ B ≤ g ∧ g < w.heap.size ∧ n ≤ c ∧ ∀ j u, xs[j]? = some u → w.cell? ⟨g, j, none⟩ = some u := by
  rcases h.2 with ⟨_, h2⟩ | ⟨g, cap, cur, hv, hb, hh, hc, _⟩
  · omega
  · refine ⟨g, cap, hv, hb, blk_lt hh, hc, fun j u hj => ?_⟩
    have := h.cells (g := g) (by rw [hv]; rfl) j u hj
    rwa [add_lit'] at this
def Parses (s : ByteArray) (v : Int) (p : ByteArray) (m : Int) : Prop := ∀ w, Sp w → Calls Tryz.prog 12 #[.string s] w fun e w' => e = .returned (.tuple #[.agg (ordC v p m), .int .i64 0]) ∧ Below w.heap.size w w'
set_option maxHeartbeats 4000000 in
set_option maxRecDepth 100000 in
theorem ord_result2 {w : World} {b : Nat} {t : Array Value} {v : Int} {s : ByteArray} {m : Int} (h : w.heap[b]? = some (.cells (ordC v s m) 57 (0, 0))) (h2 : t[2]?.getD undef = .pointer (some ⟨b, 0, none⟩)) (h3 : t[3]?.getD undef = .int .i64 0) : (results Tryz.f12 t).run Tryz.prog w = .ok (.tuple #[.agg (ordC v s m), .int .i64 0]) w := by
  have o0 := blk_cell h 0
  have o1 := blk_cell h 1
  have o2 := blk_cell h 2
  have o3 := blk_cell h 3
  have o4 := blk_cell h 4
  have o5 := blk_cell h 5
  have o6 := blk_cell h 6
  have o7 := blk_cell h 7
  have o8 := blk_cell h 8
  have o9 := blk_cell h 9
  simp only [ordC, List.getElem?_toArray, List.getElem?_cons_zero, List.getElem?_cons_succ] at o0 o1 o2 o3 o4 o5 o6 o7 o8 o9
  unfold ordC
  simp [results, Tryz.results12, go_sem, h2, h3, o0, o1, o2, o3, o4, o5, o6, o7, o8, o9]
set_option maxHeartbeats 16000000 in
set_option maxRecDepth 100000 in
theorem parse_calls (s : ByteArray) (hs : s.size ≤ 256) (hc : ∀ k (h : k < s.size), s[k] = 32 ∨ plainC s[k]) (R : List (List UInt8)) (hR : R = wordsOf none s.data.toList) (hR16 : R.length ≤ 16) (h1 : 1 ≤ R.length) (v : Int) (p : ByteArray) (m : Int)
    (hF : ∀ W g c, Sp W → g < W.heap.size → R.length ≤ c → (∀ j u, (R.map strV)[j]? = some u → W.cell? ⟨g, j, none⟩ = some u) → Calls Tryz.prog 25 #[.slice (some ⟨g, 0, none⟩) R.length c] W fun e w' => e = .returned (.tuple #[.agg (ordC v p m), .int .i64 0]) ∧ Below W.heap.size W w') : Parses s v p m := by
  intro w hS
  have hb0 : Below w.heap.size w (w.alloc (.cells (ordC 0 ⟨#[]⟩ 0) 57)) := below_alloc (Below.refl _ w) _ (Nat.le_refl _)
  have HSP := Lib.hid (split_calls s hs hc R hR hR16 (w.alloc (.cells (ordC 0 ⟨#[]⟩ 0) 57)))
  have hoa := heap_alloc_new w (.cells (ordC 0 ⟨#[]⟩ 0) 57)
  have HB0 := Lib.hid hb0
  have HF := Lib.hid hF
  have HS := Lib.hid hS
  clear hb0 hc hR hF hS
  unfold ordC at *
  go_enter Tryz.func12, Tryz.ntmps12
  go_wp2_with fail
  refine HSP.out.mono ?_
  rintro e w1 ⟨lv, rfl, hrow, hb1⟩
  obtain ⟨g, c, rfl, hBg, hg1, hnc, hcl⟩ := row_some hrow h1
  have hz1 : w.heap.size < w1.heap.size := Nat.lt_of_lt_of_le (by rw [World.size_alloc]; omega) hb1.size
  have hb01 := below_step HB0.out hb1
  have ho1 := (hb1.block w.heap.size (by rw [World.size_alloc]; omega)).trans hoa
  have HF1 := Lib.hid (HF.out w1 g c (HS.out.below hb01 HS.out.1) hg1 hnc hcl)
  have HB1 := Lib.hid hb01
  have HO1 := Lib.hid ho1
  clear hrow hb1 hb01 ho1 hcl hoa
  go_wp2_with fail
  refine HF1.out.mono ?_
  rintro e w2 ⟨rfl, hb2⟩
  have HB2 := Lib.hid (HB1.out.trans (hb2.mono (Nat.le_of_lt hz1)))
  have hw3 := (hb2.block w.heap.size hz1).trans HO1.out
  have HW3 := Lib.hid hw3
  have y0 := blk_cell hw3 0
  have y1 := blk_cell hw3 1
  have y2 := blk_cell hw3 2
  have y3 := blk_cell hw3 3
  have y4 := blk_cell hw3 4
  have y5 := blk_cell hw3 5
  have y6 := blk_cell hw3 6
  have y7 := blk_cell hw3 7
  have y8 := blk_cell hw3 8
  have y9 := blk_cell hw3 9
  have x0 := blk_frozen hw3 0
  have x1 := blk_frozen hw3 1
  have x2 := blk_frozen hw3 2
  have x3 := blk_frozen hw3 3
  have x4 := blk_frozen hw3 4
  have x5 := blk_frozen hw3 5
  have x6 := blk_frozen hw3 6
  have x7 := blk_frozen hw3 7
  have x8 := blk_frozen hw3 8
  have x9 := blk_frozen hw3 9
  simp only [List.getElem?_toArray, List.getElem?_cons_zero, List.getElem?_cons_succ] at y0 y1 y2 y3 y4 y5 y6 y7 y8 y9
  clear hw3 hb2
  go_wp2_with fail
  have hb5 := ord_below HB2.out v p m w.heap.size (Nat.le_refl _)
  have ho5 := ord_set HW3.out v p m
  unfold setOrd at hb5 ho5
  refine bodyPost_ret (ord_result2 ho5 rfl rfl) rfl ?_
  exact ⟨rfl, hb5⟩
theorem line_1_0 : Parses ⟨#[112, 114, 111, 120, 121, 32, 97, 100, 100, 32, 97, 32, 51]⟩ 1 (nm 0) 3 :=
  parse_calls ⟨#[112, 114, 111, 120, 121, 32, 97, 100, 100, 32, 97, 32, 51]⟩ (by decide) (by unfold plainC; decide) [[112, 114, 111, 120, 121], [97, 100, 100], [97], [51]] (by decide) (by decide) (by decide) 1 (nm 0) 3 fun W g c hS hg hn h => from_1 g c (nm 0) 3 ⟨#[51]⟩ W hS hg hn (h 0 _ rfl) (h 1 _ rfl) (h 2 _ rfl) (h 3 _ rfl) (by decide)
theorem line_2_0 : Parses ⟨#[112, 114, 111, 120, 121, 32, 100, 114, 111, 112, 32, 97]⟩ 2 (nm 0) 0 :=
  parse_calls ⟨#[112, 114, 111, 120, 121, 32, 100, 114, 111, 112, 32, 97]⟩ (by decide) (by unfold plainC; decide) [[112, 114, 111, 120, 121], [100, 114, 111, 112], [97]] (by decide) (by decide) (by decide) 2 (nm 0) 0 fun W g c hS hg hn h => from_2 g c (nm 0) W hS hg hn (h 0 _ rfl) (h 1 _ rfl) (h 2 _ rfl)
theorem line_3_0 : Parses ⟨#[111, 110, 32, 97]⟩ 3 (nm 0) 0 :=
  parse_calls ⟨#[111, 110, 32, 97]⟩ (by decide) (by unfold plainC; decide) [[111, 110], [97]] (by decide) (by decide) (by decide) 3 (nm 0) 0 fun W g c hS hg hn h => from_3 g c (nm 0) W hS hg hn (h 0 _ rfl) (h 1 _ rfl)
theorem line_4_0 : Parses ⟨#[111, 102, 102, 32, 97]⟩ 4 (nm 0) 0 :=
  parse_calls ⟨#[111, 102, 102, 32, 97]⟩ (by decide) (by unfold plainC; decide) [[111, 102, 102], [97]] (by decide) (by decide) (by decide) 4 (nm 0) 0 fun W g c hS hg hn h => from_4 g c (nm 0) W hS hg hn (h 0 _ rfl) (h 1 _ rfl)
theorem line_1_1 : Parses ⟨#[112, 114, 111, 120, 121, 32, 97, 100, 100, 32, 98, 32, 51]⟩ 1 (nm 1) 3 :=
  parse_calls ⟨#[112, 114, 111, 120, 121, 32, 97, 100, 100, 32, 98, 32, 51]⟩ (by decide) (by unfold plainC; decide) [[112, 114, 111, 120, 121], [97, 100, 100], [98], [51]] (by decide) (by decide) (by decide) 1 (nm 1) 3 fun W g c hS hg hn h => from_1 g c (nm 1) 3 ⟨#[51]⟩ W hS hg hn (h 0 _ rfl) (h 1 _ rfl) (h 2 _ rfl) (h 3 _ rfl) (by decide)
theorem line_2_1 : Parses ⟨#[112, 114, 111, 120, 121, 32, 100, 114, 111, 112, 32, 98]⟩ 2 (nm 1) 0 :=
  parse_calls ⟨#[112, 114, 111, 120, 121, 32, 100, 114, 111, 112, 32, 98]⟩ (by decide) (by unfold plainC; decide) [[112, 114, 111, 120, 121], [100, 114, 111, 112], [98]] (by decide) (by decide) (by decide) 2 (nm 1) 0 fun W g c hS hg hn h => from_2 g c (nm 1) W hS hg hn (h 0 _ rfl) (h 1 _ rfl) (h 2 _ rfl)
theorem line_3_1 : Parses ⟨#[111, 110, 32, 98]⟩ 3 (nm 1) 0 :=
  parse_calls ⟨#[111, 110, 32, 98]⟩ (by decide) (by unfold plainC; decide) [[111, 110], [98]] (by decide) (by decide) (by decide) 3 (nm 1) 0 fun W g c hS hg hn h => from_3 g c (nm 1) W hS hg hn (h 0 _ rfl) (h 1 _ rfl)
theorem line_4_1 : Parses ⟨#[111, 102, 102, 32, 98]⟩ 4 (nm 1) 0 :=
  parse_calls ⟨#[111, 102, 102, 32, 98]⟩ (by decide) (by unfold plainC; decide) [[111, 102, 102], [98]] (by decide) (by decide) (by decide) 4 (nm 1) 0 fun W g c hS hg hn h => from_4 g c (nm 1) W hS hg hn (h 0 _ rfl) (h 1 _ rfl)
theorem line_1_2 : Parses ⟨#[112, 114, 111, 120, 121, 32, 97, 100, 100, 32, 98, 45, 49, 32, 51]⟩ 1 (nm 2) 3 :=
  parse_calls ⟨#[112, 114, 111, 120, 121, 32, 97, 100, 100, 32, 98, 45, 49, 32, 51]⟩ (by decide) (by unfold plainC; decide) [[112, 114, 111, 120, 121], [97, 100, 100], [98, 45, 49], [51]] (by decide) (by decide) (by decide) 1 (nm 2) 3 fun W g c hS hg hn h => from_1 g c (nm 2) 3 ⟨#[51]⟩ W hS hg hn (h 0 _ rfl) (h 1 _ rfl) (h 2 _ rfl) (h 3 _ rfl) (by decide)
theorem line_2_2 : Parses ⟨#[112, 114, 111, 120, 121, 32, 100, 114, 111, 112, 32, 98, 45, 49]⟩ 2 (nm 2) 0 :=
  parse_calls ⟨#[112, 114, 111, 120, 121, 32, 100, 114, 111, 112, 32, 98, 45, 49]⟩ (by decide) (by unfold plainC; decide) [[112, 114, 111, 120, 121], [100, 114, 111, 112], [98, 45, 49]] (by decide) (by decide) (by decide) 2 (nm 2) 0 fun W g c hS hg hn h => from_2 g c (nm 2) W hS hg hn (h 0 _ rfl) (h 1 _ rfl) (h 2 _ rfl)
theorem line_3_2 : Parses ⟨#[111, 110, 32, 98, 45, 49]⟩ 3 (nm 2) 0 :=
  parse_calls ⟨#[111, 110, 32, 98, 45, 49]⟩ (by decide) (by unfold plainC; decide) [[111, 110], [98, 45, 49]] (by decide) (by decide) (by decide) 3 (nm 2) 0 fun W g c hS hg hn h => from_3 g c (nm 2) W hS hg hn (h 0 _ rfl) (h 1 _ rfl)
theorem line_4_2 : Parses ⟨#[111, 102, 102, 32, 98, 45, 49]⟩ 4 (nm 2) 0 :=
  parse_calls ⟨#[111, 102, 102, 32, 98, 45, 49]⟩ (by decide) (by unfold plainC; decide) [[111, 102, 102], [98, 45, 49]] (by decide) (by decide) (by decide) 4 (nm 2) 0 fun W g c hS hg hn h => from_4 g c (nm 2) W hS hg hn (h 0 _ rfl) (h 1 _ rfl)
theorem line_1_3 : Parses ⟨#[112, 114, 111, 120, 121, 32, 97, 100, 100, 32, 99, 32, 51]⟩ 1 (nm 3) 3 :=
  parse_calls ⟨#[112, 114, 111, 120, 121, 32, 97, 100, 100, 32, 99, 32, 51]⟩ (by decide) (by unfold plainC; decide) [[112, 114, 111, 120, 121], [97, 100, 100], [99], [51]] (by decide) (by decide) (by decide) 1 (nm 3) 3 fun W g c hS hg hn h => from_1 g c (nm 3) 3 ⟨#[51]⟩ W hS hg hn (h 0 _ rfl) (h 1 _ rfl) (h 2 _ rfl) (h 3 _ rfl) (by decide)
theorem line_2_3 : Parses ⟨#[112, 114, 111, 120, 121, 32, 100, 114, 111, 112, 32, 99]⟩ 2 (nm 3) 0 :=
  parse_calls ⟨#[112, 114, 111, 120, 121, 32, 100, 114, 111, 112, 32, 99]⟩ (by decide) (by unfold plainC; decide) [[112, 114, 111, 120, 121], [100, 114, 111, 112], [99]] (by decide) (by decide) (by decide) 2 (nm 3) 0 fun W g c hS hg hn h => from_2 g c (nm 3) W hS hg hn (h 0 _ rfl) (h 1 _ rfl) (h 2 _ rfl)
theorem line_3_3 : Parses ⟨#[111, 110, 32, 99]⟩ 3 (nm 3) 0 :=
  parse_calls ⟨#[111, 110, 32, 99]⟩ (by decide) (by unfold plainC; decide) [[111, 110], [99]] (by decide) (by decide) (by decide) 3 (nm 3) 0 fun W g c hS hg hn h => from_3 g c (nm 3) W hS hg hn (h 0 _ rfl) (h 1 _ rfl)
theorem line_4_3 : Parses ⟨#[111, 102, 102, 32, 99]⟩ 4 (nm 3) 0 :=
  parse_calls ⟨#[111, 102, 102, 32, 99]⟩ (by decide) (by unfold plainC; decide) [[111, 102, 102], [99]] (by decide) (by decide) (by decide) 4 (nm 3) 0 fun W g c hS hg hn h => from_4 g c (nm 3) W hS hg hn (h 0 _ rfl) (h 1 _ rfl)
theorem line_8 : Parses ⟨#[108, 105, 115, 116]⟩ 8 ⟨#[]⟩ 0 :=
  parse_calls ⟨#[108, 105, 115, 116]⟩ (by decide) (by unfold plainC; decide) [[108, 105, 115, 116]] (by decide) (by decide) (by decide) 8 ⟨#[]⟩ 0 fun W g c hS hg hn h => from_8 g c W hS hg hn (h 0 _ rfl)
theorem line_life : Parses ⟨#[112, 114, 111, 120, 121, 32, 97, 100, 100, 32, 97, 32, 49]⟩ 1 (nm 0) 1 :=
  parse_calls ⟨#[112, 114, 111, 120, 121, 32, 97, 100, 100, 32, 97, 32, 49]⟩ (by decide) (by unfold plainC; decide) [[112, 114, 111, 120, 121], [97, 100, 100], [97], [49]] (by decide) (by decide) (by decide) 1 (nm 0) 1 fun W g c hS hg hn h => from_1 g c (nm 0) 1 ⟨#[49]⟩ W hS hg hn (h 0 _ rfl) (h 1 _ rfl) (h 2 _ rfl) (h 3 _ rfl) (by decide)
end Go.Proofs.YtdpfmemcpipbkaaGreatDoor.Hand
end
section
/- strconv.Itoa of 141 and 142; desk.Fail. -/
namespace Go.Proofs.YtdpfmemcpipbkaaGreatDoor.Hand
open Go.RowKit
set_option linter.unusedVariables false
set_option linter.unusedSimpArgs false
set_option maxHeartbeats 4000000 in
set_option maxRecDepth 100000 in
theorem len64_e (e : Int) (he : e = 141 ∨ e = 142) (w : World) : Calls Tryz.prog 175 #[.int .u64 e] w fun e w' => e = .returned (.int .i64 8) ∧ w = w' := by
  rcases he with rfl | rfl
  all_goals
    go_enter Tryz.func175, Tryz.ntmps175
    go_wp2_with fail
    go_ret
    refine ⟨?_, rfl⟩
    kernel_rfl
set_option maxHeartbeats 4000000 in
set_option maxRecDepth 100000 in
theorem log_8 (w : World) : Calls Tryz.prog 214 #[.int .i64 8] w fun e w' => e = .returned (.int .i64 2) ∧ w = w' := by
  go_enter Tryz.func214, Tryz.ntmps214
  go_wp2_with fail
  go_ret
  exact ⟨rfl, rfl⟩
set_option maxHeartbeats 4000000 in
set_option maxRecDepth 100000 in
theorem b2_yes (w : World) : Calls Tryz.prog 215 #[.bool true] w fun e w' => e = .returned (.int .i64 1) ∧ w = w' := by
  go_enter Tryz.func215, Tryz.ntmps215
  go_wp2_with fail
  go_ret
  exact ⟨rfl, rfl⟩
set_option maxHeartbeats 4000000 in
set_option maxRecDepth 100000 in
theorem digits_e (e : Int) (he : e = 141 ∨ e = 142) (w : World) (hp : w.cell? ⟨2, 2, none⟩ = some (.int .u64 100)) : Calls Tryz.prog 162 #[.int .u64 e] w fun e w' => e = .returned (.int .i64 3) ∧ w = w' := by
  have hge : decide (100 ≤ e) = true := decide_eq_true (by omega)
  go_enter Tryz.func162, Tryz.ntmps162
  go_wp2_with fail
  refine (len64_e e he _).mono ?_
  rintro e w1 ⟨rfl, rfl⟩
  go_wp2_with fail
  refine (log_8 _).mono ?_
  rintro e w1 ⟨rfl, rfl⟩
  go_wp2_with fail
  refine (b2_yes _).mono ?_
  rintro e w1 ⟨rfl, rfl⟩
  go_wp2_with fail
  go_ret
  exact ⟨rfl, rfl⟩
set_option maxHeartbeats 4000000 in
set_option maxRecDepth 100000 in
theorem base10_141 (b c : Nat) (w : World) (f1 : w.frozen? ⟨b, 1, none⟩ = false) (f2 : w.frozen? ⟨b, 2, none⟩ = false) (f3 : w.frozen? ⟨b, 3, none⟩ = false) (c1 : w.cell? ⟨b, 1, none⟩ = some (.int .u8 0)) (c2 : w.cell? ⟨b, 2, none⟩ = some (.int .u8 0)) (c3 : w.cell? ⟨b, 3, none⟩ = some (.int .u8 0)) : Calls Tryz.prog 163 #[.slice (some ⟨b, 1, none⟩) 3 c, .int .u64 141] w fun e w' => e = .returned (.tuple #[]) ∧ w' = (((w.setCell ⟨b, 3, none⟩ (.int .u8 49)).setCell ⟨b, 2, none⟩ (.int .u8 52)).setCell ⟨b, 1, none⟩ (.int .u8 49)).drew := by
  have k82 : IntKind.u32.wrap 82 = 82 := rfl
  have t82 : (82 : Int).toNat = 82 := rfl
  have x82 : ((⟨#[48, 48, 48, 49, 48, 50, 48, 51, 48, 52, 48, 53, 48, 54, 48, 55, 48, 56, 48, 57, 49, 48, 49, 49, 49, 50, 49, 51, 49, 52, 49, 53, 49, 54, 49, 55, 49, 56, 49, 57, 50, 48, 50, 49, 50, 50, 50, 51, 50, 52, 50, 53, 50, 54, 50, 55, 50, 56, 50, 57, 51, 48, 51, 49, 51, 50, 51, 51, 51, 52, 51, 53, 51, 54, 51, 55, 51, 56, 51, 57, 52, 48, 52, 49, 52, 50, 52, 51, 52, 52, 52, 53, 52, 54, 52, 55, 52, 56, 52, 57, 53, 48, 53, 49, 53, 50, 53, 51, 53, 52, 53, 53, 53, 54, 53, 55, 53, 56, 53, 57, 54, 48, 54, 49, 54, 50, 54, 51, 54, 52, 54, 53, 54, 54, 54, 55, 54, 56, 54, 57, 55, 48, 55, 49, 55, 50, 55, 51, 55, 52, 55, 53, 55, 54, 55, 55, 55, 56, 55, 57, 56, 48, 56, 49, 56, 50, 56, 51, 56, 52, 56, 53, 56, 54, 56, 55, 56, 56, 56, 57, 57, 48, 57, 49, 57, 50, 57, 51, 57, 52, 57, 53, 57, 54, 57, 55, 57, 56, 57, 57]⟩ : ByteArray)[82]'(by decide)).toNat = 52 := by decide
  have k83 : IntKind.u32.wrap 83 = 83 := rfl
  have t83 : (83 : Int).toNat = 83 := rfl
  have x83 : ((⟨#[48, 48, 48, 49, 48, 50, 48, 51, 48, 52, 48, 53, 48, 54, 48, 55, 48, 56, 48, 57, 49, 48, 49, 49, 49, 50, 49, 51, 49, 52, 49, 53, 49, 54, 49, 55, 49, 56, 49, 57, 50, 48, 50, 49, 50, 50, 50, 51, 50, 52, 50, 53, 50, 54, 50, 55, 50, 56, 50, 57, 51, 48, 51, 49, 51, 50, 51, 51, 51, 52, 51, 53, 51, 54, 51, 55, 51, 56, 51, 57, 52, 48, 52, 49, 52, 50, 52, 51, 52, 52, 52, 53, 52, 54, 52, 55, 52, 56, 52, 57, 53, 48, 53, 49, 53, 50, 53, 51, 53, 52, 53, 53, 53, 54, 53, 55, 53, 56, 53, 57, 54, 48, 54, 49, 54, 50, 54, 51, 54, 52, 54, 53, 54, 54, 54, 55, 54, 56, 54, 57, 55, 48, 55, 49, 55, 50, 55, 51, 55, 52, 55, 53, 55, 54, 55, 55, 55, 56, 55, 57, 56, 48, 56, 49, 56, 50, 56, 51, 56, 52, 56, 53, 56, 54, 56, 55, 56, 56, 56, 57, 57, 48, 57, 49, 57, 50, 57, 51, 57, 52, 57, 53, 57, 54, 57, 55, 57, 56, 57, 57]⟩ : ByteArray)[83]'(by decide)).toNat = 49 := by decide
  have w1 : IntKind.i64.wrap 1 = 1 := rfl
  have w2 : IntKind.i64.wrap 2 = 2 := rfl
  go_enter Tryz.func163, Tryz.ntmps163
  go_wp2_with fail
  refine wp_loop_rounds 1 ?_
  rw [rounds_succ]
  go_wp2_with fail
  refine start_n (S := fun W => True) 15 #[false, false, false, false, false, false, false, false, false, false, false, false, false, false, false] (by kernel_rfl) rfl rfl ?_ (fun hHeld => ?_)
  · (try dsimp only)
    all_goals trivial
  refine take_n 0 (some 145) #[true, false, false, false, false, false, false, false, false, false, false, false, false, false, false] (v := ?_) (a' := ?_) rfl rfl rfl (by kernel_rfl) (by kernel_rfl) (by kernel_rfl) (fun _ _ _ _ h => h) (Or.inl ⟨by rfl, ?_⟩) hHeld ?_ ?_
  rotate_left 2
  · intro w hSw
    (try dsimp only at hSw)
    go_simp
    all_goals (with_reducible rfl)
  · simp only [Act.put, List.setIfInBounds_toArray, List.set_cons_zero, List.set_cons_succ]
    rfl
  refine take_n 1 (some 146) #[true, true, false, false, false, false, false, false, false, false, false, false, false, false, false] (v := ?_) (a' := ?_) rfl rfl rfl (by kernel_rfl) (by kernel_rfl) (by kernel_rfl) (fun _ _ _ _ h => h) (Or.inl ⟨by rfl, ?_⟩) hHeld ?_ ?_
  rotate_left 2
  · intro w hSw
    (try dsimp only at hSw)
    go_simp
    all_goals (with_reducible rfl)
  · simp only [Act.put, List.setIfInBounds_toArray, List.set_cons_zero, List.set_cons_succ]
    rfl
  refine take_n 2 (some 147) #[true, true, true, false, false, false, false, false, false, false, false, false, false, false, false] (v := ?_) (a' := ?_) rfl rfl rfl (by kernel_rfl) (by kernel_rfl) (by kernel_rfl) (fun _ _ _ _ h => h) (Or.inl ⟨by rfl, ?_⟩) hHeld ?_ ?_
  rotate_left 2
  · intro w hSw
    (try dsimp only at hSw)
    go_simp
    all_goals (with_reducible rfl)
  · simp only [Act.put, List.setIfInBounds_toArray, List.set_cons_zero, List.set_cons_succ]
    rfl
  refine take_n 3 (some 148) #[true, true, true, true, false, false, false, false, false, false, false, false, false, false, false] (v := ?_) (a' := ?_) rfl rfl rfl (by kernel_rfl) (by kernel_rfl) (by kernel_rfl) (fun _ _ _ _ h => h) (Or.inl ⟨by rfl, ?_⟩) hHeld ?_ ?_
  rotate_left 2
  · intro w hSw
    (try dsimp only at hSw)
    go_simp
    all_goals (with_reducible rfl)
  · simp only [Act.put, List.setIfInBounds_toArray, List.set_cons_zero, List.set_cons_succ]
    rfl
  refine take_n 4 (some 149) #[true, true, true, true, true, false, false, false, false, false, false, false, false, false, false] (v := ?_) (a' := ?_) rfl rfl rfl (by kernel_rfl) (by kernel_rfl) (by kernel_rfl) (fun _ _ _ _ h => h) (Or.inl ⟨by rfl, ?_⟩) hHeld ?_ ?_
  rotate_left 2
  · intro w hSw
    (try dsimp only at hSw)
    go_simp
    all_goals (with_reducible rfl)
  · simp only [Act.put, List.setIfInBounds_toArray, List.set_cons_zero, List.set_cons_succ]
    rfl
  refine take_n 5 (some 150) #[true, true, true, true, true, true, false, false, false, false, false, false, false, false, false] (v := ?_) (a' := ?_) rfl rfl rfl (by kernel_rfl) (by kernel_rfl) (by kernel_rfl) (fun _ _ _ _ h => h) (Or.inl ⟨by rfl, ?_⟩) hHeld ?_ ?_
  rotate_left 2
  · intro w hSw
    (try dsimp only at hSw)
    go_simp
    all_goals (with_reducible rfl)
  · simp only [Act.put, List.setIfInBounds_toArray, List.set_cons_zero, List.set_cons_succ]
    rfl
  refine take_n 6 (some 151) #[true, true, true, true, true, true, true, false, false, false, false, false, false, false, false] (v := ?_) (a' := ?_) rfl rfl rfl (by kernel_rfl) (by kernel_rfl) (by kernel_rfl) (fun _ _ _ _ h => h) (Or.inl ⟨by rfl, ?_⟩) hHeld ?_ ?_
  rotate_left 2
  · intro w hSw
    (try dsimp only at hSw)
    go_simp
    all_goals (with_reducible rfl)
  · simp only [Act.put, List.setIfInBounds_toArray, List.set_cons_zero, List.set_cons_succ]
    rfl
  refine take_n 7 (some 152) #[true, true, true, true, true, true, true, true, false, false, false, false, false, false, false] (v := ?_) (a' := ?_) rfl rfl rfl (by kernel_rfl) (by kernel_rfl) (by kernel_rfl) (fun _ _ _ _ h => h) (Or.inl ⟨by rfl, ?_⟩) hHeld ?_ ?_
  rotate_left 2
  · intro w hSw
    (try dsimp only at hSw)
    go_simp
    all_goals (with_reducible rfl)
  · simp only [Act.put, List.setIfInBounds_toArray, List.set_cons_zero, List.set_cons_succ]
    rfl
  refine take_n 8 (some 153) #[true, true, true, true, true, true, true, true, true, false, false, false, false, false, false] (v := ?_) (a' := ?_) rfl rfl rfl (by kernel_rfl) (by kernel_rfl) (by kernel_rfl) (fun _ _ _ _ h => h) (Or.inl ⟨by rfl, ?_⟩) hHeld ?_ ?_
  rotate_left 2
  · intro w hSw
    (try dsimp only at hSw)
    go_simp
    all_goals (with_reducible rfl)
  · simp only [Act.put, List.setIfInBounds_toArray, List.set_cons_zero, List.set_cons_succ]
    rfl
  refine take_n 9 (some 154) #[true, true, true, true, true, true, true, true, true, true, false, false, false, false, false] (v := ?_) (a' := ?_) rfl rfl rfl (by kernel_rfl) (by kernel_rfl) (by kernel_rfl) (fun _ _ _ _ h => h) (Or.inl ⟨by rfl, ?_⟩) hHeld ?_ ?_
  rotate_left 2
  · intro w hSw
    (try dsimp only at hSw)
    go_simp
    all_goals (with_reducible rfl)
  · simp only [Act.put, List.setIfInBounds_toArray, List.set_cons_zero, List.set_cons_succ]
    rfl
  refine take_n 10 (some 155) #[true, true, true, true, true, true, true, true, true, true, true, false, false, false, false] (v := ?_) (a' := ?_) rfl rfl rfl (by kernel_rfl) (by kernel_rfl) (by kernel_rfl) (fun _ _ _ _ h => h) (Or.inl ⟨by rfl, ?_⟩) hHeld ?_ ?_
  rotate_left 2
  · intro w hSw
    (try dsimp only at hSw)
    go_simp
    all_goals (with_reducible rfl)
  · simp only [Act.put, List.setIfInBounds_toArray, List.set_cons_zero, List.set_cons_succ]
    rfl
  refine take_n 11 (some 156) #[true, true, true, true, true, true, true, true, true, true, true, true, false, false, false] (v := ?_) (a' := ?_) rfl rfl rfl (by kernel_rfl) (by kernel_rfl) (by kernel_rfl) (fun _ _ _ _ h => h) (Or.inl ⟨by rfl, ?_⟩) hHeld ?_ ?_
  rotate_left 2
  · intro w hSw
    (try dsimp only at hSw)
    go_simp
    all_goals (with_reducible rfl)
  · simp only [Act.put, List.setIfInBounds_toArray, List.set_cons_zero, List.set_cons_succ]
    rfl
  refine one_n 12 #[true, true, true, true, true, true, true, true, true, true, true, true, true, false, false] rfl rfl (by kernel_rfl) (fun K hK => ?_)
  go_simp
  refine hK.out _ ?_ _ ?_ ?_ (fun hHeld => ?_)
  rotate_left
  · (try simp only [Act.put, List.setIfInBounds_toArray, List.set_cons_zero, List.set_cons_succ])
    rfl
  · (try dsimp only)
    all_goals trivial
  clear hK K
  refine take_n 13 (some 157) #[true, true, true, true, true, true, true, true, true, true, true, true, true, true, false] (v := ?_) (a' := ?_) rfl rfl rfl (by kernel_rfl) (by kernel_rfl) (by kernel_rfl) (fun _ _ _ _ h => h) (Or.inl ⟨by rfl, ?_⟩) hHeld ?_ ?_
  rotate_left 2
  · intro w hSw
    (try dsimp only at hSw)
    go_simp
    all_goals (with_reducible rfl)
  · simp only [Act.put, List.setIfInBounds_toArray, List.set_cons_zero, List.set_cons_succ]
    rfl
  refine one_n 14 #[true, true, true, true, true, true, true, true, true, true, true, true, true, true, true] rfl rfl (by kernel_rfl) (fun K hK => ?_)
  go_simp
  refine hK.out _ ?_ _ ?_ ?_ (fun hHeld => ?_)
  rotate_left
  · (try simp only [Act.put, List.setIfInBounds_toArray, List.set_cons_zero, List.set_cons_succ])
    rfl
  · (try dsimp only)
    all_goals trivial
  clear hK K
  refine wpAnyH_done (by kernel_rfl) ?_ _
  go_wp2_with fail
  refine bodyPost_end (results_none rfl _ _ _) rfl ?_
  exact ⟨rfl, rfl⟩
set_option maxHeartbeats 4000000 in
set_option maxRecDepth 100000 in
theorem base10_142 (b c : Nat) (w : World) (f1 : w.frozen? ⟨b, 1, none⟩ = false) (f2 : w.frozen? ⟨b, 2, none⟩ = false) (f3 : w.frozen? ⟨b, 3, none⟩ = false) (c1 : w.cell? ⟨b, 1, none⟩ = some (.int .u8 0)) (c2 : w.cell? ⟨b, 2, none⟩ = some (.int .u8 0)) (c3 : w.cell? ⟨b, 3, none⟩ = some (.int .u8 0)) : Calls Tryz.prog 163 #[.slice (some ⟨b, 1, none⟩) 3 c, .int .u64 142] w fun e w' => e = .returned (.tuple #[]) ∧ w' = (((w.setCell ⟨b, 3, none⟩ (.int .u8 50)).setCell ⟨b, 2, none⟩ (.int .u8 52)).setCell ⟨b, 1, none⟩ (.int .u8 49)).drew := by
  have k84 : IntKind.u32.wrap 84 = 84 := rfl
  have t84 : (84 : Int).toNat = 84 := rfl
  have x84 : ((⟨#[48, 48, 48, 49, 48, 50, 48, 51, 48, 52, 48, 53, 48, 54, 48, 55, 48, 56, 48, 57, 49, 48, 49, 49, 49, 50, 49, 51, 49, 52, 49, 53, 49, 54, 49, 55, 49, 56, 49, 57, 50, 48, 50, 49, 50, 50, 50, 51, 50, 52, 50, 53, 50, 54, 50, 55, 50, 56, 50, 57, 51, 48, 51, 49, 51, 50, 51, 51, 51, 52, 51, 53, 51, 54, 51, 55, 51, 56, 51, 57, 52, 48, 52, 49, 52, 50, 52, 51, 52, 52, 52, 53, 52, 54, 52, 55, 52, 56, 52, 57, 53, 48, 53, 49, 53, 50, 53, 51, 53, 52, 53, 53, 53, 54, 53, 55, 53, 56, 53, 57, 54, 48, 54, 49, 54, 50, 54, 51, 54, 52, 54, 53, 54, 54, 54, 55, 54, 56, 54, 57, 55, 48, 55, 49, 55, 50, 55, 51, 55, 52, 55, 53, 55, 54, 55, 55, 55, 56, 55, 57, 56, 48, 56, 49, 56, 50, 56, 51, 56, 52, 56, 53, 56, 54, 56, 55, 56, 56, 56, 57, 57, 48, 57, 49, 57, 50, 57, 51, 57, 52, 57, 53, 57, 54, 57, 55, 57, 56, 57, 57]⟩ : ByteArray)[84]'(by decide)).toNat = 52 := by decide
  have k85 : IntKind.u32.wrap 85 = 85 := rfl
  have t85 : (85 : Int).toNat = 85 := rfl
  have x85 : ((⟨#[48, 48, 48, 49, 48, 50, 48, 51, 48, 52, 48, 53, 48, 54, 48, 55, 48, 56, 48, 57, 49, 48, 49, 49, 49, 50, 49, 51, 49, 52, 49, 53, 49, 54, 49, 55, 49, 56, 49, 57, 50, 48, 50, 49, 50, 50, 50, 51, 50, 52, 50, 53, 50, 54, 50, 55, 50, 56, 50, 57, 51, 48, 51, 49, 51, 50, 51, 51, 51, 52, 51, 53, 51, 54, 51, 55, 51, 56, 51, 57, 52, 48, 52, 49, 52, 50, 52, 51, 52, 52, 52, 53, 52, 54, 52, 55, 52, 56, 52, 57, 53, 48, 53, 49, 53, 50, 53, 51, 53, 52, 53, 53, 53, 54, 53, 55, 53, 56, 53, 57, 54, 48, 54, 49, 54, 50, 54, 51, 54, 52, 54, 53, 54, 54, 54, 55, 54, 56, 54, 57, 55, 48, 55, 49, 55, 50, 55, 51, 55, 52, 55, 53, 55, 54, 55, 55, 55, 56, 55, 57, 56, 48, 56, 49, 56, 50, 56, 51, 56, 52, 56, 53, 56, 54, 56, 55, 56, 56, 56, 57, 57, 48, 57, 49, 57, 50, 57, 51, 57, 52, 57, 53, 57, 54, 57, 55, 57, 56, 57, 57]⟩ : ByteArray)[85]'(by decide)).toNat = 50 := by decide
  have w1 : IntKind.i64.wrap 1 = 1 := rfl
  have w2 : IntKind.i64.wrap 2 = 2 := rfl
  go_enter Tryz.func163, Tryz.ntmps163
  go_wp2_with fail
  refine wp_loop_rounds 1 ?_
  rw [rounds_succ]
  go_wp2_with fail
  refine start_n (S := fun W => True) 15 #[false, false, false, false, false, false, false, false, false, false, false, false, false, false, false] (by kernel_rfl) rfl rfl ?_ (fun hHeld => ?_)
  · (try dsimp only)
    all_goals trivial
  refine take_n 0 (some 145) #[true, false, false, false, false, false, false, false, false, false, false, false, false, false, false] (v := ?_) (a' := ?_) rfl rfl rfl (by kernel_rfl) (by kernel_rfl) (by kernel_rfl) (fun _ _ _ _ h => h) (Or.inl ⟨by rfl, ?_⟩) hHeld ?_ ?_
  rotate_left 2
  · intro w hSw
    (try dsimp only at hSw)
    go_simp
    all_goals (with_reducible rfl)
  · simp only [Act.put, List.setIfInBounds_toArray, List.set_cons_zero, List.set_cons_succ]
    rfl
  refine take_n 1 (some 146) #[true, true, false, false, false, false, false, false, false, false, false, false, false, false, false] (v := ?_) (a' := ?_) rfl rfl rfl (by kernel_rfl) (by kernel_rfl) (by kernel_rfl) (fun _ _ _ _ h => h) (Or.inl ⟨by rfl, ?_⟩) hHeld ?_ ?_
  rotate_left 2
  · intro w hSw
    (try dsimp only at hSw)
    go_simp
    all_goals (with_reducible rfl)
  · simp only [Act.put, List.setIfInBounds_toArray, List.set_cons_zero, List.set_cons_succ]
    rfl
  refine take_n 2 (some 147) #[true, true, true, false, false, false, false, false, false, false, false, false, false, false, false] (v := ?_) (a' := ?_) rfl rfl rfl (by kernel_rfl) (by kernel_rfl) (by kernel_rfl) (fun _ _ _ _ h => h) (Or.inl ⟨by rfl, ?_⟩) hHeld ?_ ?_
  rotate_left 2
  · intro w hSw
    (try dsimp only at hSw)
    go_simp
    all_goals (with_reducible rfl)
  · simp only [Act.put, List.setIfInBounds_toArray, List.set_cons_zero, List.set_cons_succ]
    rfl
  refine take_n 3 (some 148) #[true, true, true, true, false, false, false, false, false, false, false, false, false, false, false] (v := ?_) (a' := ?_) rfl rfl rfl (by kernel_rfl) (by kernel_rfl) (by kernel_rfl) (fun _ _ _ _ h => h) (Or.inl ⟨by rfl, ?_⟩) hHeld ?_ ?_
  rotate_left 2
  · intro w hSw
    (try dsimp only at hSw)
    go_simp
    all_goals (with_reducible rfl)
  · simp only [Act.put, List.setIfInBounds_toArray, List.set_cons_zero, List.set_cons_succ]
    rfl
  refine take_n 4 (some 149) #[true, true, true, true, true, false, false, false, false, false, false, false, false, false, false] (v := ?_) (a' := ?_) rfl rfl rfl (by kernel_rfl) (by kernel_rfl) (by kernel_rfl) (fun _ _ _ _ h => h) (Or.inl ⟨by rfl, ?_⟩) hHeld ?_ ?_
  rotate_left 2
  · intro w hSw
    (try dsimp only at hSw)
    go_simp
    all_goals (with_reducible rfl)
  · simp only [Act.put, List.setIfInBounds_toArray, List.set_cons_zero, List.set_cons_succ]
    rfl
  refine take_n 5 (some 150) #[true, true, true, true, true, true, false, false, false, false, false, false, false, false, false] (v := ?_) (a' := ?_) rfl rfl rfl (by kernel_rfl) (by kernel_rfl) (by kernel_rfl) (fun _ _ _ _ h => h) (Or.inl ⟨by rfl, ?_⟩) hHeld ?_ ?_
  rotate_left 2
  · intro w hSw
    (try dsimp only at hSw)
    go_simp
    all_goals (with_reducible rfl)
  · simp only [Act.put, List.setIfInBounds_toArray, List.set_cons_zero, List.set_cons_succ]
    rfl
  refine take_n 6 (some 151) #[true, true, true, true, true, true, true, false, false, false, false, false, false, false, false] (v := ?_) (a' := ?_) rfl rfl rfl (by kernel_rfl) (by kernel_rfl) (by kernel_rfl) (fun _ _ _ _ h => h) (Or.inl ⟨by rfl, ?_⟩) hHeld ?_ ?_
  rotate_left 2
  · intro w hSw
    (try dsimp only at hSw)
    go_simp
    all_goals (with_reducible rfl)
  · simp only [Act.put, List.setIfInBounds_toArray, List.set_cons_zero, List.set_cons_succ]
    rfl
  refine take_n 7 (some 152) #[true, true, true, true, true, true, true, true, false, false, false, false, false, false, false] (v := ?_) (a' := ?_) rfl rfl rfl (by kernel_rfl) (by kernel_rfl) (by kernel_rfl) (fun _ _ _ _ h => h) (Or.inl ⟨by rfl, ?_⟩) hHeld ?_ ?_
  rotate_left 2
  · intro w hSw
    (try dsimp only at hSw)
    go_simp
    all_goals (with_reducible rfl)
  · simp only [Act.put, List.setIfInBounds_toArray, List.set_cons_zero, List.set_cons_succ]
    rfl
  refine take_n 8 (some 153) #[true, true, true, true, true, true, true, true, true, false, false, false, false, false, false] (v := ?_) (a' := ?_) rfl rfl rfl (by kernel_rfl) (by kernel_rfl) (by kernel_rfl) (fun _ _ _ _ h => h) (Or.inl ⟨by rfl, ?_⟩) hHeld ?_ ?_
  rotate_left 2
  · intro w hSw
    (try dsimp only at hSw)
    go_simp
    all_goals (with_reducible rfl)
  · simp only [Act.put, List.setIfInBounds_toArray, List.set_cons_zero, List.set_cons_succ]
    rfl
  refine take_n 9 (some 154) #[true, true, true, true, true, true, true, true, true, true, false, false, false, false, false] (v := ?_) (a' := ?_) rfl rfl rfl (by kernel_rfl) (by kernel_rfl) (by kernel_rfl) (fun _ _ _ _ h => h) (Or.inl ⟨by rfl, ?_⟩) hHeld ?_ ?_
  rotate_left 2
  · intro w hSw
    (try dsimp only at hSw)
    go_simp
    all_goals (with_reducible rfl)
  · simp only [Act.put, List.setIfInBounds_toArray, List.set_cons_zero, List.set_cons_succ]
    rfl
  refine take_n 10 (some 155) #[true, true, true, true, true, true, true, true, true, true, true, false, false, false, false] (v := ?_) (a' := ?_) rfl rfl rfl (by kernel_rfl) (by kernel_rfl) (by kernel_rfl) (fun _ _ _ _ h => h) (Or.inl ⟨by rfl, ?_⟩) hHeld ?_ ?_
  rotate_left 2
  · intro w hSw
    (try dsimp only at hSw)
    go_simp
    all_goals (with_reducible rfl)
  · simp only [Act.put, List.setIfInBounds_toArray, List.set_cons_zero, List.set_cons_succ]
    rfl
  refine take_n 11 (some 156) #[true, true, true, true, true, true, true, true, true, true, true, true, false, false, false] (v := ?_) (a' := ?_) rfl rfl rfl (by kernel_rfl) (by kernel_rfl) (by kernel_rfl) (fun _ _ _ _ h => h) (Or.inl ⟨by rfl, ?_⟩) hHeld ?_ ?_
  rotate_left 2
  · intro w hSw
    (try dsimp only at hSw)
    go_simp
    all_goals (with_reducible rfl)
  · simp only [Act.put, List.setIfInBounds_toArray, List.set_cons_zero, List.set_cons_succ]
    rfl
  refine one_n 12 #[true, true, true, true, true, true, true, true, true, true, true, true, true, false, false] rfl rfl (by kernel_rfl) (fun K hK => ?_)
  go_simp
  refine hK.out _ ?_ _ ?_ ?_ (fun hHeld => ?_)
  rotate_left
  · (try simp only [Act.put, List.setIfInBounds_toArray, List.set_cons_zero, List.set_cons_succ])
    rfl
  · (try dsimp only)
    all_goals trivial
  clear hK K
  refine take_n 13 (some 157) #[true, true, true, true, true, true, true, true, true, true, true, true, true, true, false] (v := ?_) (a' := ?_) rfl rfl rfl (by kernel_rfl) (by kernel_rfl) (by kernel_rfl) (fun _ _ _ _ h => h) (Or.inl ⟨by rfl, ?_⟩) hHeld ?_ ?_
  rotate_left 2
  · intro w hSw
    (try dsimp only at hSw)
    go_simp
    all_goals (with_reducible rfl)
  · simp only [Act.put, List.setIfInBounds_toArray, List.set_cons_zero, List.set_cons_succ]
    rfl
  refine one_n 14 #[true, true, true, true, true, true, true, true, true, true, true, true, true, true, true] rfl rfl (by kernel_rfl) (fun K hK => ?_)
  go_simp
  refine hK.out _ ?_ _ ?_ ?_ (fun hHeld => ?_)
  rotate_left
  · (try simp only [Act.put, List.setIfInBounds_toArray, List.set_cons_zero, List.set_cons_succ])
    rfl
  · (try dsimp only)
    all_goals trivial
  clear hK K
  refine wpAnyH_done (by kernel_rfl) ?_ _
  go_wp2_with fail
  refine bodyPost_end (results_none rfl _ _ _) rfl ?_
  exact ⟨rfl, rfl⟩
set_option maxHeartbeats 8000000 in
set_option maxRecDepth 100000 in
theorem format_141 (w : World) (hp : w.cell? ⟨2, 2, none⟩ = some (.int .u64 100)) (h2 : 2 < w.heap.size) : Calls Tryz.prog 105 #[.int .i64 141, .int .i64 10] w fun e w' => e = .returned (.string ⟨#[49, 52, 49]⟩) ∧ Below w.heap.size w w' := by
  have hcv := run_convert_bytes_back (P := Tryz.prog) ((w.alloc (.cells #[.int .u8 0, .int .u8 49, .int .u8 52, .int .u8 49, .int .u8 0, .int .u8 0, .int .u8 0, .int .u8 0, .int .u8 0, .int .u8 0, .int .u8 0, .int .u8 0, .int .u8 0, .int .u8 0, .int .u8 0, .int .u8 0, .int .u8 0, .int .u8 0, .int .u8 0, .int .u8 0, .int .u8 0, .int .u8 0, .int .u8 0, .int .u8 0] 223)).drew) 48 9 5 ⟨w.heap.size, 1, none⟩ 23 [49, 52, 49] Tryz.underlying48 Tryz.underlying5 Tryz.underlying9 (fun j hj => by
    rw [Addr.add_lit]
    refine (blk_cell (w := (w.alloc (.cells #[.int .u8 0, .int .u8 49, .int .u8 52, .int .u8 49, .int .u8 0, .int .u8 0, .int .u8 0, .int .u8 0, .int .u8 0, .int .u8 0, .int .u8 0, .int .u8 0, .int .u8 0, .int .u8 0, .int .u8 0, .int .u8 0, .int .u8 0, .int .u8 0, .int .u8 0, .int .u8 0, .int .u8 0, .int .u8 0, .int .u8 0, .int .u8 0] 223)).drew) (heap_alloc_new w _) (1 + j)).trans ?_
    rcases j with _ | _ | _ | j
    · rfl
    · rfl
    · rfl
    · exact absurd hj (by simp))
  simp only [List.length_cons, List.length_nil, Nat.zero_add, Nat.reduceAdd] at hcv
  go_enter Tryz.func105, Tryz.ntmps105
  go_wp2_with fail
  refine (digits_e 141 (by decide) _ ((World.cell?_alloc_past _ _ _ h2).trans hp)).mono ?_
  rintro e w1 ⟨rfl, rfl⟩
  go_wp2_with fail
  refine (base10_141 _ _ _ (blk_frozen (heap_alloc_new w _) 1) (blk_frozen (heap_alloc_new w _) 2) (blk_frozen (heap_alloc_new w _) 3) (blk_cell (heap_alloc_new w _) 1) (blk_cell (heap_alloc_new w _) 2) (blk_cell (heap_alloc_new w _) 3)).mono ?_
  rintro e w1 ⟨rfl, rfl⟩
  go_wp2_with fail
  go_ret
  exact ⟨rfl, below_drewN (below_alloc (Below.refl _ w) _ (Nat.le_refl _)) 1⟩
set_option maxHeartbeats 8000000 in
set_option maxRecDepth 100000 in
theorem format_142 (w : World) (hp : w.cell? ⟨2, 2, none⟩ = some (.int .u64 100)) (h2 : 2 < w.heap.size) : Calls Tryz.prog 105 #[.int .i64 142, .int .i64 10] w fun e w' => e = .returned (.string ⟨#[49, 52, 50]⟩) ∧ Below w.heap.size w w' := by
  have hcv := run_convert_bytes_back (P := Tryz.prog) ((w.alloc (.cells #[.int .u8 0, .int .u8 49, .int .u8 52, .int .u8 50, .int .u8 0, .int .u8 0, .int .u8 0, .int .u8 0, .int .u8 0, .int .u8 0, .int .u8 0, .int .u8 0, .int .u8 0, .int .u8 0, .int .u8 0, .int .u8 0, .int .u8 0, .int .u8 0, .int .u8 0, .int .u8 0, .int .u8 0, .int .u8 0, .int .u8 0, .int .u8 0] 223)).drew) 48 9 5 ⟨w.heap.size, 1, none⟩ 23 [49, 52, 50] Tryz.underlying48 Tryz.underlying5 Tryz.underlying9 (fun j hj => by
    rw [Addr.add_lit]
    refine (blk_cell (w := (w.alloc (.cells #[.int .u8 0, .int .u8 49, .int .u8 52, .int .u8 50, .int .u8 0, .int .u8 0, .int .u8 0, .int .u8 0, .int .u8 0, .int .u8 0, .int .u8 0, .int .u8 0, .int .u8 0, .int .u8 0, .int .u8 0, .int .u8 0, .int .u8 0, .int .u8 0, .int .u8 0, .int .u8 0, .int .u8 0, .int .u8 0, .int .u8 0, .int .u8 0] 223)).drew) (heap_alloc_new w _) (1 + j)).trans ?_
    rcases j with _ | _ | _ | j
    · rfl
    · rfl
    · rfl
    · exact absurd hj (by simp))
  simp only [List.length_cons, List.length_nil, Nat.zero_add, Nat.reduceAdd] at hcv
  go_enter Tryz.func105, Tryz.ntmps105
  go_wp2_with fail
  refine (digits_e 142 (by decide) _ ((World.cell?_alloc_past _ _ _ h2).trans hp)).mono ?_
  rintro e w1 ⟨rfl, rfl⟩
  go_wp2_with fail
  refine (base10_142 _ _ _ (blk_frozen (heap_alloc_new w _) 1) (blk_frozen (heap_alloc_new w _) 2) (blk_frozen (heap_alloc_new w _) 3) (blk_cell (heap_alloc_new w _) 1) (blk_cell (heap_alloc_new w _) 2) (blk_cell (heap_alloc_new w _) 3)).mono ?_
  rintro e w1 ⟨rfl, rfl⟩
  go_wp2_with fail
  go_ret
  exact ⟨rfl, below_drewN (below_alloc (Below.refl _ w) _ (Nat.le_refl _)) 1⟩
set_option maxHeartbeats 8000000 in
set_option maxRecDepth 100000 in
theorem itoa0_141 (w : World) (hp : w.cell? ⟨2, 2, none⟩ = some (.int .u64 100)) (h2 : 2 < w.heap.size) : Calls Tryz.prog 59 #[.int .i64 141] w fun e w' => e = .returned (.string ⟨#[49, 52, 49]⟩) ∧ Below w.heap.size w w' := by
  go_enter Tryz.func59, Tryz.ntmps59
  go_wp2_with fail
  refine (format_141 _ hp h2).mono ?_
  rintro e w1 ⟨rfl, hb⟩
  go_wp2_with fail
  go_ret
  exact ⟨rfl, hb⟩
set_option maxHeartbeats 8000000 in
set_option maxRecDepth 100000 in
theorem itoa_141 (w : World) (hp : w.cell? ⟨2, 2, none⟩ = some (.int .u64 100)) (h2 : 2 < w.heap.size) : Calls Tryz.prog 29 #[.int .i64 141] w fun e w' => e = .returned (.string ⟨#[49, 52, 49]⟩) ∧ Below w.heap.size w w' := by
  go_enter Tryz.func29, Tryz.ntmps29
  go_wp2_with fail
  refine (itoa0_141 _ hp h2).mono ?_
  rintro e w1 ⟨rfl, hb⟩
  go_wp2_with fail
  go_ret
  exact ⟨rfl, hb⟩
set_option maxHeartbeats 8000000 in
set_option maxRecDepth 100000 in
theorem fail_141 (w : World) (hp : w.cell? ⟨2, 2, none⟩ = some (.int .u64 100)) (h2 : 2 < w.heap.size) : Calls Tryz.prog 15 #[.int .i64 141] w fun e w' => e = .returned (.string ⟨#[101, 114, 114, 32, 49, 52, 49]⟩) ∧ Below w.heap.size w w' := by
  go_enter Tryz.func15, Tryz.ntmps15
  go_wp2_with fail
  refine (itoa_141 _ hp h2).mono ?_
  rintro e w1 ⟨rfl, hb⟩
  go_wp2_with fail
  go_ret
  exact ⟨by kernel_rfl, hb⟩
set_option maxHeartbeats 8000000 in
set_option maxRecDepth 100000 in
theorem itoa0_142 (w : World) (hp : w.cell? ⟨2, 2, none⟩ = some (.int .u64 100)) (h2 : 2 < w.heap.size) : Calls Tryz.prog 59 #[.int .i64 142] w fun e w' => e = .returned (.string ⟨#[49, 52, 50]⟩) ∧ Below w.heap.size w w' := by
  go_enter Tryz.func59, Tryz.ntmps59
  go_wp2_with fail
  refine (format_142 _ hp h2).mono ?_
  rintro e w1 ⟨rfl, hb⟩
  go_wp2_with fail
  go_ret
  exact ⟨rfl, hb⟩
set_option maxHeartbeats 8000000 in
set_option maxRecDepth 100000 in
theorem itoa_142 (w : World) (hp : w.cell? ⟨2, 2, none⟩ = some (.int .u64 100)) (h2 : 2 < w.heap.size) : Calls Tryz.prog 29 #[.int .i64 142] w fun e w' => e = .returned (.string ⟨#[49, 52, 50]⟩) ∧ Below w.heap.size w w' := by
  go_enter Tryz.func29, Tryz.ntmps29
  go_wp2_with fail
  refine (itoa0_142 _ hp h2).mono ?_
  rintro e w1 ⟨rfl, hb⟩
  go_wp2_with fail
  go_ret
  exact ⟨rfl, hb⟩
set_option maxHeartbeats 8000000 in
set_option maxRecDepth 100000 in
theorem fail_142 (w : World) (hp : w.cell? ⟨2, 2, none⟩ = some (.int .u64 100)) (h2 : 2 < w.heap.size) : Calls Tryz.prog 15 #[.int .i64 142] w fun e w' => e = .returned (.string ⟨#[101, 114, 114, 32, 49, 52, 50]⟩) ∧ Below w.heap.size w w' := by
  go_enter Tryz.func15, Tryz.ntmps15
  go_wp2_with fail
  refine (itoa_142 _ hp h2).mono ?_
  rintro e w1 ⟨rfl, hb⟩
  go_wp2_with fail
  go_ret
  exact ⟨by kernel_rfl, hb⟩
end Go.Proofs.YtdpfmemcpipbkaaGreatDoor.Hand
end
