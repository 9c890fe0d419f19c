/- desk.Do: an order is done, or refused. -/
import Derived.Test.YtdpfmemcpipbkaaGreatDoorZDesk
import Derived.Laws.IdiomRangeMap
import Derived.RangeFuncNested
import Derived.RangeFuncBound
import Derived.RangeFuncCalls
import Derived.RangeFuncLeaves
import Derived.RangeFuncBox
import Derived.Shelf.Abstract
import Derived.Shelf.RegionOpen
import Derived.OwnWalkIn
import Derived.TacticsInMore
import Derived.LoopNIn
import Derived.LoopIn
section
namespace Go.Proofs.YtdpfmemcpipbkaaGreatDoor.Hand
open Go.RowKit
set_option linter.unusedVariables false
set_option linter.unusedSimpArgs false
structure DeskIn (w : World) (dk : Nat) (a : Option Addr) (n cap : Nat) (d r : Int) (l : List Px) : Prop where
  blk : w.heap[dk]? = some (.cells #[.slice a n cap, .int .i64 d, .int .i64 r] 94 (0, 0))
  reg : RegAt w a n cap l
/-- A desk with these proxies. -/
def DeskAt (w : World) (dk : Nat) (l : List Px) : Prop := ∃ a n cap d r, DeskIn w dk a n cap d r l
theorem DeskIn.ne {w : World} {dk : Nat} {a : Option Addr} {n cap : Nat} {d r : Int} {l : List Px} (h : DeskIn w dk a n cap d r l) (g : Nat) (e : a = some ⟨g, 0, none⟩) : g ≠ dk := by
  rintro rfl
  rcases h.reg.own.2 with ⟨hv, _⟩ | ⟨g', cp, cur, hv, _, hh, _⟩
  · rw [e] at hv; cases hv
  · rw [e] at hv
    cases hv
    have := h.blk
    rw [hh] at this
    injection this with h1
    injection h1 with _ h2
    exact absurd h2 (by decide)
theorem DeskIn.keep {w w' : World} {dk : Nat} {a : Option Addr} {n cap : Nat} {d r : Int} {l : List Px} {X : Nat → Prop} (h : DeskIn w dk a n cap d r l) (hf : Fr X w w') (h1 : ¬ X dk) (h2 : ∀ g, a = some ⟨g, 0, none⟩ → ¬ X g) : DeskIn w' dk a n cap d r l :=
  ⟨(hf.block dk (blk_lt h.blk) h1).trans h.blk, h.reg.keep hf h2⟩
theorem DeskIn.below {w w' : World} {dk : Nat} {a : Option Addr} {n cap : Nat} {d r : Int} {l : List Px} (h : DeskIn w dk a n cap d r l) (hf : Below w.heap.size w w') : DeskIn w' dk a n cap d r l :=
  h.keep (Fr.of_below (X := fun _ => False) hf) (fun e => e) (fun _ _ e => e)
theorem blk_set {w : World} {g : Nat} {t : TypeId} {cs : Array Value} (h : w.heap[g]? = some (.cells cs t (0, 0))) (i : Nat) (u : Value) : (w.setCell ⟨g, i, none⟩ u).heap[g]? = some (.cells (cs.setIfInBounds i u) t (0, 0)) := by
  simp [World.setCell, Array.getElem?_modify, h]
theorem set_fr (w : World) (g i : Nat) (u : Value) : Fr (fun b => b = g) w (w.setCell ⟨g, i, none⟩ u) := (Fr.refl (fun b => b = g) w).set (p := ⟨g, i, none⟩) (.inl rfl) u
theorem DeskIn.refused {w : World} {dk : Nat} {a : Option Addr} {n cap : Nat} {d r : Int} {l : List Px} (h : DeskIn w dk a n cap d r l) (x : Int) : DeskIn (w.setCell ⟨dk, 2, none⟩ (.int .i64 x)) dk a n cap d x l :=
  ⟨blk_set h.blk 2 _, h.reg.keep (set_fr w dk 2 _) (fun g e => h.ne g e)⟩
theorem DeskIn.done {w : World} {dk : Nat} {a : Option Addr} {n cap : Nat} {d r : Int} {l : List Px} (h : DeskIn w dk a n cap d r l) (x : Int) : DeskIn (w.setCell ⟨dk, 1, none⟩ (.int .i64 x)) dk a n cap x r l :=
  ⟨blk_set h.blk 1 _, h.reg.keep (set_fr w dk 1 _) (fun g e => h.ne g e)⟩
theorem reg_ne {w : World} {dk g n cap : Nat} {l : List Px} {cs : Array Value} (hb : w.heap[dk]? = some (.cells cs 94 (0, 0))) (h : RegAt w (some ⟨g, 0, none⟩) n cap l) : g ≠ dk := by
  rintro rfl
  rcases h.own.2 with ⟨hv, _⟩ | ⟨g', cp, cur, hv, _, hh, _⟩
  · cases hv
  · cases hv
    rw [hh] at hb
    injection hb with h1
    injection h1 with _ h2
    exact absurd h2 (by decide)
theorem DeskIn.put {w : World} {dk : Nat} {a a' : Option Addr} {n cap n' cap' : Nat} {d r : Int} {l l' : List Px} (h : DeskIn w dk a n cap d r l) (h' : RegAt w a' n' cap' l') : DeskIn (w.setCell ⟨dk, 0, none⟩ (.slice a' n' cap')) dk a' n' cap' d r l' :=
  ⟨blk_set h.blk 0 _, h'.keep (set_fr w dk 0 _) (fun g e => reg_ne h.blk (e ▸ h'))⟩
/-- What the lines are. -/
def Says (w : World) (u : Value) (L : List ByteArray) (B : Nat) : Prop := w.ownsRow B 9 1 u L.length (L.map Value.string)
theorem Says.base {w : World} {u : Value} {L : List ByteArray} {B B' : Nat} (h : Says w u L B) (hB : B' ≤ B) : Says w u L B' :=
  ⟨h.1, h.2.imp id (fun ⟨g, cap, cur, a, b, c⟩ => ⟨g, cap, cur, a, Nat.le_trans hB b, c⟩)⟩
theorem set_size (w : World) (p : Addr) (v : Value) : (w.setCell p v).heap.size = w.heap.size := by simp [World.setCell]
set_option maxHeartbeats 16000000 in
set_option maxRecDepth 100000 in
theorem do_err (v : Int) (p : ByteArray) (n0 : Int) (f i : Nat) (hk : Instr.findNow (.int .i64) (.int .i64 v) ents.toList 0 = some (some (i, fn f))) (eg : ∀ args w, (callFunc f args).run Tryz.prog w = .ok (.enter f args) w) (l l' : List Px) (err : Int) (he : err ≠ 0) (dk n cap : Nat) (a : Option Addr) (d r : Int) (w : World) (hd : DeskIn w dk a n cap d r l) (hcl : ∀ W, RegAt W a n cap l → Calls Tryz.prog f #[.slice a n cap, .agg (ordC v p n0)] W (Told W l' err)) : Calls Tryz.prog 26 #[.pointer (some ⟨dk, 0, none⟩), .agg (ordC v p n0)] w fun e w' => e = .returned (.tuple #[.slice none 0 0, .int .i64 err]) ∧ DeskAt w' dk l ∧ Fr (fun b => b = dk) w w' := by
  have hdk := blk_lt hd.blk
  have HCL := fun W h => Lib.hid (hcl W h)
  have he2 : (err == 0) = false := beq_false_of_ne he
  have he3 : (err != 0) = true := bne_iff_ne.2 he
  clear hcl he
  unfold ordC at *
  have HD := Lib.hid hd
  clear hd
  go_enter Tryz.func26, Tryz.ntmps26
  go_wp2_with fail
  have hb0 : Below w.heap.size w (w.alloc (.cells #[.int .i64 v, .string p, .string ⟨#[]⟩, .int .i64 n0, .string ⟨#[]⟩, .int .i64 0, .bool false, .int .i64 0, .int .i64 0, .int .i64 0] 57)) := below_alloc (Below.refl _ w) _ (Nat.le_refl _)
  have hz0 : w.heap.size < (w.alloc (.cells #[.int .i64 v, .string p, .string ⟨#[]⟩, .int .i64 n0, .string ⟨#[]⟩, .int .i64 0, .bool false, .int .i64 0, .int .i64 0, .int .i64 0] 57)).heap.size := by rw [World.size_alloc]; omega
  have HB0 := Lib.hid hb0
  have hob := heap_alloc_new w (.cells #[.int .i64 v, .string p, .string ⟨#[]⟩, .int .i64 n0, .string ⟨#[]⟩, .int .i64 0, .bool false, .int .i64 0, .int .i64 0, .int .i64 0] 57 (0, 0))
  obtain ⟨w0, hw0⟩ : ∃ w0, w0 = w.alloc (.cells #[.int .i64 v, .string p, .string ⟨#[]⟩, .int .i64 n0, .string ⟨#[]⟩, .int .i64 0, .bool false, .int .i64 0, .int .i64 0, .int .i64 0] 57) := ⟨_, rfl⟩
  have HOB : Hid (w0.heap[w.heap.size]? = some (.cells (ordC v p n0) 57 (0, 0))) := by rw [hw0]; exact hob
  rw [← hw0] at HB0 hz0 ⊢
  have HW0 := Lib.hid hw0
  have HD0 := Lib.hid (HD.out.below HB0.out)
  have hv0 := blk_cell HOB.out 0
  simp only [ordC, List.getElem?_toArray, List.getElem?_cons_zero] at hv0
  clear hb0 hw0 hob
  refine start_n (S := fun W => W.cell? ⟨w.heap.size, 0, none⟩ = some (.int .i64 v)) 9 #[false, false, false, false, false, false, false, false, false] (by kernel_rfl) rfl rfl ?_ (fun hHeld => ?_)
  · (try dsimp only)
    go_keep
  refine take_n 1 (some 12) #[false, true, false, false, false, false, false, false, false] (v := ?_) (a' := ?_) rfl rfl rfl (by kernel_rfl) (by kernel_rfl) (by kernel_rfl) (fun _ _ _ _ h => h) (Or.inl ⟨by rfl, ?_⟩) hHeld ?_ ?_
  rotate_left 2
  · intro w hSw
    (try dsimp only at hSw)
    go_simp
    all_goals (with_reducible rfl)
  · simp only [Act.put, List.setIfInBounds_toArray, List.set_cons_zero, List.set_cons_succ]
    rfl
  refine take_n 2 (some 13) #[false, true, true, false, false, false, false, false, false] (v := ?_) (a' := ?_) rfl rfl rfl (by kernel_rfl) (by kernel_rfl) (by kernel_rfl) (fun _ _ _ _ h => h) (Or.inl ⟨by rfl, ?_⟩) hHeld ?_ ?_
  rotate_left 2
  · intro w hSw
    (try dsimp only at hSw)
    go_simp
    all_goals (with_reducible rfl)
  · simp only [Act.put, List.setIfInBounds_toArray, List.set_cons_zero, List.set_cons_succ]
    rfl
  refine one_n 0 #[true, true, true, false, false, false, false, false, false] rfl rfl (by kernel_rfl) (fun K hK => ?_)
  go_simp
  refine (changes_calls _).mono ?_
  rintro e w1 ⟨rfl, hm1, hb1⟩
  have hb1' := below_drew hb1
  have HM1 := Lib.hid hm1
  have hlk := look_at (b := w0.heap.size) hm1 v f i hk
  have HB1 := Lib.hid hb1'
  have hvv := (hb1'.cell (p := ⟨w.heap.size, 0, none⟩) hz0).trans hv0
  clear hm1 hb1 hb1'
  refine hK.out _ ?_ _ ?_ ?_ (fun hHeld => ?_)
  rotate_left
  · (try simp only [Act.put, List.setIfInBounds_toArray, List.set_cons_zero, List.set_cons_succ])
    rfl
  · (try dsimp only)
    exact hvv
  clear hK K
  refine one_n 3 #[true, true, true, true, false, false, false, false, false] rfl rfl (by kernel_rfl) (fun K hK => ?_)
  go_simp
  refine hK.out _ ?_ _ ?_ ?_ (fun hHeld => ?_)
  rotate_left
  · (try simp only [Act.put, List.setIfInBounds_toArray, List.set_cons_zero, List.set_cons_succ])
    rfl
  · (try dsimp only)
    exact hvv
  clear hK K
  refine take_n 4 (some 10) #[true, true, true, true, true, false, false, false, false] (v := ?_) (a' := ?_) rfl rfl rfl (by kernel_rfl) (by kernel_rfl) (by kernel_rfl) (fun _ _ _ _ h => h) (Or.inl ⟨by rfl, ?_⟩) hHeld ?_ ?_
  rotate_left 2
  · intro w hSw
    (try dsimp only at hSw)
    go_simp
    all_goals (with_reducible rfl)
  · simp only [Act.put, List.setIfInBounds_toArray, List.set_cons_zero, List.set_cons_succ]
    rfl
  refine take_n 5 (some 15) #[true, true, true, true, true, true, false, false, false] (v := ?_) (a' := ?_) rfl rfl rfl (by kernel_rfl) (by kernel_rfl) (by kernel_rfl) (fun _ _ _ _ h => h) (Or.inl ⟨by rfl, ?_⟩) hHeld ?_ ?_
  rotate_left 2
  · intro w hSw
    (try dsimp only at hSw)
    go_simp
    all_goals (with_reducible rfl)
  · simp only [Act.put, List.setIfInBounds_toArray, List.set_cons_zero, List.set_cons_succ]
    rfl
  refine take_n 6 (some 16) #[true, true, true, true, true, true, true, false, false] (v := ?_) (a' := ?_) rfl rfl rfl (by kernel_rfl) (by kernel_rfl) (by kernel_rfl) (fun _ _ _ _ h => h) (Or.inl ⟨by rfl, ?_⟩) hHeld ?_ ?_
  rotate_left 2
  · intro w hSw
    (try dsimp only at hSw)
    go_simp
    all_goals (with_reducible rfl)
  · simp only [Act.put, List.setIfInBounds_toArray, List.set_cons_zero, List.set_cons_succ]
    rfl
  refine take_n 7 (some 6) #[true, true, true, true, true, true, true, true, false] (v := ?_) (a' := ?_) rfl rfl rfl (by kernel_rfl) (by kernel_rfl) (by kernel_rfl) (fun _ _ _ _ h => h) (Or.inl ⟨by rfl, ?_⟩) hHeld ?_ ?_
  rotate_left 2
  · intro w hSw
    (try dsimp only at hSw)
    go_simp
    all_goals (with_reducible rfl)
  · simp only [Act.put, List.setIfInBounds_toArray, List.set_cons_zero, List.set_cons_succ]
    rfl
  refine take_n 8 (some 7) #[true, true, true, true, true, true, true, true, true] (v := ?_) (a' := ?_) rfl rfl rfl (by kernel_rfl) (by kernel_rfl) (by kernel_rfl) (fun _ _ _ _ h => h) (Or.inl ⟨by rfl, ?_⟩) hHeld ?_ ?_
  rotate_left 2
  · intro w hSw
    (try dsimp only at hSw)
    go_simp
    all_goals (with_reducible rfl)
  · simp only [Act.put, List.setIfInBounds_toArray, List.set_cons_zero, List.set_cons_succ]
    rfl
  refine wpAnyH_done (by kernel_rfl) ?_ _
  go_wp2_with fail
  have HD1 := Lib.hid (HD0.out.below HB1.out)
  have HOB1 : Hid (w1.heap[w.heap.size]? = some (.cells (ordC v p n0) 57 (0, 0))) := (HB1.out.block _ hz0).trans HOB.out
  have hdk1 := blk_lt HD1.out.blk
  have hz1 := blk_lt HOB1.out
  clear hHeld hlk hvv hv0
  refine start_n (S := fun W => W.cell? ⟨dk, 0, none⟩ = some (.slice a n cap) ∧ W.cell? ⟨w.heap.size, 0, none⟩ = some (.int .i64 v) ∧ W.cell? ⟨w.heap.size, 1, none⟩ = some (.string p) ∧ W.cell? ⟨w.heap.size, 2, none⟩ = some (.string ⟨#[]⟩) ∧ W.cell? ⟨w.heap.size, 3, none⟩ = some (.int .i64 n0) ∧ W.cell? ⟨w.heap.size, 4, none⟩ = some (.string ⟨#[]⟩) ∧ W.cell? ⟨w.heap.size, 5, none⟩ = some (.int .i64 0) ∧ W.cell? ⟨w.heap.size, 6, none⟩ = some (.bool false) ∧ W.cell? ⟨w.heap.size, 7, none⟩ = some (.int .i64 0) ∧ W.cell? ⟨w.heap.size, 8, none⟩ = some (.int .i64 0) ∧ W.cell? ⟨w.heap.size, 9, none⟩ = some (.int .i64 0)) 12 #[false, false, false, false, false, false, false, false, false, false, false, false] (by kernel_rfl) rfl rfl ?_ (fun hHeld => ?_)
  · (try dsimp only)
    exact ⟨blk_cell HD1.out.blk 0, blk_cell HOB1.out 0, blk_cell HOB1.out 1, blk_cell HOB1.out 2, blk_cell HOB1.out 3, blk_cell HOB1.out 4, blk_cell HOB1.out 5, blk_cell HOB1.out 6, blk_cell HOB1.out 7, blk_cell HOB1.out 8, blk_cell HOB1.out 9⟩
  refine take_n 0 (some 27) #[true, false, false, false, false, false, false, false, false, false, false, false] (v := ?_) (a' := ?_) rfl rfl rfl (by kernel_rfl) (by kernel_rfl) (by kernel_rfl) (fun _ _ _ _ h => h) (Or.inl ⟨by rfl, ?_⟩) hHeld ?_ ?_
  rotate_left 2
  · intro w hSw
    (try dsimp only at hSw)
    go_simp
    all_goals (with_reducible rfl)
  · simp only [Act.put, List.setIfInBounds_toArray, List.set_cons_zero, List.set_cons_succ]
    rfl
  refine take_n 1 (some 28) #[true, true, false, false, false, false, false, false, false, false, false, false] (v := ?_) (a' := ?_) rfl rfl rfl (by kernel_rfl) (by kernel_rfl) (by kernel_rfl) (fun _ _ _ _ h => h) (Or.inl ⟨by rfl, ?_⟩) hHeld ?_ ?_
  rotate_left 2
  · intro w hSw
    (try dsimp only at hSw)
    go_simp
    all_goals (with_reducible rfl)
  · simp only [Act.put, List.setIfInBounds_toArray, List.set_cons_zero, List.set_cons_succ]
    rfl
  refine take_n 2 (some 29) #[true, true, true, false, false, false, false, false, false, false, false, false] (v := ?_) (a' := ?_) rfl rfl rfl (by kernel_rfl) (by kernel_rfl) (by kernel_rfl) (fun _ _ _ _ h => h) (Or.inl ⟨by rfl, ?_⟩) hHeld ?_ ?_
  rotate_left 2
  · intro w hSw
    (try dsimp only at hSw)
    go_simp
    all_goals (with_reducible rfl)
  · simp only [Act.put, List.setIfInBounds_toArray, List.set_cons_zero, List.set_cons_succ]
    rfl
  refine take_n 3 (some 30) #[true, true, true, true, false, false, false, false, false, false, false, false] (v := ?_) (a' := ?_) rfl rfl rfl (by kernel_rfl) (by kernel_rfl) (by kernel_rfl) (fun _ _ _ _ h => h) (Or.inl ⟨by rfl, ?_⟩) hHeld ?_ ?_
  rotate_left 2
  · intro w hSw
    (try dsimp only at hSw)
    go_simp
    all_goals (with_reducible rfl)
  · simp only [Act.put, List.setIfInBounds_toArray, List.set_cons_zero, List.set_cons_succ]
    rfl
  refine take_n 4 (some 31) #[true, true, true, true, true, false, false, false, false, false, false, false] (v := ?_) (a' := ?_) rfl rfl rfl (by kernel_rfl) (by kernel_rfl) (by kernel_rfl) (fun _ _ _ _ h => h) (Or.inl ⟨by rfl, ?_⟩) hHeld ?_ ?_
  rotate_left 2
  · intro w hSw
    (try dsimp only at hSw)
    go_simp
    all_goals (with_reducible rfl)
  · simp only [Act.put, List.setIfInBounds_toArray, List.set_cons_zero, List.set_cons_succ]
    rfl
  refine take_n 5 (some 32) #[true, true, true, true, true, true, false, false, false, false, false, false] (v := ?_) (a' := ?_) rfl rfl rfl (by kernel_rfl) (by kernel_rfl) (by kernel_rfl) (fun _ _ _ _ h => h) (Or.inl ⟨by rfl, ?_⟩) hHeld ?_ ?_
  rotate_left 2
  · intro w hSw
    (try dsimp only at hSw)
    go_simp
    all_goals (with_reducible rfl)
  · simp only [Act.put, List.setIfInBounds_toArray, List.set_cons_zero, List.set_cons_succ]
    rfl
  refine one_n 6 #[true, true, true, true, true, true, true, false, false, false, false, false] rfl rfl (by kernel_rfl) (fun K hK => ?_)
  go_simp
  refine ((HCL _ HD1.out.reg.drew).out).mono ?_
  rintro e w2 ⟨a2, c2, rfl, hr2, hb2⟩
  have HR2 := Lib.hid hr2
  have HB2 := Lib.hid (below_drew hb2)
  clear hr2
  refine hK.out _ ?_ _ ?_ ?_ (fun hHeld => ?_)
  rotate_left
  · (try simp only [Act.put, List.setIfInBounds_toArray, List.set_cons_zero, List.set_cons_succ])
    rfl
  · (try dsimp only)
    exact ⟨(hb2.cell (p := ⟨dk, 0, none⟩) hdk1).trans hHeld.1, (hb2.cell (p := ⟨w.heap.size, 0, none⟩) hz1).trans hHeld.2.1, (hb2.cell (p := ⟨w.heap.size, 1, none⟩) hz1).trans hHeld.2.2.1, (hb2.cell (p := ⟨w.heap.size, 2, none⟩) hz1).trans hHeld.2.2.2.1, (hb2.cell (p := ⟨w.heap.size, 3, none⟩) hz1).trans hHeld.2.2.2.2.1, (hb2.cell (p := ⟨w.heap.size, 4, none⟩) hz1).trans hHeld.2.2.2.2.2.1, (hb2.cell (p := ⟨w.heap.size, 5, none⟩) hz1).trans hHeld.2.2.2.2.2.2.1, (hb2.cell (p := ⟨w.heap.size, 6, none⟩) hz1).trans hHeld.2.2.2.2.2.2.2.1, (hb2.cell (p := ⟨w.heap.size, 7, none⟩) hz1).trans hHeld.2.2.2.2.2.2.2.2.1, (hb2.cell (p := ⟨w.heap.size, 8, none⟩) hz1).trans hHeld.2.2.2.2.2.2.2.2.2.1, (hb2.cell (p := ⟨w.heap.size, 9, none⟩) hz1).trans hHeld.2.2.2.2.2.2.2.2.2.2⟩
  clear hK K
  refine take_n 7 (some 26) #[true, true, true, true, true, true, true, true, false, false, false, false] (v := ?_) (a' := ?_) rfl rfl rfl (by kernel_rfl) (by kernel_rfl) (by kernel_rfl) (fun _ _ _ _ h => h) (Or.inl ⟨by rfl, ?_⟩) hHeld ?_ ?_
  rotate_left 2
  · intro w hSw
    (try dsimp only at hSw)
    go_simp
    all_goals (with_reducible rfl)
  · simp only [Act.put, List.setIfInBounds_toArray, List.set_cons_zero, List.set_cons_succ]
    rfl
  refine take_n 8 (some 34) #[true, true, true, true, true, true, true, true, true, false, false, false] (v := ?_) (a' := ?_) rfl rfl rfl (by kernel_rfl) (by kernel_rfl) (by kernel_rfl) (fun _ _ _ _ h => h) (Or.inl ⟨by rfl, ?_⟩) hHeld ?_ ?_
  rotate_left 2
  · intro w hSw
    (try dsimp only at hSw)
    go_simp
    all_goals (with_reducible rfl)
  · simp only [Act.put, List.setIfInBounds_toArray, List.set_cons_zero, List.set_cons_succ]
    rfl
  refine take_n 9 (some 35) #[true, true, true, true, true, true, true, true, true, true, false, false] (v := ?_) (a' := ?_) rfl rfl rfl (by kernel_rfl) (by kernel_rfl) (by kernel_rfl) (fun _ _ _ _ h => h) (Or.inl ⟨by rfl, ?_⟩) hHeld ?_ ?_
  rotate_left 2
  · intro w hSw
    (try dsimp only at hSw)
    go_simp
    all_goals (with_reducible rfl)
  · simp only [Act.put, List.setIfInBounds_toArray, List.set_cons_zero, List.set_cons_succ]
    rfl
  refine take_n 10 (some 8) #[true, true, true, true, true, true, true, true, true, true, true, false] (v := ?_) (a' := ?_) rfl rfl rfl (by kernel_rfl) (by kernel_rfl) (by kernel_rfl) (fun _ _ _ _ h => h) (Or.inl ⟨by rfl, ?_⟩) hHeld ?_ ?_
  rotate_left 2
  · intro w hSw
    (try dsimp only at hSw)
    go_simp
    all_goals (with_reducible rfl)
  · simp only [Act.put, List.setIfInBounds_toArray, List.set_cons_zero, List.set_cons_succ]
    rfl
  refine take_n 11 (some 9) #[true, true, true, true, true, true, true, true, true, true, true, true] (v := ?_) (a' := ?_) rfl rfl rfl (by kernel_rfl) (by kernel_rfl) (by kernel_rfl) (fun _ _ _ _ h => h) (Or.inl ⟨by rfl, ?_⟩) hHeld ?_ ?_
  rotate_left 2
  · intro w hSw
    (try dsimp only at hSw)
    go_simp
    all_goals (with_reducible rfl)
  · simp only [Act.put, List.setIfInBounds_toArray, List.set_cons_zero, List.set_cons_succ]
    rfl
  refine wpAnyH_done (by kernel_rfl) ?_ _
  have HD2 := Lib.hid (HD1.out.below HB2.out)
  have e2 := blk_cell HD2.out.blk 2
  simp only [List.getElem?_toArray, List.getElem?_cons_zero, List.getElem?_cons_succ] at e2
  have f2 := blk_frozen HD2.out.blk 2
  clear hHeld
  go_wp2_with fail
  go_ret2
  exact ⟨rfl, ⟨a, n, cap, d, _, HD2.out.refused _⟩, ((Fr.of_below (X := fun b => b = dk) HB0.out).then_below (below_step HB1.out HB2.out)).set (p := ⟨dk, 2, none⟩) (.inl rfl) _⟩
set_option maxHeartbeats 16000000 in
set_option maxRecDepth 100000 in
theorem do_ok (v : Int) (p : ByteArray) (n0 : Int) (f i : Nat) (hk : Instr.findNow (.int .i64) (.int .i64 v) ents.toList 0 = some (some (i, fn f))) (eg : ∀ args w, (callFunc f args).run Tryz.prog w = .ok (.enter f args) w) (l l' : List Px) (L : List ByteArray) (dk n cap : Nat) (a : Option Addr) (d r : Int) (w : World) (hd : DeskIn w dk a n cap d r l) (hcl : ∀ W, RegAt W a n cap l → Calls Tryz.prog f #[.slice a n cap, .agg (ordC v p n0)] W (Told W l' 0)) (hln : ∀ W a n cap d r, DeskIn W dk a n cap d r l' → Calls Tryz.prog 53 #[.pointer (some ⟨dk, 0, none⟩), .agg (ordC v p n0)] W fun e w' => ∃ u, e = .returned u ∧ Says w' u L W.heap.size ∧ Below W.heap.size W w') : Calls Tryz.prog 26 #[.pointer (some ⟨dk, 0, none⟩), .agg (ordC v p n0)] w fun e w' => ∃ u, e = .returned (.tuple #[u, .int .i64 0]) ∧ Says w' u L w.heap.size ∧ DeskAt w' dk l' ∧ Fr (fun b => b = dk) w w' := by
  have hdk := blk_lt hd.blk
  have HCL := fun W h => Lib.hid (hcl W h)
  have HLN := fun W a n cap d r h => Lib.hid (hln W a n cap d r h)
  clear hcl hln
  unfold ordC at *
  have HD := Lib.hid hd
  clear hd
  go_enter Tryz.func26, Tryz.ntmps26
  go_wp2_with fail
  have hb0 : Below w.heap.size w (w.alloc (.cells #[.int .i64 v, .string p, .string ⟨#[]⟩, .int .i64 n0, .string ⟨#[]⟩, .int .i64 0, .bool false, .int .i64 0, .int .i64 0, .int .i64 0] 57)) := below_alloc (Below.refl _ w) _ (Nat.le_refl _)
  have hz0 : w.heap.size < (w.alloc (.cells #[.int .i64 v, .string p, .string ⟨#[]⟩, .int .i64 n0, .string ⟨#[]⟩, .int .i64 0, .bool false, .int .i64 0, .int .i64 0, .int .i64 0] 57)).heap.size := by rw [World.size_alloc]; omega
  have HB0 := Lib.hid hb0
  have hob := heap_alloc_new w (.cells #[.int .i64 v, .string p, .string ⟨#[]⟩, .int .i64 n0, .string ⟨#[]⟩, .int .i64 0, .bool false, .int .i64 0, .int .i64 0, .int .i64 0] 57 (0, 0))
  obtain ⟨w0, hw0⟩ : ∃ w0, w0 = w.alloc (.cells #[.int .i64 v, .string p, .string ⟨#[]⟩, .int .i64 n0, .string ⟨#[]⟩, .int .i64 0, .bool false, .int .i64 0, .int .i64 0, .int .i64 0] 57) := ⟨_, rfl⟩
  have HOB : Hid (w0.heap[w.heap.size]? = some (.cells (ordC v p n0) 57 (0, 0))) := by rw [hw0]; exact hob
  rw [← hw0] at HB0 hz0 ⊢
  have HW0 := Lib.hid hw0
  have HD0 := Lib.hid (HD.out.below HB0.out)
  have hv0 := blk_cell HOB.out 0
  simp only [ordC, List.getElem?_toArray, List.getElem?_cons_zero] at hv0
  clear hb0 hw0 hob
  refine start_n (S := fun W => W.cell? ⟨w.heap.size, 0, none⟩ = some (.int .i64 v)) 9 #[false, false, false, false, false, false, false, false, false] (by kernel_rfl) rfl rfl ?_ (fun hHeld => ?_)
  · (try dsimp only)
    go_keep
  refine take_n 1 (some 12) #[false, true, false, false, false, false, false, false, false] (v := ?_) (a' := ?_) rfl rfl rfl (by kernel_rfl) (by kernel_rfl) (by kernel_rfl) (fun _ _ _ _ h => h) (Or.inl ⟨by rfl, ?_⟩) hHeld ?_ ?_
  rotate_left 2
  · intro w hSw
    (try dsimp only at hSw)
    go_simp
    all_goals (with_reducible rfl)
  · simp only [Act.put, List.setIfInBounds_toArray, List.set_cons_zero, List.set_cons_succ]
    rfl
  refine take_n 2 (some 13) #[false, true, true, false, false, false, false, false, false] (v := ?_) (a' := ?_) rfl rfl rfl (by kernel_rfl) (by kernel_rfl) (by kernel_rfl) (fun _ _ _ _ h => h) (Or.inl ⟨by rfl, ?_⟩) hHeld ?_ ?_
  rotate_left 2
  · intro w hSw
    (try dsimp only at hSw)
    go_simp
    all_goals (with_reducible rfl)
  · simp only [Act.put, List.setIfInBounds_toArray, List.set_cons_zero, List.set_cons_succ]
    rfl
  refine one_n 0 #[true, true, true, false, false, false, false, false, false] rfl rfl (by kernel_rfl) (fun K hK => ?_)
  go_simp
  refine (changes_calls _).mono ?_
  rintro e w1 ⟨rfl, hm1, hb1⟩
  have hb1' := below_drew hb1
  have HM1 := Lib.hid hm1
  have hlk := look_at (b := w0.heap.size) hm1 v f i hk
  have HB1 := Lib.hid hb1'
  have hvv := (hb1'.cell (p := ⟨w.heap.size, 0, none⟩) hz0).trans hv0
  clear hm1 hb1 hb1'
  refine hK.out _ ?_ _ ?_ ?_ (fun hHeld => ?_)
  rotate_left
  · (try simp only [Act.put, List.setIfInBounds_toArray, List.set_cons_zero, List.set_cons_succ])
    rfl
  · (try dsimp only)
    exact hvv
  clear hK K
  refine one_n 3 #[true, true, true, true, false, false, false, false, false] rfl rfl (by kernel_rfl) (fun K hK => ?_)
  go_simp
  refine hK.out _ ?_ _ ?_ ?_ (fun hHeld => ?_)
  rotate_left
  · (try simp only [Act.put, List.setIfInBounds_toArray, List.set_cons_zero, List.set_cons_succ])
    rfl
  · (try dsimp only)
    exact hvv
  clear hK K
  refine take_n 4 (some 10) #[true, true, true, true, true, false, false, false, false] (v := ?_) (a' := ?_) rfl rfl rfl (by kernel_rfl) (by kernel_rfl) (by kernel_rfl) (fun _ _ _ _ h => h) (Or.inl ⟨by rfl, ?_⟩) hHeld ?_ ?_
  rotate_left 2
  · intro w hSw
    (try dsimp only at hSw)
    go_simp
    all_goals (with_reducible rfl)
  · simp only [Act.put, List.setIfInBounds_toArray, List.set_cons_zero, List.set_cons_succ]
    rfl
  refine take_n 5 (some 15) #[true, true, true, true, true, true, false, false, false] (v := ?_) (a' := ?_) rfl rfl rfl (by kernel_rfl) (by kernel_rfl) (by kernel_rfl) (fun _ _ _ _ h => h) (Or.inl ⟨by rfl, ?_⟩) hHeld ?_ ?_
  rotate_left 2
  · intro w hSw
    (try dsimp only at hSw)
    go_simp
    all_goals (with_reducible rfl)
  · simp only [Act.put, List.setIfInBounds_toArray, List.set_cons_zero, List.set_cons_succ]
    rfl
  refine take_n 6 (some 16) #[true, true, true, true, true, true, true, false, false] (v := ?_) (a' := ?_) rfl rfl rfl (by kernel_rfl) (by kernel_rfl) (by kernel_rfl) (fun _ _ _ _ h => h) (Or.inl ⟨by rfl, ?_⟩) hHeld ?_ ?_
  rotate_left 2
  · intro w hSw
    (try dsimp only at hSw)
    go_simp
    all_goals (with_reducible rfl)
  · simp only [Act.put, List.setIfInBounds_toArray, List.set_cons_zero, List.set_cons_succ]
    rfl
  refine take_n 7 (some 6) #[true, true, true, true, true, true, true, true, false] (v := ?_) (a' := ?_) rfl rfl rfl (by kernel_rfl) (by kernel_rfl) (by kernel_rfl) (fun _ _ _ _ h => h) (Or.inl ⟨by rfl, ?_⟩) hHeld ?_ ?_
  rotate_left 2
  · intro w hSw
    (try dsimp only at hSw)
    go_simp
    all_goals (with_reducible rfl)
  · simp only [Act.put, List.setIfInBounds_toArray, List.set_cons_zero, List.set_cons_succ]
    rfl
  refine take_n 8 (some 7) #[true, true, true, true, true, true, true, true, true] (v := ?_) (a' := ?_) rfl rfl rfl (by kernel_rfl) (by kernel_rfl) (by kernel_rfl) (fun _ _ _ _ h => h) (Or.inl ⟨by rfl, ?_⟩) hHeld ?_ ?_
  rotate_left 2
  · intro w hSw
    (try dsimp only at hSw)
    go_simp
    all_goals (with_reducible rfl)
  · simp only [Act.put, List.setIfInBounds_toArray, List.set_cons_zero, List.set_cons_succ]
    rfl
  refine wpAnyH_done (by kernel_rfl) ?_ _
  go_wp2_with fail
  have HD1 := Lib.hid (HD0.out.below HB1.out)
  have HOB1 : Hid (w1.heap[w.heap.size]? = some (.cells (ordC v p n0) 57 (0, 0))) := (HB1.out.block _ hz0).trans HOB.out
  have hdk1 := blk_lt HD1.out.blk
  have hz1 := blk_lt HOB1.out
  clear hHeld hlk hvv hv0
  refine start_n (S := fun W => W.cell? ⟨dk, 0, none⟩ = some (.slice a n cap) ∧ W.cell? ⟨w.heap.size, 0, none⟩ = some (.int .i64 v) ∧ W.cell? ⟨w.heap.size, 1, none⟩ = some (.string p) ∧ W.cell? ⟨w.heap.size, 2, none⟩ = some (.string ⟨#[]⟩) ∧ W.cell? ⟨w.heap.size, 3, none⟩ = some (.int .i64 n0) ∧ W.cell? ⟨w.heap.size, 4, none⟩ = some (.string ⟨#[]⟩) ∧ W.cell? ⟨w.heap.size, 5, none⟩ = some (.int .i64 0) ∧ W.cell? ⟨w.heap.size, 6, none⟩ = some (.bool false) ∧ W.cell? ⟨w.heap.size, 7, none⟩ = some (.int .i64 0) ∧ W.cell? ⟨w.heap.size, 8, none⟩ = some (.int .i64 0) ∧ W.cell? ⟨w.heap.size, 9, none⟩ = some (.int .i64 0)) 12 #[false, false, false, false, false, false, false, false, false, false, false, false] (by kernel_rfl) rfl rfl ?_ (fun hHeld => ?_)
  · (try dsimp only)
    exact ⟨blk_cell HD1.out.blk 0, blk_cell HOB1.out 0, blk_cell HOB1.out 1, blk_cell HOB1.out 2, blk_cell HOB1.out 3, blk_cell HOB1.out 4, blk_cell HOB1.out 5, blk_cell HOB1.out 6, blk_cell HOB1.out 7, blk_cell HOB1.out 8, blk_cell HOB1.out 9⟩
  refine take_n 0 (some 27) #[true, false, false, false, false, false, false, false, false, false, false, false] (v := ?_) (a' := ?_) rfl rfl rfl (by kernel_rfl) (by kernel_rfl) (by kernel_rfl) (fun _ _ _ _ h => h) (Or.inl ⟨by rfl, ?_⟩) hHeld ?_ ?_
  rotate_left 2
  · intro w hSw
    (try dsimp only at hSw)
    go_simp
    all_goals (with_reducible rfl)
  · simp only [Act.put, List.setIfInBounds_toArray, List.set_cons_zero, List.set_cons_succ]
    rfl
  refine take_n 1 (some 28) #[true, true, false, false, false, false, false, false, false, false, false, false] (v := ?_) (a' := ?_) rfl rfl rfl (by kernel_rfl) (by kernel_rfl) (by kernel_rfl) (fun _ _ _ _ h => h) (Or.inl ⟨by rfl, ?_⟩) hHeld ?_ ?_
  rotate_left 2
  · intro w hSw
    (try dsimp only at hSw)
    go_simp
    all_goals (with_reducible rfl)
  · simp only [Act.put, List.setIfInBounds_toArray, List.set_cons_zero, List.set_cons_succ]
    rfl
  refine take_n 2 (some 29) #[true, true, true, false, false, false, false, false, false, false, false, false] (v := ?_) (a' := ?_) rfl rfl rfl (by kernel_rfl) (by kernel_rfl) (by kernel_rfl) (fun _ _ _ _ h => h) (Or.inl ⟨by rfl, ?_⟩) hHeld ?_ ?_
  rotate_left 2
  · intro w hSw
    (try dsimp only at hSw)
    go_simp
    all_goals (with_reducible rfl)
  · simp only [Act.put, List.setIfInBounds_toArray, List.set_cons_zero, List.set_cons_succ]
    rfl
  refine take_n 3 (some 30) #[true, true, true, true, false, false, false, false, false, false, false, false] (v := ?_) (a' := ?_) rfl rfl rfl (by kernel_rfl) (by kernel_rfl) (by kernel_rfl) (fun _ _ _ _ h => h) (Or.inl ⟨by rfl, ?_⟩) hHeld ?_ ?_
  rotate_left 2
  · intro w hSw
    (try dsimp only at hSw)
    go_simp
    all_goals (with_reducible rfl)
  · simp only [Act.put, List.setIfInBounds_toArray, List.set_cons_zero, List.set_cons_succ]
    rfl
  refine take_n 4 (some 31) #[true, true, true, true, true, false, false, false, false, false, false, false] (v := ?_) (a' := ?_) rfl rfl rfl (by kernel_rfl) (by kernel_rfl) (by kernel_rfl) (fun _ _ _ _ h => h) (Or.inl ⟨by rfl, ?_⟩) hHeld ?_ ?_
  rotate_left 2
  · intro w hSw
    (try dsimp only at hSw)
    go_simp
    all_goals (with_reducible rfl)
  · simp only [Act.put, List.setIfInBounds_toArray, List.set_cons_zero, List.set_cons_succ]
    rfl
  refine take_n 5 (some 32) #[true, true, true, true, true, true, false, false, false, false, false, false] (v := ?_) (a' := ?_) rfl rfl rfl (by kernel_rfl) (by kernel_rfl) (by kernel_rfl) (fun _ _ _ _ h => h) (Or.inl ⟨by rfl, ?_⟩) hHeld ?_ ?_
  rotate_left 2
  · intro w hSw
    (try dsimp only at hSw)
    go_simp
    all_goals (with_reducible rfl)
  · simp only [Act.put, List.setIfInBounds_toArray, List.set_cons_zero, List.set_cons_succ]
    rfl
  refine one_n 6 #[true, true, true, true, true, true, true, false, false, false, false, false] rfl rfl (by kernel_rfl) (fun K hK => ?_)
  go_simp
  refine ((HCL _ HD1.out.reg.drew).out).mono ?_
  rintro e w2 ⟨a2, c2, rfl, hr2, hb2⟩
  have HR2 := Lib.hid hr2
  have HB2 := Lib.hid (below_drew hb2)
  clear hr2
  refine hK.out _ ?_ _ ?_ ?_ (fun hHeld => ?_)
  rotate_left
  · (try simp only [Act.put, List.setIfInBounds_toArray, List.set_cons_zero, List.set_cons_succ])
    rfl
  · (try dsimp only)
    exact ⟨(hb2.cell (p := ⟨dk, 0, none⟩) hdk1).trans hHeld.1, (hb2.cell (p := ⟨w.heap.size, 0, none⟩) hz1).trans hHeld.2.1, (hb2.cell (p := ⟨w.heap.size, 1, none⟩) hz1).trans hHeld.2.2.1, (hb2.cell (p := ⟨w.heap.size, 2, none⟩) hz1).trans hHeld.2.2.2.1, (hb2.cell (p := ⟨w.heap.size, 3, none⟩) hz1).trans hHeld.2.2.2.2.1, (hb2.cell (p := ⟨w.heap.size, 4, none⟩) hz1).trans hHeld.2.2.2.2.2.1, (hb2.cell (p := ⟨w.heap.size, 5, none⟩) hz1).trans hHeld.2.2.2.2.2.2.1, (hb2.cell (p := ⟨w.heap.size, 6, none⟩) hz1).trans hHeld.2.2.2.2.2.2.2.1, (hb2.cell (p := ⟨w.heap.size, 7, none⟩) hz1).trans hHeld.2.2.2.2.2.2.2.2.1, (hb2.cell (p := ⟨w.heap.size, 8, none⟩) hz1).trans hHeld.2.2.2.2.2.2.2.2.2.1, (hb2.cell (p := ⟨w.heap.size, 9, none⟩) hz1).trans hHeld.2.2.2.2.2.2.2.2.2.2⟩
  clear hK K
  refine take_n 7 (some 26) #[true, true, true, true, true, true, true, true, false, false, false, false] (v := ?_) (a' := ?_) rfl rfl rfl (by kernel_rfl) (by kernel_rfl) (by kernel_rfl) (fun _ _ _ _ h => h) (Or.inl ⟨by rfl, ?_⟩) hHeld ?_ ?_
  rotate_left 2
  · intro w hSw
    (try dsimp only at hSw)
    go_simp
    all_goals (with_reducible rfl)
  · simp only [Act.put, List.setIfInBounds_toArray, List.set_cons_zero, List.set_cons_succ]
    rfl
  refine take_n 8 (some 34) #[true, true, true, true, true, true, true, true, true, false, false, false] (v := ?_) (a' := ?_) rfl rfl rfl (by kernel_rfl) (by kernel_rfl) (by kernel_rfl) (fun _ _ _ _ h => h) (Or.inl ⟨by rfl, ?_⟩) hHeld ?_ ?_
  rotate_left 2
  · intro w hSw
    (try dsimp only at hSw)
    go_simp
    all_goals (with_reducible rfl)
  · simp only [Act.put, List.setIfInBounds_toArray, List.set_cons_zero, List.set_cons_succ]
    rfl
  refine take_n 9 (some 35) #[true, true, true, true, true, true, true, true, true, true, false, false] (v := ?_) (a' := ?_) rfl rfl rfl (by kernel_rfl) (by kernel_rfl) (by kernel_rfl) (fun _ _ _ _ h => h) (Or.inl ⟨by rfl, ?_⟩) hHeld ?_ ?_
  rotate_left 2
  · intro w hSw
    (try dsimp only at hSw)
    go_simp
    all_goals (with_reducible rfl)
  · simp only [Act.put, List.setIfInBounds_toArray, List.set_cons_zero, List.set_cons_succ]
    rfl
  refine take_n 10 (some 8) #[true, true, true, true, true, true, true, true, true, true, true, false] (v := ?_) (a' := ?_) rfl rfl rfl (by kernel_rfl) (by kernel_rfl) (by kernel_rfl) (fun _ _ _ _ h => h) (Or.inl ⟨by rfl, ?_⟩) hHeld ?_ ?_
  rotate_left 2
  · intro w hSw
    (try dsimp only at hSw)
    go_simp
    all_goals (with_reducible rfl)
  · simp only [Act.put, List.setIfInBounds_toArray, List.set_cons_zero, List.set_cons_succ]
    rfl
  refine take_n 11 (some 9) #[true, true, true, true, true, true, true, true, true, true, true, true] (v := ?_) (a' := ?_) rfl rfl rfl (by kernel_rfl) (by kernel_rfl) (by kernel_rfl) (fun _ _ _ _ h => h) (Or.inl ⟨by rfl, ?_⟩) hHeld ?_ ?_
  rotate_left 2
  · intro w hSw
    (try dsimp only at hSw)
    go_simp
    all_goals (with_reducible rfl)
  · simp only [Act.put, List.setIfInBounds_toArray, List.set_cons_zero, List.set_cons_succ]
    rfl
  refine wpAnyH_done (by kernel_rfl) ?_ _
  have HD2 := Lib.hid (HD1.out.below HB2.out)
  have f0 := blk_frozen HD2.out.blk 0
  have c0 := blk_cell HD2.out.blk 0
  simp only [List.getElem?_toArray, List.getElem?_cons_zero, List.getElem?_cons_succ] at c0
  have HD3 := Lib.hid (HD2.out.put HR2.out)
  have c1 := blk_cell HD3.out.blk 1
  simp only [List.getElem?_toArray, List.getElem?_cons_zero, List.getElem?_cons_succ] at c1
  have f1 := blk_frozen HD3.out.blk 1
  have HD4 := fun x => Lib.hid (HD3.out.done x)
  have HOB2 : Hid (w2.heap[w.heap.size]? = some (.cells (ordC v p n0) 57 (0, 0))) := (HB2.out.block _ hz1).trans HOB1.out
  have hdw : w.heap.size ≠ dk := by omega
  have hdw2 : dk ≠ w.heap.size := Ne.symm hdw
  have o0 := blk_cell HOB2.out 0
  have o1 := blk_cell HOB2.out 1
  have o2 := blk_cell HOB2.out 2
  have o3 := blk_cell HOB2.out 3
  have o4 := blk_cell HOB2.out 4
  have o5 := blk_cell HOB2.out 5
  have o6 := blk_cell HOB2.out 6
  have o7 := blk_cell HOB2.out 7
  have o8 := blk_cell HOB2.out 8
  have o9 := blk_cell HOB2.out 9
  simp only [ordC, List.getElem?_toArray, List.getElem?_cons_zero, List.getElem?_cons_succ] at o0 o1 o2 o3 o4 o5 o6 o7 o8 o9
  clear hHeld
  go_wp2_with fail
  refine ((HLN _ a2 _ c2 _ r (HD4 _).out).out).mono ?_
  rintro e w3 ⟨u3, rfl, hs3, hb3⟩
  have HS3 := Lib.hid hs3
  have HB3 := Lib.hid hb3
  clear hs3 hb3
  go_wp2_with fail
  go_ret2
  have hsz : w.heap.size ≤ w2.heap.size := Nat.le_trans HB0.out.size (Nat.le_trans HB1.out.size HB2.out.size)
  refine ⟨u3, rfl, HS3.out.base (by rw [set_size, set_size]; exact hsz), ⟨a2, _, c2, _, r, (HD4 _).out.below HB3.out⟩, ?_⟩
  exact ((((Fr.of_below (X := fun b => b = dk) HB0.out).then_below (below_step HB1.out HB2.out)).set (p := ⟨dk, 0, none⟩) (.inl rfl) _).set (p := ⟨dk, 1, none⟩) (.inl rfl) _).then_below HB3.out
end Go.Proofs.YtdpfmemcpipbkaaGreatDoor.Hand
end
section
/- What each verb does to the proxies: the closures of desk.changes. -/
namespace Go.Proofs.YtdpfmemcpipbkaaGreatDoor.Hand
open Go.RowKit
set_option linter.unusedVariables false
set_option linter.unusedSimpArgs false
/-- Where only Told is said of the call beneath. -/
theorem Told.step {w w1 : World} {l : List Px} {err : Int} {e : Ending} {w' : World} (hb : Below w.heap.size w w1) (h : Told w1 l err e w') : Told w l err e w' := by
  obtain ⟨a, cap, he, hr, hb2⟩ := h
  exact ⟨a, cap, he, hr, below_step hb hb2⟩
set_option maxHeartbeats 8000000 in
set_option maxRecDepth 100000 in
theorem c_add (t : ByteArray) (m : Int) (l l' : List Px) (err : Int) (a : Option Addr) (n cap : Nat) (w : World) (h : RegAt w a n cap l) (hc : ∀ W, RegAt W a n cap l → Calls Tryz.prog 82 #[.slice a n cap, .string t, .int .i64 m] W (Told W l' err)) : Calls Tryz.prog 81 #[.slice a n cap, .agg (ordC 1 t m)] w (Told w l' err) := by
  have hb0 : Below w.heap.size w (w.alloc (.cells (ordC 1 t m) 57)) := below_alloc (Below.refl _ w) _ (Nat.le_refl _)
  have HC := Lib.hid (hc _ (h.below hb0))
  have HB0 := Lib.hid hb0
  clear hc hb0 h
  unfold ordC at *
  go_enter Tryz.func81, Tryz.ntmps81
  go_wp2_with fail
  refine HC.out.mono ?_
  rintro e w1 ⟨a1, c1, rfl, hr, hb⟩
  have HR := Lib.hid hr
  have HB := Lib.hid hb
  clear hr hb
  go_wp2_with fail
  go_ret2
  exact ⟨a1, c1, rfl, HR.out, below_step HB0.out HB.out⟩
set_option maxHeartbeats 8000000 in
set_option maxRecDepth 100000 in
theorem c_drop (t : ByteArray) (m : Int) (l l' : List Px) (err : Int) (a : Option Addr) (n cap : Nat) (w : World) (h : RegAt w a n cap l) (hc : ∀ W, RegAt W a n cap l → Calls Tryz.prog 84 #[.slice a n cap, .string t] W (Told W l' err)) : Calls Tryz.prog 83 #[.slice a n cap, .agg (ordC 2 t m)] w (Told w l' err) := by
  have hb0 : Below w.heap.size w (w.alloc (.cells (ordC 2 t m) 57)) := below_alloc (Below.refl _ w) _ (Nat.le_refl _)
  have HC := Lib.hid (hc _ (h.below hb0))
  have HB0 := Lib.hid hb0
  clear hc hb0 h
  unfold ordC at *
  go_enter Tryz.func83, Tryz.ntmps83
  go_wp2_with fail
  refine HC.out.mono ?_
  rintro e w1 ⟨a1, c1, rfl, hr, hb⟩
  have HR := Lib.hid hr
  have HB := Lib.hid hb
  clear hr hb
  go_wp2_with fail
  go_ret2
  exact ⟨a1, c1, rfl, HR.out, below_step HB0.out HB.out⟩
set_option maxHeartbeats 8000000 in
set_option maxRecDepth 100000 in
theorem c_on (t : ByteArray) (m : Int) (l l' : List Px) (err : Int) (a : Option Addr) (n cap : Nat) (w : World) (h : RegAt w a n cap l) (hc : ∀ W, RegAt W a n cap l → Calls Tryz.prog 86 #[.slice a n cap, .string t, .bool true] W (Told W l' err)) : Calls Tryz.prog 85 #[.slice a n cap, .agg (ordC 3 t m)] w (Told w l' err) := by
  have hb0 : Below w.heap.size w (w.alloc (.cells (ordC 3 t m) 57)) := below_alloc (Below.refl _ w) _ (Nat.le_refl _)
  have HC := Lib.hid (hc _ (h.below hb0))
  have HB0 := Lib.hid hb0
  clear hc hb0 h
  unfold ordC at *
  go_enter Tryz.func85, Tryz.ntmps85
  go_wp2_with fail
  refine HC.out.mono ?_
  rintro e w1 ⟨a1, c1, rfl, hr, hb⟩
  have HR := Lib.hid hr
  have HB := Lib.hid hb
  clear hr hb
  go_wp2_with fail
  go_ret2
  exact ⟨a1, c1, rfl, HR.out, below_step HB0.out HB.out⟩
set_option maxHeartbeats 8000000 in
set_option maxRecDepth 100000 in
theorem c_off (t : ByteArray) (m : Int) (l l' : List Px) (err : Int) (a : Option Addr) (n cap : Nat) (w : World) (h : RegAt w a n cap l) (hc : ∀ W, RegAt W a n cap l → Calls Tryz.prog 86 #[.slice a n cap, .string t, .bool false] W (Told W l' err)) : Calls Tryz.prog 87 #[.slice a n cap, .agg (ordC 4 t m)] w (Told w l' err) := by
  have hb0 : Below w.heap.size w (w.alloc (.cells (ordC 4 t m) 57)) := below_alloc (Below.refl _ w) _ (Nat.le_refl _)
  have HC := Lib.hid (hc _ (h.below hb0))
  have HB0 := Lib.hid hb0
  clear hc hb0 h
  unfold ordC at *
  go_enter Tryz.func87, Tryz.ntmps87
  go_wp2_with fail
  refine HC.out.mono ?_
  rintro e w1 ⟨a1, c1, rfl, hr, hb⟩
  have HR := Lib.hid hr
  have HB := Lib.hid hb
  clear hr hb
  go_wp2_with fail
  go_ret2
  exact ⟨a1, c1, rfl, HR.out, below_step HB0.out HB.out⟩
set_option maxHeartbeats 8000000 in
set_option maxRecDepth 100000 in
theorem c_list (t : ByteArray) (m : Int) (l : List Px) (a : Option Addr) (n cap : Nat) (w : World) (h : RegAt w a n cap l) : Calls Tryz.prog 80 #[.slice a n cap, .agg (ordC 8 t m)] w (Told w l 0) := by
  have hb0 : Below w.heap.size w (w.alloc (.cells (ordC 8 t m) 57)) := below_alloc (Below.refl _ w) _ (Nat.le_refl _)
  have H := Lib.hid (h.below hb0)
  have HB0 := Lib.hid hb0
  have HL := Lib.hid h.len
  clear hb0 h
  unfold ordC at *
  go_enter Tryz.func80, Tryz.ntmps80
  go_wp2_with fail
  go_ret2
  have hl := HL.out
  subst hl
  exact ⟨a, cap, rfl, H.out, HB0.out⟩
/-- Where none of the name is a proxy comes in. -/
theorem add_told (l : List Px) (hg : Good l) (hup : Up l) (h7 : l.length ≤ 7) (t : ByteArray) (m : Int) (ht : Ok (t, true, m)) (hi : idx t l = -1) (a : Option Addr) (n cap : Nat) (w : World) (h : RegAt w a n cap l) : Calls Tryz.prog 82 #[.slice a n cap, .string t, .int .i64 m] w (Told w (sink (t, true, m) l.reverse []) 0) :=
  (add_new l hg hup h7 t m ht hi a n cap w h).mono fun e w' ⟨g, c, he, hr, hb⟩ => ⟨some ⟨g, 0, none⟩, c, by rw [hr.len]; exact he, by rw [hr.len]; exact hr, hb⟩
end Go.Proofs.YtdpfmemcpipbkaaGreatDoor.Hand
end
section
/- The four names; which proxies there are, and which are on: the plain law of the registry. -/
namespace Go.Proofs.YtdpfmemcpipbkaaGreatDoor.Hand
open Go.RowKit
set_option linter.unusedVariables false
set_option linter.unusedSimpArgs false
def nm : Nat → ByteArray
  | 0 => ⟨#[97]⟩
  | 1 => ⟨#[98]⟩
  | 2 => ⟨#[98, 45, 49]⟩
  | _ => ⟨#[99]⟩
def at1 (i : Nat) : Option Bool → List Px
  | none => []
  | some b => [(nm i, b, 3)]
/-- The proxies that there are. -/
def reg (st : Nat → Option Bool) : List Px := at1 0 (st 0) ++ (at1 1 (st 1) ++ (at1 2 (st 2) ++ at1 3 (st 3)))
def upd (st : Nat → Option Bool) (i : Nat) (v : Option Bool) : Nat → Option Bool := fun j => if j = i then v else st j
theorem same_eq (a b : ByteArray) : same a b = (a.data.toList == b.data.toList) := by unfold same; rw [Lib.toList_data, Lib.toList_data]
theorem less_eq (a b : ByteArray) : Op.bytesLess a.toList b.toList = Op.bytesLess a.data.toList b.data.toList := by rw [Lib.toList_data, Lib.toList_data]
theorem nm_ok (i : Nat) (b : Bool) (m : Int) (h1 : 1 ≤ m) (h2 : m ≤ 16) : Ok (nm i, b, m) := by
  have key : 1 ≤ (nm i).size ∧ (nm i).size ≤ 16 ∧ ∀ j (h : j < (nm i).size), okc ((nm i)[j]'h).toNat := by
    unfold okc
    rcases i with _ | _ | _ | i
    · show 1 ≤ (nm 0).size ∧ (nm 0).size ≤ 16 ∧ ∀ j (h : j < (nm 0).size), _
      decide
    · show 1 ≤ (nm 1).size ∧ (nm 1).size ≤ 16 ∧ ∀ j (h : j < (nm 1).size), _
      decide
    · show 1 ≤ (nm 2).size ∧ (nm 2).size ≤ 16 ∧ ∀ j (h : j < (nm 2).size), _
      decide
    · exact (by decide : 1 ≤ (nm 3).size ∧ (nm 3).size ≤ 16 ∧ ∀ j (h : j < (nm 3).size), (97 ≤ ((nm 3)[j]'h).toNat ∧ ((nm 3)[j]'h).toNat ≤ 122) ∨ (48 ≤ ((nm 3)[j]'h).toNat ∧ ((nm 3)[j]'h).toNat ≤ 57) ∨ ((nm 3)[j]'h).toNat = 95 ∨ ((nm 3)[j]'h).toNat = 45)
  exact ⟨key.1, key.2.1, key.2.2, h1, h2⟩
def lss (i j : Nat) : Prop := Op.bytesLess (nm i).data.toList (nm j).data.toList = true
theorem l01 : lss 0 1 := by unfold lss; decide
theorem l02 : lss 0 2 := by unfold lss; decide
theorem l03 : lss 0 3 := by unfold lss; decide
theorem l12 : lss 1 2 := by unfold lss; decide
theorem l13 : lss 1 3 := by unfold lss; decide
theorem l23 : lss 2 3 := by unfold lss; decide
theorem reg_good (st : Nat → Option Bool) : GoodM (reg st) := by
  unfold reg
  generalize st 0 = a
  generalize st 1 = b
  generalize st 2 = c
  generalize st 3 = d
  have ok := fun i b => nm_ok i b 3 (by decide) (by decide)
  refine ⟨⟨?_, ?_, ?_⟩, ?_⟩
  · intro k hk
    rcases a with _ | a <;> rcases b with _ | b <;> rcases c with _ | c <;> rcases d with _ | d <;> rcases k with _ | _ | _ | _ | k <;> first | exact ok _ _ | (exfalso; simp [at1] at hk; done) | (exfalso; simp [at1] at hk; omega)
  · intro k hk
    rw [less_eq]
    rcases a with _ | a <;> rcases b with _ | b <;> rcases c with _ | c <;> rcases d with _ | d <;> rcases k with _ | _ | _ | k <;> first | exact l01 | exact l02 | exact l03 | exact l12 | exact l13 | exact l23 | (exfalso; simp [at1] at hk; done) | (exfalso; simp [at1] at hk; omega)
  · rcases a with _ | a <;> rcases b with _ | b <;> rcases c with _ | c <;> rcases d with _ | d <;> simp [at1]
  · intro k hk
    rcases a with _ | a <;> rcases b with _ | b <;> rcases c with _ | c <;> rcases d with _ | d <;> rcases k with _ | _ | _ | _ | k <;> first | exact .inl rfl | (exfalso; simp [at1] at hk; done) | (exfalso; simp [at1] at hk; omega)
def gtr (i j : Nat) : Prop := ¬ cmpB (nm j) (nm i) < 0
theorem g01 : gtr 0 1 := by unfold gtr; decide
theorem g02 : gtr 0 2 := by unfold gtr; decide
theorem g03 : gtr 0 3 := by unfold gtr; decide
theorem g12 : gtr 1 2 := by unfold gtr; decide
theorem g13 : gtr 1 3 := by unfold gtr; decide
theorem g23 : gtr 2 3 := by unfold gtr; decide
theorem reg_up (st : Nat → Option Bool) : Up (reg st) := by
  unfold reg
  generalize st 0 = a
  generalize st 1 = b
  generalize st 2 = c
  generalize st 3 = d
  intro k hk
  rcases a with _ | a <;> rcases b with _ | b <;> rcases c with _ | c <;> rcases d with _ | d <;> rcases k with _ | _ | _ | k <;> first | exact g01 | exact g02 | exact g03 | exact g12 | exact g13 | exact g23 | (exfalso; simp [at1] at hk; done) | (exfalso; simp [at1] at hk; omega)
theorem reg_few (st : Nat → Option Bool) : (reg st).length ≤ 4 := by
  unfold reg
  generalize st 0 = a
  generalize st 1 = b
  generalize st 2 = c
  generalize st 3 = d
  rcases a with _ | a <;> rcases b with _ | b <;> rcases c with _ | c <;> rcases d with _ | d <;> simp [at1]
/-- A name that is not there. -/
theorem idx_none (st : Nat → Option Bool) (i : Nat) (hi : i < 4) (h : st i = none) : idx (nm i) (reg st) = -1 := by
  unfold reg
  rcases i with _ | _ | _ | _ | i
  · rw [h]
    generalize st 1 = b
    generalize st 2 = c
    generalize st 3 = d
    rcases b with _ | b <;> rcases c with _ | c <;> rcases d with _ | d <;> simp [at1, idx, idxFrom, same_eq, nm]
  · rw [h]
    generalize st 0 = b
    generalize st 2 = c
    generalize st 3 = d
    rcases b with _ | b <;> rcases c with _ | c <;> rcases d with _ | d <;> simp [at1, idx, idxFrom, same_eq, nm]
  · rw [h]
    generalize st 0 = b
    generalize st 1 = c
    generalize st 3 = d
    rcases b with _ | b <;> rcases c with _ | c <;> rcases d with _ | d <;> simp [at1, idx, idxFrom, same_eq, nm]
  · rw [h]
    generalize st 0 = b
    generalize st 1 = c
    generalize st 2 = d
    rcases b with _ | b <;> rcases c with _ | c <;> rcases d with _ | d <;> simp [at1, idx, idxFrom, same_eq, nm]
  · omega
theorem sink_reg (st : Nat → Option Bool) (i : Nat) (hi : i < 4) (h : st i = none) : sink (nm i, true, 3) (reg st).reverse [] = reg (upd st i (some true)) := by
  unfold reg
  rcases i with _ | _ | _ | _ | i
  · simp only [upd, h, if_true, Nat.reduceEqDiff, if_false, Nat.reduceAdd, Nat.zero_add]
    generalize st 1 = b
    generalize st 2 = c
    generalize st 3 = d
    rcases b with _ | b <;> rcases c with _ | c <;> rcases d with _ | d <;> rfl
  · simp only [upd, h, if_true, Nat.reduceEqDiff, if_false, Nat.reduceAdd, Nat.zero_add]
    generalize st 0 = b
    generalize st 2 = c
    generalize st 3 = d
    rcases b with _ | b <;> rcases c with _ | c <;> rcases d with _ | d <;> rfl
  · simp only [upd, h, if_true, Nat.reduceEqDiff, if_false, Nat.reduceAdd, Nat.zero_add]
    generalize st 0 = b
    generalize st 1 = c
    generalize st 3 = d
    rcases b with _ | b <;> rcases c with _ | c <;> rcases d with _ | d <;> rfl
  · simp only [upd, h, if_true, Nat.reduceEqDiff, if_false, Nat.reduceAdd, Nat.zero_add]
    generalize st 0 = b
    generalize st 1 = c
    generalize st 2 = d
    rcases b with _ | b <;> rcases c with _ | c <;> rcases d with _ | d <;> rfl
  · omega
/-- Where a name that is there stands. -/
structure There (st : Nat → Option Bool) (i : Nat) (b : Bool) (A C : List Px) : Prop where
  reg : reg st = A ++ (nm i, b, 3) :: C
  idx : idx (nm i) (A ++ (nm i, b, 3) :: C) = A.length
  rest : ∀ q ∈ C, same q.1 (nm i) = false
  gone : Hand.reg (upd st i none) = A ++ C
  turned : ∀ b', Hand.reg (upd st i (some b')) = A ++ (nm i, b', 3) :: C
theorem there_ (st : Nat → Option Bool) (i : Nat) (hi : i < 4) (b : Bool) (h : st i = some b) : ∃ A C, There st i b A C := by
  rcases i with _ | _ | _ | _ | i
  · refine ⟨[], at1 1 (st 1) ++ (at1 2 (st 2) ++ at1 3 (st 3)), ?_, ?_, ?_, ?_, ?_⟩
    · unfold reg; rw [h]; rfl
    · simp [idx, idxFrom, same_eq]
    · intro q hq
      generalize st 1 = c at hq
      generalize st 2 = d at hq
      generalize st 3 = e at hq
      rcases c with _ | c <;> rcases d with _ | d <;> rcases e with _ | e <;> simp [at1] at hq <;> (try rcases hq with rfl | rfl | rfl) <;> (try rcases hq with rfl | rfl) <;> (try subst hq) <;> simp [same_eq, nm]
    · unfold reg; simp [upd, at1]
    · intro b'; unfold reg; simp [upd, at1]
  · refine ⟨at1 0 (st 0), at1 2 (st 2) ++ at1 3 (st 3), ?_, ?_, ?_, ?_, ?_⟩
    · unfold reg; rw [h]; rfl
    · generalize st 0 = c
      rcases c with _ | c <;> simp [at1, idx, idxFrom, same_eq, nm]
    · intro q hq
      generalize st 2 = d at hq
      generalize st 3 = e at hq
      rcases d with _ | d <;> rcases e with _ | e <;> simp [at1] at hq <;> (try rcases hq with rfl | rfl) <;> (try subst hq) <;> simp [same_eq, nm]
    · unfold reg; simp [upd, at1]
    · intro b'; unfold reg; simp [upd, at1]
  · refine ⟨at1 0 (st 0) ++ at1 1 (st 1), at1 3 (st 3), ?_, ?_, ?_, ?_, ?_⟩
    · unfold reg; rw [h]; simp [at1]
    · generalize st 0 = c
      generalize st 1 = d
      rcases c with _ | c <;> rcases d with _ | d <;> simp [at1, idx, idxFrom, same_eq, nm]
    · intro q hq
      generalize st 3 = e at hq
      rcases e with _ | e <;> simp [at1] at hq <;> (try subst hq) <;> simp [same_eq, nm]
    · unfold reg; simp [upd, at1]
    · intro b'; unfold reg; simp [upd, at1]
  · refine ⟨at1 0 (st 0) ++ (at1 1 (st 1) ++ at1 2 (st 2)), [], ?_, ?_, ?_, ?_, ?_⟩
    · unfold reg; rw [h]; simp [at1]
    · generalize st 0 = c
      generalize st 1 = d
      generalize st 2 = e
      rcases c with _ | c <;> rcases d with _ | d <;> rcases e with _ | e <;> simp [at1, idx, idxFrom, same_eq, nm]
    · intro q hq
      cases hq
    · unfold reg; simp [upd, at1]
    · intro b'; unfold reg; simp [upd, at1]
  · omega
end Go.Proofs.YtdpfmemcpipbkaaGreatDoor.Hand
end
section
/- hub.Ids of a hub without connections, and of one with one. -/
namespace Go.Proofs.YtdpfmemcpipbkaaGreatDoor.Hand
open Go.RowKit
set_option linter.unusedVariables false
set_option linter.unusedSimpArgs false
set_option maxHeartbeats 4000000 in
set_option maxRecDepth 100000 in
theorem ins_int (a : Option Addr) (n c : Nat) (hn : n ≤ 1) (w : World) : Calls Tryz.prog 165 #[.slice a n c, .int .i64 0, .int .i64 n] w fun e w' => e = .returned (.tuple #[]) ∧ w = w' := by
  have h1 : ¬ (1 : Int) < (n : Int) := by omega
  have h2 : (n : Int) ≤ 1 := by omega
  go_enter Tryz.func165, Tryz.ntmps165
  go_wp2_with fail
  refine wp_loop_rounds 1 ?_
  rw [rounds_succ]
  go_wp2_with fail
  go_end0
  exact ⟨rfl, rfl⟩
set_option maxHeartbeats 4000000 in
set_option maxRecDepth 100000 in
theorem pdq_int (a : Option Addr) (n c : Nat) (hn : n ≤ 1) (r : Int) (w : World) : Calls Tryz.prog 110 #[.slice a n c, .int .i64 0, .int .i64 n, .int .i64 r] w fun e w' => e = .returned (.tuple #[]) ∧ w = w' := by
  have h12 : (n : Int) ≤ 12 := by omega
  go_enter Tryz.func110, Tryz.ntmps110
  go_wp2_with fail
  refine wp_loop_rounds 1 ?_
  rw [rounds_succ]
  go_wp2_with fail
  refine (ins_int a n c hn _).mono ?_
  rintro e w1 ⟨rfl, rfl⟩
  go_wp2_with fail
  refine bodyPost_ret (results_none rfl _ _ _) rfl ?_
  exact ⟨rfl, rfl⟩
set_option maxHeartbeats 4000000 in
set_option maxRecDepth 100000 in
theorem sort_int (a : Option Addr) (n c : Nat) (hn : n ≤ 1) (w : World) : Calls Tryz.prog 63 #[.slice a n c] w fun e w' => e = .returned (.tuple #[]) ∧ w = w' := by
  have hL := fun W => Lib.hid (len_calls n (by omega) W)
  have h12 : (n : Int) ≤ 12 := by omega
  go_enter Tryz.func63, Tryz.ntmps63
  go_wp2_with fail
  refine ((hL _).out).mono ?_
  rintro e w1 ⟨⟨r, rfl⟩, rfl⟩
  go_wp2_with fail
  refine (pdq_int a n c hn _ _).mono ?_
  rintro e w1 ⟨rfl, rfl⟩
  go_wp2_with fail
  go_end0
  exact ⟨rfl, rfl⟩
theorem next_none {w : World} {r m s l c : Nat} (hr : w.heap[r]? = some (.mapIter (some m) s #[] l)) (hm : w.heap[m]? = some (.map #[] c)) (ty : TypeId) : (Instr.next (.pointer (some ⟨r, 0, none⟩)) false ty).run Tryz.prog w = .ok (.tuple #[.bool false]) w := by
  simp [Instr.next, getObj, Sem.run, hr, hm, Result.andThen, choose, Question.forced]
theorem next_one {w : World} {r m s l c : Nat} {e0 : MapEntry} (hr : w.heap[r]? = some (.mapIter (some m) s #[] l)) (hm : w.heap[m]? = some (.map #[e0] c)) (hb : e0.born < s) (ty : TypeId) : (Instr.next (.pointer (some ⟨r, 0, none⟩)) false ty).run Tryz.prog w = .ok (.tuple #[.bool true, e0.key, e0.val]) { w with heap := w.heap.setIfInBounds r (.mapIter (some m) s #[e0.born] c) } := by
  have h2 : ¬ s ≤ e0.born := by omega
  simp [Instr.next, getObj, setObj, Sem.run, hr, hm, Result.andThen, choose, Question.forced, hb, h2]
theorem next_end {w : World} {r m s l c : Nat} {e0 : MapEntry} (hr : w.heap[r]? = some (.mapIter (some m) s #[e0.born] l)) (hm : w.heap[m]? = some (.map #[e0] c)) (hb : e0.born < l) (ty : TypeId) : (Instr.next (.pointer (some ⟨r, 0, none⟩)) false ty).run Tryz.prog w = .ok (.tuple #[.bool false]) w := by
  have h2 : ¬ l ≤ e0.born := by omega
  simp [Instr.next, getObj, Sem.run, hr, hm, Result.andThen, choose, Question.forced, h2]
theorem entry_one {w : World} {r m s c : Nat} {e0 : MapEntry} (hr : w.heap[r]? = some (.mapIter (some m) s #[e0.born] c)) (hm : w.heap[m]? = some (.map #[e0] c)) : (Instr.entry (.pointer (some ⟨r, 0, none⟩))).run Tryz.prog w = .ok (.tuple #[e0.key, e0.val]) w := by
  simp [Instr.entry, getObj, Sem.run, hr, hm, Result.andThen]
/-- A hub: its desk, and the block of its map of connections. -/
def HubIn (w : World) (hp dk : Nat) (seed room last : Int) (mb : Nat) : Prop := w.heap[hp]? = some (.cells #[.pointer (some ⟨dk, 0, none⟩), .int .u64 seed, .int .i64 room, .int .i64 last, .map (some mb)] 63 (0, 0))
theorem infoInt : (Tryz.prog.info? 3).map (fun i => (i.zero, i.size, i.bytes)) = some (some (.int .i64 0), 1, 8) := by kernel_rfl
set_option maxHeartbeats 4000000 in
set_option maxRecDepth 100000 in
theorem ids_none (hp dk mb c : Nat) (seed room last : Int) (w : World) (h : HubIn w hp dk seed room last mb) (hm : w.heap[mb]? = some (.map #[] c)) : Calls Tryz.prog 32 #[.pointer (some ⟨hp, 0, none⟩)] w fun e w' => e = .returned (.slice none 0 0) ∧ Below w.heap.size w w' := by
  have c4 := blk_cell h 4
  simp only [List.getElem?_toArray, List.getElem?_cons_zero, List.getElem?_cons_succ] at c4
  have hrg := run_range_map (P := Tryz.prog) w 61 _ _ mb #[] c Tryz.underlying61 hm
  have hnx := fun ty => next_none (w := w.alloc (.mapIter (some mb) c #[] c)) (heap_alloc_new w _) ((Below.heap_alloc w _ mb (blk_lt hm)).trans hm) ty
  go_enter Tryz.func32, Tryz.ntmps32
  go_wp2_with fail
  refine wp_loop_rounds 1 ?_
  rw [rounds_succ]
  go_wp2_with fail
  refine (sort_int none 0 0 (by omega) _).mono ?_
  rintro e w1 ⟨rfl, rfl⟩
  go_wp2_with fail
  go_ret
  exact ⟨rfl, below_alloc (Below.refl _ w) _ (Nat.le_refl _)⟩
set_option maxHeartbeats 8000000 in
set_option maxRecDepth 100000 in
theorem ids_one (hp dk mb c b0 : Nat) (seed room last : Int) (x : Value) (hb0 : b0 < c) (w : World) (h : HubIn w hp dk seed room last mb) (hm : w.heap[mb]? = some (.map #[⟨.int .i64 1, x, b0⟩] c)) : Calls Tryz.prog 32 #[.pointer (some ⟨hp, 0, none⟩)] w fun e w' => ∃ g c', e = .returned (.slice (some ⟨g, 0, none⟩) 1 c') ∧ w'.cell? ⟨g, 0, none⟩ = some (.int .i64 1) ∧ w.heap.size ≤ g ∧ g < w'.heap.size ∧ Below w.heap.size w w' := by
  obtain ⟨i0, hi0, hz0, hz1, hz2⟩ := info_parts infoInt
  have c4 := blk_cell h 4
  simp only [List.getElem?_toArray, List.getElem?_cons_zero, List.getElem?_cons_succ] at c4
  have hrg := run_range_map (P := Tryz.prog) w 61 _ _ mb #[⟨.int .i64 1, x, b0⟩] c Tryz.underlying61 hm
  obtain ⟨w1, hw1⟩ : ∃ w1, w1 = w.alloc (.mapIter (some mb) c #[] c) := ⟨_, rfl⟩
  have hr1 : w1.heap[w.heap.size]? = some (.mapIter (some mb) c #[] c) := by rw [hw1]; exact heap_alloc_new w _
  have hm1 : w1.heap[mb]? = some (.map #[⟨.int .i64 1, x, b0⟩] c) := by rw [hw1]; exact (Below.heap_alloc w _ mb (blk_lt hm)).trans hm
  have hb1 : Below w.heap.size w w1 := by rw [hw1]; exact below_alloc (Below.refl _ w) _ (Nat.le_refl _)
  have hnx := fun ty => next_one hr1 hm1 hb0 ty
  have hz1' := blk_lt hr1
  have hmlt := blk_lt hm
  obtain ⟨w2, hw2⟩ : ∃ w2, w2 = { w1 with heap := w1.heap.setIfInBounds w.heap.size (.mapIter (some mb) c #[b0] c) } := ⟨_, rfl⟩
  have hr2 : w2.heap[w.heap.size]? = some (.mapIter (some mb) c #[b0] c) := by rw [hw2]; simp [hz1']
  have hb2 : Below w.heap.size w1 w2 := by rw [hw2]; exact ⟨rfl, rfl, rfl, by simp, fun i hi => by simp [Array.getElem?_setIfInBounds, Nat.ne_of_gt hi]⟩
  have hm2 : w2.heap[mb]? = some (.map #[⟨.int .i64 1, x, b0⟩] c) := (hb2.block mb hmlt).trans hm1
  have hen := entry_one hr2 hm2
  have hz2' := blk_lt hr2
  rw [← hw2] at hnx
  rw [← hw1] at hrg
  have HB2 := Lib.hid (hb1.trans hb2)
  have HR2 := Lib.hid hr2
  have HM2 := Lib.hid hm2
  clear hw1 hw2 hr1 hm1 hb1 hb2 hr2 hm2 h hm
  go_enter Tryz.func32, Tryz.ntmps32
  go_wp2_with fail
  refine wp_loop_rounds 2 ?_
  rw [rounds_succ]
  have hsz2 : w.heap.size ≤ w2.heap.size := by omega
  go_wp2_with (at_builtin; refine wpList_append_own _ rfl (.tmp 14) (.tmp 16) 100 rfl w2.heap.size 3 i0 _ 1 8 Tryz.underlying100 hi0 hz0 hz1 hz2 rfl (by omega) (.slice none 0 0) 0 [] rfl (World.ownsRow_nil _ _ _ _) ⟨w2.heap.size, 0, none⟩ 1 1 [.int .i64 1] rfl rfl ?qc2 ?qc3 ?qc4 ?qc5 ?qc6 ?_)
  case qc2 =>
    intro j u hj
    rw [Addr.add_lit, Nat.zero_add]
    exact (blk_cell (heap_alloc_new w2 _) j).trans (by rw [← hj]; simp)
  case qc3 => simp [Value.oneCell']
  case qc4 => simp only [maxLen]; omega
  case qc5 => omega
  case qc6 => simp
  intro v5 w5 hown5 hgrow5 hnil5
  obtain ⟨g5, c5, rfl, hg5⟩ := row_form hown5
  have hb5 : Below w2.heap.size w2 w5 := (below_alloc (Below.refl _ w2) _ (Nat.le_refl _)).grown hgrow5 (by simp) (by intro k hk; simp [Value.ownBlock] at hk)
  have hnx5 := fun ty => next_end ((hb5.block _ hz2').trans HR2.out) ((hb5.block _ (by omega)).trans HM2.out) hb0 ty
  have hc5 := hown5.cells (g := g5) rfl 0 (.int .i64 1) rfl
  have hl5 := (hown5.lt g5 rfl).2
  have HB5 := Lib.hid hb5
  have HC5 := Lib.hid hc5
  clear hown5 hgrow5 hnil5 hb5 hnx hrg hen hc5
  go_wp2_with fail
  rw [rounds_succ]
  go_wp2_with fail
  refine (sort_int _ 1 _ (by omega) _).mono ?_
  rintro e w6 ⟨rfl, rfl⟩
  go_wp2_with fail
  go_ret
  refine ⟨g5, c5, rfl, ?_, by omega, hl5, HB2.out.trans (HB5.out.mono hsz2)⟩
  have := HC5.out
  rwa [show (⟨g5, 0, none⟩ : Addr).add 0 = ⟨g5, 0, none⟩ by unfold Addr.add; split <;> simp_all] at this
end Go.Proofs.YtdpfmemcpipbkaaGreatDoor.Hand
end
section
/- hub.all: an iterator over connections, of which there are none. -/
namespace Go.Proofs.YtdpfmemcpipbkaaGreatDoor.Hand
open Go.RowKit
set_option linter.unusedVariables false
set_option linter.unusedSimpArgs false
attribute [local go_sem] Oper.semAt_some
set_option maxHeartbeats 4000000 in
set_option maxRecDepth 100000 in
theorem all_calls (hp : Nat) (p : ByteArray) (w : World) : Calls Tryz.prog 18 #[.pointer (some ⟨hp, 0, none⟩), .string p] w fun e w' => e = .returned (.func (.func 31) #[] #[.pointer (some ⟨w.heap.size, 0, none⟩), .pointer (some ⟨w.heap.size + 1, 0, none⟩)]) ∧ w' = (w.alloc (.cells #[.pointer (some ⟨hp, 0, none⟩)] 31)).alloc (.cells #[.string p] 9) := by
  go_enter Tryz.func18, Tryz.ntmps18
  go_wp2_with fail
  go_ret
  exact ⟨rfl, rfl⟩
theorem grown_of_below {w w' : World} (h : Below w.heap.size w w') : w.grownBy w' none := ⟨h.os, h.tape, h.output, h.size, fun k hk _ => h.block k hk⟩
set_option maxHeartbeats 4000000 in
set_option maxRecDepth 100000 in
theorem all1_none (n : Nat) (hn : 1 ≤ n) (l bh hp dk mb c : Nat) (seed room last : Int) (bp : Addr) {α : Type} (J Jx : List α → World → Prop) (W : World) (hbh : W.cell? ⟨bh, 0, none⟩ = some (.pointer (some ⟨hp, 0, none⟩))) (hh : HubIn W hp dk seed room last mb) (hm : W.heap[mb]? = some (.map #[] c)) (hJ : AbidesFrom W.heap.size J) (h0 : J [] W) :
    CallsIn Fence.wide n Tryz.prog 31 #[.func (.yield l) #[] #[], .pointer (some ⟨bh, 0, none⟩), .pointer (some bp)] W fun e W' => (∃ v, e = .returned v) ∧ ((∃ ys, ys = [] ∧ J ys W') ∨ (∃ pre, True ∧ Jx pre W')) := by
  refine callsIn_wide.2 ?_
  have hI := Lib.hid (ids_none hp dk mb c seed room last W hh hm)
  have HJ := Lib.hid hJ
  have H0 := Lib.hid h0
  clear hh hm hJ h0
  go_enter Tryz.func31, Tryz.ntmps31
  go_wp2_with fail
  refine hI.out.mono ?_
  rintro e w1 ⟨rfl, hb1⟩
  have H1 := Lib.hid (HJ.out [] W w1 none H0.out (grown_of_below hb1) (fun r e => by cases e))
  clear hb1
  go_wp2_with fail
  refine wp_loop_rounds 1 ?_
  rw [rounds_succ]
  go_wp2_with fail
  go_end0
  exact ⟨⟨_, rfl⟩, .inl ⟨[], rfl, H1.out⟩⟩
end Go.Proofs.YtdpfmemcpipbkaaGreatDoor.Hand
end
