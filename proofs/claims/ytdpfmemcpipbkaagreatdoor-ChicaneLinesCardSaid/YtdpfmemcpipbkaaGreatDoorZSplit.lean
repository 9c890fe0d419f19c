/- hub.Do, while there are no connections. -/
import Derived.Test.YtdpfmemcpipbkaaGreatDoorZDo
import Derived.ScopeJumps
import Derived.Laws.IdiomStrings
section
namespace Go.Proofs.YtdpfmemcpipbkaaGreatDoor.Hand
open Go.RowKit
set_option linter.unusedVariables false
set_option linter.unusedSimpArgs false
attribute [local go_sem] Oper.semAt_some
set_option maxHeartbeats 4000000 in
set_option maxRecDepth 100000 in
theorem chg_yes (v : Int) (h1 : 1 ≤ v) (h2 : v ≤ 7) (w : World) : Calls Tryz.prog 27 #[.int .i64 v] w fun e w' => e = .returned (.bool true) ∧ w = w' := by
  go_enter Tryz.func27, Tryz.ntmps27
  go_wp2_with fail
  go_ret
  exact ⟨rfl, rfl⟩
set_option maxHeartbeats 4000000 in
set_option maxRecDepth 100000 in
theorem chg_no (w : World) : Calls Tryz.prog 27 #[.int .i64 8] w fun e w' => e = .returned (.bool false) ∧ w = w' := by
  go_enter Tryz.func27, Tryz.ntmps27
  go_wp2_with fail
  go_ret
  exact ⟨rfl, rfl⟩
theorem Says.below {w w' : World} {u : Value} {L : List ByteArray} {B : Nat} (h : Says w u L B) (hb : Below w.heap.size w w') : Says w' u L B :=
  World.ownsRow.kept (row := none) h (grown_of_below hb) (by cases u.ownBlock <;> simp)
/-- A hub without connections. -/
structure HubAt (w : World) (hp dk : Nat) (seed room last : Int) (mb c : Nat) (l : List Px) : Prop where
  hub : HubIn w hp dk seed room last mb
  map : w.heap[mb]? = some (.map #[] c)
  desk : DeskAt w dk l
theorem DeskAt.below {w w' : World} {dk : Nat} {l : List Px} (h : DeskAt w dk l) (hb : Below w.heap.size w w') : DeskAt w' dk l := by
  obtain ⟨a, n, cap, d, r, h⟩ := h
  exact ⟨a, n, cap, d, r, h.below hb⟩
theorem DeskAt.drew {w : World} {dk : Nat} {l : List Px} (h : DeskAt w dk l) : DeskAt w.drew dk l := by
  obtain ⟨a, n, cap, d, r, h⟩ := h
  exact ⟨a, n, cap, d, r, ⟨h.blk, h.reg.drew⟩⟩
theorem DeskAt.lt {w : World} {dk : Nat} {l : List Px} (h : DeskAt w dk l) : dk < w.heap.size := by
  obtain ⟨a, n, cap, d, r, h⟩ := h
  exact blk_lt h.blk
theorem HubAt.below {w w' : World} {hp dk : Nat} {seed room last : Int} {mb c : Nat} {l : List Px} (h : HubAt w hp dk seed room last mb c l) (hb : Below w.heap.size w w') : HubAt w' hp dk seed room last mb c l :=
  ⟨(hb.block _ (blk_lt h.hub)).trans h.hub, (hb.block _ (blk_lt h.map)).trans h.map, h.desk.below hb⟩
theorem HubAt.ne1 {w : World} {hp dk : Nat} {seed room last : Int} {mb c : Nat} {l : List Px} (h : HubAt w hp dk seed room last mb c l) : hp ≠ dk := by
  rintro rfl
  obtain ⟨a, n, cap, d, r, h2⟩ := h.desk
  have h1 := h.hub
  unfold HubIn at h1
  rw [h2.blk] at h1
  injection h1 with h3
  injection h3 with _ h4
  exact absurd h4 (by decide)
theorem HubAt.ne2 {w : World} {hp dk : Nat} {seed room last : Int} {mb c : Nat} {l : List Px} (h : HubAt w hp dk seed room last mb c l) : mb ≠ dk := by
  rintro rfl
  obtain ⟨a, n, cap, d, r, h2⟩ := h.desk
  have h1 := h.map
  rw [h2.blk] at h1
  injection h1 with h3
  cases h3
theorem HubAt.turn {w w' : World} {hp dk : Nat} {seed room last : Int} {mb c : Nat} {l l' : List Px} (h : HubAt w hp dk seed room last mb c l) (hf : Fr (fun b => b = dk) w w') (hd : DeskAt w' dk l') : HubAt w' hp dk seed room last mb c l' :=
  ⟨(hf.block _ (blk_lt h.hub) h.ne1).trans h.hub, (hf.block _ (blk_lt h.map) h.ne2).trans h.map, hd⟩
set_option maxHeartbeats 16000000 in
set_option maxRecDepth 100000 in
theorem hdo_err (v : Int) (p : ByteArray) (n0 now : Int) (err : Int) (he : (err == 0) = false) (he2 : (err != 0) = true) (hv : (v == 10) = false) (l l' : List Px) (hp dk mb c : Nat) (seed room last : Int) (w : World) (h : HubAt w hp dk seed room last mb c l) (hdo : ∀ W, DeskAt W dk l → Calls Tryz.prog 26 #[.pointer (some ⟨dk, 0, none⟩), .agg (ordC v p n0)] W fun e w' => e = .returned (.tuple #[.slice none 0 0, .int .i64 err]) ∧ DeskAt w' dk l' ∧ Fr (fun b => b = dk) W w') : Calls Tryz.prog 14 #[.pointer (some ⟨hp, 0, none⟩), .int .i64 now, .agg (ordC v p n0)] w fun e w' => e = .returned (.tuple #[.slice none 0 0, .int .i64 err]) ∧ HubAt w' hp dk seed room last mb c l' ∧ Fr (fun b => b = dk) w w' := by
  have hb0 : Below w.heap.size w ((w.alloc (.cells #[.int .i64 now] 3)).alloc (.cells (ordC v p n0) 57)) := below_alloc (below_alloc (Below.refl _ w) _ (Nat.le_refl _)) _ (Nat.le_refl _)
  have hob := heap_alloc_new (w.alloc (.cells #[.int .i64 now] 3)) (.cells (ordC v p n0) 57)
  rw [World.size_alloc] at hob
  have hhb := h.below hb0
  have HDO := fun W h => Lib.hid (hdo W h)
  have H0 := Lib.hid hhb
  have HB0 := Lib.hid hb0
  have HOB := Lib.hid hob
  have hne1 := h.ne1
  have hoz := blk_lt hob
  have hdk : dk < w.heap.size := h.desk.lt
  have hhz := blk_lt h.hub
  have hnd : w.heap.size + 1 ≠ dk := by omega
  have hhz0 := blk_lt hhb.hub
  clear hdo hb0 hob hhb h
  unfold ordC at *
  go_enter Tryz.func14, Tryz.ntmps14
  go_wp2_with fail
  refine start_n (S := fun W => W.cell? ⟨hp, 0, none⟩ = some (.pointer (some ⟨dk, 0, none⟩)) ∧ W.cell? ⟨w.heap.size + 1, 0, none⟩ = some (.int .i64 v) ∧ W.cell? ⟨w.heap.size + 1, 1, none⟩ = some (.string p) ∧ W.cell? ⟨w.heap.size + 1, 2, none⟩ = some (.string ⟨#[]⟩) ∧ W.cell? ⟨w.heap.size + 1, 3, none⟩ = some (.int .i64 n0) ∧ W.cell? ⟨w.heap.size + 1, 4, none⟩ = some (.string ⟨#[]⟩) ∧ W.cell? ⟨w.heap.size + 1, 5, none⟩ = some (.int .i64 0) ∧ W.cell? ⟨w.heap.size + 1, 6, none⟩ = some (.bool false) ∧ W.cell? ⟨w.heap.size + 1, 7, none⟩ = some (.int .i64 0) ∧ W.cell? ⟨w.heap.size + 1, 8, none⟩ = some (.int .i64 0) ∧ W.cell? ⟨w.heap.size + 1, 9, none⟩ = some (.int .i64 0)) 11 #[false, false, false, false, false, false, false, false, false, false, false] (by kernel_rfl) rfl rfl ?_ (fun hHeld => ?_)
  · (try dsimp only)
    exact ⟨blk_cell H0.out.hub 0, blk_cell HOB.out 0, blk_cell HOB.out 1, blk_cell HOB.out 2, blk_cell HOB.out 3, blk_cell HOB.out 4, blk_cell HOB.out 5, blk_cell HOB.out 6, blk_cell HOB.out 7, blk_cell HOB.out 8, blk_cell HOB.out 9⟩
  refine take_n 0 (some 14) #[true, false, false, false, false, false, false, false, false, false, false] (v := ?_) (a' := ?_) rfl rfl rfl (by kernel_rfl) (by kernel_rfl) (by kernel_rfl) (fun _ _ _ _ h => h) (Or.inl ⟨by rfl, ?_⟩) hHeld ?_ ?_
  rotate_left 2
  · intro w hSw
    (try dsimp only at hSw)
    go_simp
    all_goals (with_reducible rfl)
  · simp only [Act.put, List.setIfInBounds_toArray, List.set_cons_zero, List.set_cons_succ]
    rfl
  refine take_n 1 (some 15) #[true, true, false, false, false, false, false, false, false, false, false] (v := ?_) (a' := ?_) rfl rfl rfl (by kernel_rfl) (by kernel_rfl) (by kernel_rfl) (fun _ _ _ _ h => h) (Or.inl ⟨by rfl, ?_⟩) hHeld ?_ ?_
  rotate_left 2
  · intro w hSw
    (try dsimp only at hSw)
    go_simp
    all_goals (with_reducible rfl)
  · simp only [Act.put, List.setIfInBounds_toArray, List.set_cons_zero, List.set_cons_succ]
    rfl
  refine take_n 2 (some 16) #[true, true, true, false, false, false, false, false, false, false, false] (v := ?_) (a' := ?_) rfl rfl rfl (by kernel_rfl) (by kernel_rfl) (by kernel_rfl) (fun _ _ _ _ h => h) (Or.inl ⟨by rfl, ?_⟩) hHeld ?_ ?_
  rotate_left 2
  · intro w hSw
    (try dsimp only at hSw)
    go_simp
    all_goals (with_reducible rfl)
  · simp only [Act.put, List.setIfInBounds_toArray, List.set_cons_zero, List.set_cons_succ]
    rfl
  refine take_n 3 (some 17) #[true, true, true, true, false, false, false, false, false, false, false] (v := ?_) (a' := ?_) rfl rfl rfl (by kernel_rfl) (by kernel_rfl) (by kernel_rfl) (fun _ _ _ _ h => h) (Or.inl ⟨by rfl, ?_⟩) hHeld ?_ ?_
  rotate_left 2
  · intro w hSw
    (try dsimp only at hSw)
    go_simp
    all_goals (with_reducible rfl)
  · simp only [Act.put, List.setIfInBounds_toArray, List.set_cons_zero, List.set_cons_succ]
    rfl
  refine take_n 4 (some 18) #[true, true, true, true, true, false, false, false, false, false, false] (v := ?_) (a' := ?_) rfl rfl rfl (by kernel_rfl) (by kernel_rfl) (by kernel_rfl) (fun _ _ _ _ h => h) (Or.inl ⟨by rfl, ?_⟩) hHeld ?_ ?_
  rotate_left 2
  · intro w hSw
    (try dsimp only at hSw)
    go_simp
    all_goals (with_reducible rfl)
  · simp only [Act.put, List.setIfInBounds_toArray, List.set_cons_zero, List.set_cons_succ]
    rfl
  refine one_n 5 #[true, true, true, true, true, true, false, false, false, false, false] rfl rfl (by kernel_rfl) (fun K hK => ?_)
  go_simp
  refine ((HDO _ H0.out.desk.drew).out).mono ?_
  rintro e w1 ⟨rfl, hd1, hf1⟩
  have hf1 : Fr (fun b => b = dk) ((w.alloc (.cells #[.int .i64 now] 3)).alloc (.cells (ordC v p n0) 57)) w1 := ⟨hf1.os, hf1.tape, hf1.output, hf1.size, hf1.block⟩
  have HF1 := Lib.hid hf1
  refine hK.out _ ?_ _ ?_ ?_ (fun hHeld => ?_)
  rotate_left
  · (try simp only [Act.put, List.setIfInBounds_toArray, List.set_cons_zero, List.set_cons_succ])
    rfl
  · (try dsimp only)
    exact ⟨(World.cell?_of_block (hf1.block (⟨hp, 0, none⟩ : Addr).block hhz0 hne1)).trans hHeld.1, (World.cell?_of_block (hf1.block (⟨w.heap.size + 1, 0, none⟩ : Addr).block hoz hnd)).trans hHeld.2.1, (World.cell?_of_block (hf1.block (⟨w.heap.size + 1, 1, none⟩ : Addr).block hoz hnd)).trans hHeld.2.2.1, (World.cell?_of_block (hf1.block (⟨w.heap.size + 1, 2, none⟩ : Addr).block hoz hnd)).trans hHeld.2.2.2.1, (World.cell?_of_block (hf1.block (⟨w.heap.size + 1, 3, none⟩ : Addr).block hoz hnd)).trans hHeld.2.2.2.2.1, (World.cell?_of_block (hf1.block (⟨w.heap.size + 1, 4, none⟩ : Addr).block hoz hnd)).trans hHeld.2.2.2.2.2.1, (World.cell?_of_block (hf1.block (⟨w.heap.size + 1, 5, none⟩ : Addr).block hoz hnd)).trans hHeld.2.2.2.2.2.2.1, (World.cell?_of_block (hf1.block (⟨w.heap.size + 1, 6, none⟩ : Addr).block hoz hnd)).trans hHeld.2.2.2.2.2.2.2.1, (World.cell?_of_block (hf1.block (⟨w.heap.size + 1, 7, none⟩ : Addr).block hoz hnd)).trans hHeld.2.2.2.2.2.2.2.2.1, (World.cell?_of_block (hf1.block (⟨w.heap.size + 1, 8, none⟩ : Addr).block hoz hnd)).trans hHeld.2.2.2.2.2.2.2.2.2.1, (World.cell?_of_block (hf1.block (⟨w.heap.size + 1, 9, none⟩ : Addr).block hoz hnd)).trans hHeld.2.2.2.2.2.2.2.2.2.2⟩
  clear hK K
  refine take_n 6 (some 13) #[true, true, true, true, true, true, true, false, false, false, false] (v := ?_) (a' := ?_) rfl rfl rfl (by kernel_rfl) (by kernel_rfl) (by kernel_rfl) (fun _ _ _ _ h => h) (Or.inl ⟨by rfl, ?_⟩) hHeld ?_ ?_
  rotate_left 2
  · intro w hSw
    (try dsimp only at hSw)
    go_simp
    all_goals (with_reducible rfl)
  · simp only [Act.put, List.setIfInBounds_toArray, List.set_cons_zero, List.set_cons_succ]
    rfl
  refine take_n 7 (some 20) #[true, true, true, true, true, true, true, true, false, false, false] (v := ?_) (a' := ?_) rfl rfl rfl (by kernel_rfl) (by kernel_rfl) (by kernel_rfl) (fun _ _ _ _ h => h) (Or.inl ⟨by rfl, ?_⟩) hHeld ?_ ?_
  rotate_left 2
  · intro w hSw
    (try dsimp only at hSw)
    go_simp
    all_goals (with_reducible rfl)
  · simp only [Act.put, List.setIfInBounds_toArray, List.set_cons_zero, List.set_cons_succ]
    rfl
  refine take_n 8 (some 21) #[true, true, true, true, true, true, true, true, true, false, false] (v := ?_) (a' := ?_) rfl rfl rfl (by kernel_rfl) (by kernel_rfl) (by kernel_rfl) (fun _ _ _ _ h => h) (Or.inl ⟨by rfl, ?_⟩) hHeld ?_ ?_
  rotate_left 2
  · intro w hSw
    (try dsimp only at hSw)
    go_simp
    all_goals (with_reducible rfl)
  · simp only [Act.put, List.setIfInBounds_toArray, List.set_cons_zero, List.set_cons_succ]
    rfl
  refine take_n 9 (some 8) #[true, true, true, true, true, true, true, true, true, true, false] (v := ?_) (a' := ?_) rfl rfl rfl (by kernel_rfl) (by kernel_rfl) (by kernel_rfl) (fun _ _ _ _ h => h) (Or.inl ⟨by rfl, ?_⟩) hHeld ?_ ?_
  rotate_left 2
  · intro w hSw
    (try dsimp only at hSw)
    go_simp
    all_goals (with_reducible rfl)
  · simp only [Act.put, List.setIfInBounds_toArray, List.set_cons_zero, List.set_cons_succ]
    rfl
  refine take_n 10 (some 9) #[true, true, true, true, true, true, true, true, true, true, true] (v := ?_) (a' := ?_) rfl rfl rfl (by kernel_rfl) (by kernel_rfl) (by kernel_rfl) (fun _ _ _ _ h => h) (Or.inl ⟨by rfl, ?_⟩) hHeld ?_ ?_
  rotate_left 2
  · intro w hSw
    (try dsimp only at hSw)
    go_simp
    all_goals (with_reducible rfl)
  · simp only [Act.put, List.setIfInBounds_toArray, List.set_cons_zero, List.set_cons_succ]
    rfl
  refine wpAnyH_done (by kernel_rfl) ?_ _
  have HO1 : Hid (w1.heap[w.heap.size + 1]? = some (.cells (ordC v p n0) 57 (0, 0))) := (HF1.out.block _ hoz hnd).trans HOB.out
  have H1 := Lib.hid (H0.out.turn HF1.out hd1)
  have o0 := blk_cell HO1.out 0
  have o1 := blk_cell HO1.out 1
  simp only [ordC, List.getElem?_toArray, List.getElem?_cons_zero, List.getElem?_cons_succ] at o0 o1
  clear hHeld hd1
  go_wp2_with fail
  go_ret2
  exact ⟨rfl, H1.out, (Fr.of_below (X := fun b => b = dk) HB0.out).trans HF1.out (fun _ e => e) (fun _ _ e => e)⟩
set_option maxHeartbeats 16000000 in
set_option maxRecDepth 100000 in
theorem hdo_list (p : ByteArray) (n0 now : Int) (L : List ByteArray) (l l' : List Px) (hp dk mb c : Nat) (seed room last : Int) (w : World) (h : HubAt w hp dk seed room last mb c l) (hdo : ∀ W, DeskAt W dk l → Calls Tryz.prog 26 #[.pointer (some ⟨dk, 0, none⟩), .agg (ordC 8 p n0)] W fun e w' => ∃ u, e = .returned (.tuple #[u, .int .i64 0]) ∧ Says w' u L W.heap.size ∧ DeskAt w' dk l' ∧ Fr (fun b => b = dk) W w') : Calls Tryz.prog 14 #[.pointer (some ⟨hp, 0, none⟩), .int .i64 now, .agg (ordC 8 p n0)] w fun e w' => ∃ u, e = .returned (.tuple #[u, .int .i64 0]) ∧ Says w' u L w.heap.size ∧ HubAt w' hp dk seed room last mb c l' ∧ Fr (fun b => b = dk) w w' := by
  have hb0 : Below w.heap.size w ((w.alloc (.cells #[.int .i64 now] 3)).alloc (.cells (ordC 8 p n0) 57)) := below_alloc (below_alloc (Below.refl _ w) _ (Nat.le_refl _)) _ (Nat.le_refl _)
  have hob := heap_alloc_new (w.alloc (.cells #[.int .i64 now] 3)) (.cells (ordC 8 p n0) 57)
  rw [World.size_alloc] at hob
  have hhb := h.below hb0
  have HDO := fun W h => Lib.hid (hdo W h)
  have H0 := Lib.hid hhb
  have HB0 := Lib.hid hb0
  have HOB := Lib.hid hob
  have hne1 := h.ne1
  have hoz := blk_lt hob
  have hdk : dk < w.heap.size := h.desk.lt
  have hhz := blk_lt h.hub
  have hnd : w.heap.size + 1 ≠ dk := by omega
  have hhz0 := blk_lt hhb.hub
  clear hdo hb0 hob hhb h
  unfold ordC at *
  go_enter Tryz.func14, Tryz.ntmps14
  go_wp2_with fail
  refine start_n (S := fun W => W.cell? ⟨hp, 0, none⟩ = some (.pointer (some ⟨dk, 0, none⟩)) ∧ W.cell? ⟨w.heap.size + 1, 0, none⟩ = some (.int .i64 8) ∧ W.cell? ⟨w.heap.size + 1, 1, none⟩ = some (.string p) ∧ W.cell? ⟨w.heap.size + 1, 2, none⟩ = some (.string ⟨#[]⟩) ∧ W.cell? ⟨w.heap.size + 1, 3, none⟩ = some (.int .i64 n0) ∧ W.cell? ⟨w.heap.size + 1, 4, none⟩ = some (.string ⟨#[]⟩) ∧ W.cell? ⟨w.heap.size + 1, 5, none⟩ = some (.int .i64 0) ∧ W.cell? ⟨w.heap.size + 1, 6, none⟩ = some (.bool false) ∧ W.cell? ⟨w.heap.size + 1, 7, none⟩ = some (.int .i64 0) ∧ W.cell? ⟨w.heap.size + 1, 8, none⟩ = some (.int .i64 0) ∧ W.cell? ⟨w.heap.size + 1, 9, none⟩ = some (.int .i64 0)) 11 #[false, false, false, false, false, false, false, false, false, false, false] (by kernel_rfl) rfl rfl ?_ (fun hHeld => ?_)
  · (try dsimp only)
    exact ⟨blk_cell H0.out.hub 0, blk_cell HOB.out 0, blk_cell HOB.out 1, blk_cell HOB.out 2, blk_cell HOB.out 3, blk_cell HOB.out 4, blk_cell HOB.out 5, blk_cell HOB.out 6, blk_cell HOB.out 7, blk_cell HOB.out 8, blk_cell HOB.out 9⟩
  refine take_n 0 (some 14) #[true, false, false, false, false, false, false, false, false, false, false] (v := ?_) (a' := ?_) rfl rfl rfl (by kernel_rfl) (by kernel_rfl) (by kernel_rfl) (fun _ _ _ _ h => h) (Or.inl ⟨by rfl, ?_⟩) hHeld ?_ ?_
  rotate_left 2
  · intro w hSw
    (try dsimp only at hSw)
    go_simp
    all_goals (with_reducible rfl)
  · simp only [Act.put, List.setIfInBounds_toArray, List.set_cons_zero, List.set_cons_succ]
    rfl
  refine take_n 1 (some 15) #[true, true, false, false, false, false, false, false, false, false, false] (v := ?_) (a' := ?_) rfl rfl rfl (by kernel_rfl) (by kernel_rfl) (by kernel_rfl) (fun _ _ _ _ h => h) (Or.inl ⟨by rfl, ?_⟩) hHeld ?_ ?_
  rotate_left 2
  · intro w hSw
    (try dsimp only at hSw)
    go_simp
    all_goals (with_reducible rfl)
  · simp only [Act.put, List.setIfInBounds_toArray, List.set_cons_zero, List.set_cons_succ]
    rfl
  refine take_n 2 (some 16) #[true, true, true, false, false, false, false, false, false, false, false] (v := ?_) (a' := ?_) rfl rfl rfl (by kernel_rfl) (by kernel_rfl) (by kernel_rfl) (fun _ _ _ _ h => h) (Or.inl ⟨by rfl, ?_⟩) hHeld ?_ ?_
  rotate_left 2
  · intro w hSw
    (try dsimp only at hSw)
    go_simp
    all_goals (with_reducible rfl)
  · simp only [Act.put, List.setIfInBounds_toArray, List.set_cons_zero, List.set_cons_succ]
    rfl
  refine take_n 3 (some 17) #[true, true, true, true, false, false, false, false, false, false, false] (v := ?_) (a' := ?_) rfl rfl rfl (by kernel_rfl) (by kernel_rfl) (by kernel_rfl) (fun _ _ _ _ h => h) (Or.inl ⟨by rfl, ?_⟩) hHeld ?_ ?_
  rotate_left 2
  · intro w hSw
    (try dsimp only at hSw)
    go_simp
    all_goals (with_reducible rfl)
  · simp only [Act.put, List.setIfInBounds_toArray, List.set_cons_zero, List.set_cons_succ]
    rfl
  refine take_n 4 (some 18) #[true, true, true, true, true, false, false, false, false, false, false] (v := ?_) (a' := ?_) rfl rfl rfl (by kernel_rfl) (by kernel_rfl) (by kernel_rfl) (fun _ _ _ _ h => h) (Or.inl ⟨by rfl, ?_⟩) hHeld ?_ ?_
  rotate_left 2
  · intro w hSw
    (try dsimp only at hSw)
    go_simp
    all_goals (with_reducible rfl)
  · simp only [Act.put, List.setIfInBounds_toArray, List.set_cons_zero, List.set_cons_succ]
    rfl
  refine one_n 5 #[true, true, true, true, true, true, false, false, false, false, false] rfl rfl (by kernel_rfl) (fun K hK => ?_)
  go_simp
  refine ((HDO _ H0.out.desk.drew).out).mono ?_
  rintro e w1 ⟨u1, rfl, hs1, hd1, hf1⟩
  have hf1 : Fr (fun b => b = dk) ((w.alloc (.cells #[.int .i64 now] 3)).alloc (.cells (ordC 8 p n0) 57)) w1 := ⟨hf1.os, hf1.tape, hf1.output, hf1.size, hf1.block⟩
  have HF1 := Lib.hid hf1
  have HS1 := Lib.hid hs1
  clear hs1
  refine hK.out _ ?_ _ ?_ ?_ (fun hHeld => ?_)
  rotate_left
  · (try simp only [Act.put, List.setIfInBounds_toArray, List.set_cons_zero, List.set_cons_succ])
    rfl
  · (try dsimp only)
    exact ⟨(World.cell?_of_block (hf1.block (⟨hp, 0, none⟩ : Addr).block hhz0 hne1)).trans hHeld.1, (World.cell?_of_block (hf1.block (⟨w.heap.size + 1, 0, none⟩ : Addr).block hoz hnd)).trans hHeld.2.1, (World.cell?_of_block (hf1.block (⟨w.heap.size + 1, 1, none⟩ : Addr).block hoz hnd)).trans hHeld.2.2.1, (World.cell?_of_block (hf1.block (⟨w.heap.size + 1, 2, none⟩ : Addr).block hoz hnd)).trans hHeld.2.2.2.1, (World.cell?_of_block (hf1.block (⟨w.heap.size + 1, 3, none⟩ : Addr).block hoz hnd)).trans hHeld.2.2.2.2.1, (World.cell?_of_block (hf1.block (⟨w.heap.size + 1, 4, none⟩ : Addr).block hoz hnd)).trans hHeld.2.2.2.2.2.1, (World.cell?_of_block (hf1.block (⟨w.heap.size + 1, 5, none⟩ : Addr).block hoz hnd)).trans hHeld.2.2.2.2.2.2.1, (World.cell?_of_block (hf1.block (⟨w.heap.size + 1, 6, none⟩ : Addr).block hoz hnd)).trans hHeld.2.2.2.2.2.2.2.1, (World.cell?_of_block (hf1.block (⟨w.heap.size + 1, 7, none⟩ : Addr).block hoz hnd)).trans hHeld.2.2.2.2.2.2.2.2.1, (World.cell?_of_block (hf1.block (⟨w.heap.size + 1, 8, none⟩ : Addr).block hoz hnd)).trans hHeld.2.2.2.2.2.2.2.2.2.1, (World.cell?_of_block (hf1.block (⟨w.heap.size + 1, 9, none⟩ : Addr).block hoz hnd)).trans hHeld.2.2.2.2.2.2.2.2.2.2⟩
  clear hK K
  refine take_n 6 (some 13) #[true, true, true, true, true, true, true, false, false, false, false] (v := ?_) (a' := ?_) rfl rfl rfl (by kernel_rfl) (by kernel_rfl) (by kernel_rfl) (fun _ _ _ _ h => h) (Or.inl ⟨by rfl, ?_⟩) hHeld ?_ ?_
  rotate_left 2
  · intro w hSw
    (try dsimp only at hSw)
    go_simp
    all_goals (with_reducible rfl)
  · simp only [Act.put, List.setIfInBounds_toArray, List.set_cons_zero, List.set_cons_succ]
    rfl
  refine take_n 7 (some 20) #[true, true, true, true, true, true, true, true, false, false, false] (v := ?_) (a' := ?_) rfl rfl rfl (by kernel_rfl) (by kernel_rfl) (by kernel_rfl) (fun _ _ _ _ h => h) (Or.inl ⟨by rfl, ?_⟩) hHeld ?_ ?_
  rotate_left 2
  · intro w hSw
    (try dsimp only at hSw)
    go_simp
    all_goals (with_reducible rfl)
  · simp only [Act.put, List.setIfInBounds_toArray, List.set_cons_zero, List.set_cons_succ]
    rfl
  refine take_n 8 (some 21) #[true, true, true, true, true, true, true, true, true, false, false] (v := ?_) (a' := ?_) rfl rfl rfl (by kernel_rfl) (by kernel_rfl) (by kernel_rfl) (fun _ _ _ _ h => h) (Or.inl ⟨by rfl, ?_⟩) hHeld ?_ ?_
  rotate_left 2
  · intro w hSw
    (try dsimp only at hSw)
    go_simp
    all_goals (with_reducible rfl)
  · simp only [Act.put, List.setIfInBounds_toArray, List.set_cons_zero, List.set_cons_succ]
    rfl
  refine take_n 9 (some 8) #[true, true, true, true, true, true, true, true, true, true, false] (v := ?_) (a' := ?_) rfl rfl rfl (by kernel_rfl) (by kernel_rfl) (by kernel_rfl) (fun _ _ _ _ h => h) (Or.inl ⟨by rfl, ?_⟩) hHeld ?_ ?_
  rotate_left 2
  · intro w hSw
    (try dsimp only at hSw)
    go_simp
    all_goals (with_reducible rfl)
  · simp only [Act.put, List.setIfInBounds_toArray, List.set_cons_zero, List.set_cons_succ]
    rfl
  refine take_n 10 (some 9) #[true, true, true, true, true, true, true, true, true, true, true] (v := ?_) (a' := ?_) rfl rfl rfl (by kernel_rfl) (by kernel_rfl) (by kernel_rfl) (fun _ _ _ _ h => h) (Or.inl ⟨by rfl, ?_⟩) hHeld ?_ ?_
  rotate_left 2
  · intro w hSw
    (try dsimp only at hSw)
    go_simp
    all_goals (with_reducible rfl)
  · simp only [Act.put, List.setIfInBounds_toArray, List.set_cons_zero, List.set_cons_succ]
    rfl
  refine wpAnyH_done (by kernel_rfl) ?_ _
  have HO1 : Hid (w1.heap[w.heap.size + 1]? = some (.cells (ordC 8 p n0) 57 (0, 0))) := (HF1.out.block _ hoz hnd).trans HOB.out
  have H1 := Lib.hid (H0.out.turn HF1.out hd1)
  have o0 := blk_cell HO1.out 0
  have o1 := blk_cell HO1.out 1
  simp only [ordC, List.getElem?_toArray, List.getElem?_cons_zero, List.getElem?_cons_succ] at o0 o1
  clear hHeld hd1
  go_wp2_with fail
  refine (chg_no _).mono ?_
  rintro e w2 ⟨rfl, rfl⟩
  go_wp2_with fail
  go_ret2
  exact ⟨u1, rfl, HS1.out.base HB0.out.size, H1.out, (Fr.of_below (X := fun b => b = dk) HB0.out).trans HF1.out (fun _ e => e) (fun _ _ e => e)⟩
set_option maxHeartbeats 16000000 in
set_option maxRecDepth 100000 in
theorem hdo_change (v : Int) (p : ByteArray) (n0 now : Int) (hv1 : 1 ≤ v) (hv2 : v ≤ 7) (hv : (v == 10) = false) (L : List ByteArray) (l l' : List Px) (hp dk mb c : Nat) (seed room last : Int) (w : World) (h : HubAt w hp dk seed room last mb c l) (hdo : ∀ W, DeskAt W dk l → Calls Tryz.prog 26 #[.pointer (some ⟨dk, 0, none⟩), .agg (ordC v p n0)] W fun e w' => ∃ u, e = .returned (.tuple #[u, .int .i64 0]) ∧ Says w' u L W.heap.size ∧ DeskAt w' dk l' ∧ Fr (fun b => b = dk) W w') : Calls Tryz.prog 14 #[.pointer (some ⟨hp, 0, none⟩), .int .i64 now, .agg (ordC v p n0)] w fun e w' => ∃ u, e = .returned (.tuple #[u, .int .i64 0]) ∧ Says w' u L w.heap.size ∧ HubAt w' hp dk seed room last mb c l' ∧ Fr (fun b => b = dk) w w' := by
  have hb0 : Below w.heap.size w ((w.alloc (.cells #[.int .i64 now] 3)).alloc (.cells (ordC v p n0) 57)) := below_alloc (below_alloc (Below.refl _ w) _ (Nat.le_refl _)) _ (Nat.le_refl _)
  have hob := heap_alloc_new (w.alloc (.cells #[.int .i64 now] 3)) (.cells (ordC v p n0) 57)
  rw [World.size_alloc] at hob
  have hhb := h.below hb0
  have HDO := fun W h => Lib.hid (hdo W h)
  have H0 := Lib.hid hhb
  have HB0 := Lib.hid hb0
  have HOB := Lib.hid hob
  have hne1 := h.ne1
  have hoz := blk_lt hob
  have hdk : dk < w.heap.size := h.desk.lt
  have hhz := blk_lt h.hub
  have hnd : w.heap.size + 1 ≠ dk := by omega
  have hhz0 := blk_lt hhb.hub
  clear hdo hb0 hob hhb h
  unfold ordC at *
  refine (callsIn_wide (n := 6)).1 ?_
  refine callsIn_of_wp_marks Tryz.func14 rfl trivial ?_ rfl
  refine wpIn_wide.2 ?_
  simp only [Tryz.ntmps14, List.size_toArray, List.length_cons, List.length_nil, Nat.reduceAdd, Nat.reduceSub, Array.replicate_succ, Array.replicate_zero, List.push_toArray, List.append_toArray, List.nil_append, List.cons_append]
  go_wp2_with fail
  refine wp_region_noPanic ?_
  refine start_n (S := fun W => W.cell? ⟨hp, 0, none⟩ = some (.pointer (some ⟨dk, 0, none⟩)) ∧ W.cell? ⟨w.heap.size + 1, 0, none⟩ = some (.int .i64 v) ∧ W.cell? ⟨w.heap.size + 1, 1, none⟩ = some (.string p) ∧ W.cell? ⟨w.heap.size + 1, 2, none⟩ = some (.string ⟨#[]⟩) ∧ W.cell? ⟨w.heap.size + 1, 3, none⟩ = some (.int .i64 n0) ∧ W.cell? ⟨w.heap.size + 1, 4, none⟩ = some (.string ⟨#[]⟩) ∧ W.cell? ⟨w.heap.size + 1, 5, none⟩ = some (.int .i64 0) ∧ W.cell? ⟨w.heap.size + 1, 6, none⟩ = some (.bool false) ∧ W.cell? ⟨w.heap.size + 1, 7, none⟩ = some (.int .i64 0) ∧ W.cell? ⟨w.heap.size + 1, 8, none⟩ = some (.int .i64 0) ∧ W.cell? ⟨w.heap.size + 1, 9, none⟩ = some (.int .i64 0)) 11 #[false, false, false, false, false, false, false, false, false, false, false] (by kernel_rfl) rfl rfl ?_ (fun hHeld => ?_)
  · (try dsimp only)
    exact ⟨blk_cell H0.out.hub 0, blk_cell HOB.out 0, blk_cell HOB.out 1, blk_cell HOB.out 2, blk_cell HOB.out 3, blk_cell HOB.out 4, blk_cell HOB.out 5, blk_cell HOB.out 6, blk_cell HOB.out 7, blk_cell HOB.out 8, blk_cell HOB.out 9⟩
  refine take_n 0 (some 14) #[true, false, false, false, false, false, false, false, false, false, false] (v := ?_) (a' := ?_) rfl rfl rfl (by kernel_rfl) (by kernel_rfl) (by kernel_rfl) (fun _ _ _ _ h => h) (Or.inl ⟨by rfl, ?_⟩) hHeld ?_ ?_
  rotate_left 2
  · intro w hSw
    (try dsimp only at hSw)
    go_simp
    all_goals (with_reducible rfl)
  · simp only [Act.put, List.setIfInBounds_toArray, List.set_cons_zero, List.set_cons_succ]
    rfl
  refine take_n 1 (some 15) #[true, true, false, false, false, false, false, false, false, false, false] (v := ?_) (a' := ?_) rfl rfl rfl (by kernel_rfl) (by kernel_rfl) (by kernel_rfl) (fun _ _ _ _ h => h) (Or.inl ⟨by rfl, ?_⟩) hHeld ?_ ?_
  rotate_left 2
  · intro w hSw
    (try dsimp only at hSw)
    go_simp
    all_goals (with_reducible rfl)
  · simp only [Act.put, List.setIfInBounds_toArray, List.set_cons_zero, List.set_cons_succ]
    rfl
  refine take_n 2 (some 16) #[true, true, true, false, false, false, false, false, false, false, false] (v := ?_) (a' := ?_) rfl rfl rfl (by kernel_rfl) (by kernel_rfl) (by kernel_rfl) (fun _ _ _ _ h => h) (Or.inl ⟨by rfl, ?_⟩) hHeld ?_ ?_
  rotate_left 2
  · intro w hSw
    (try dsimp only at hSw)
    go_simp
    all_goals (with_reducible rfl)
  · simp only [Act.put, List.setIfInBounds_toArray, List.set_cons_zero, List.set_cons_succ]
    rfl
  refine take_n 3 (some 17) #[true, true, true, true, false, false, false, false, false, false, false] (v := ?_) (a' := ?_) rfl rfl rfl (by kernel_rfl) (by kernel_rfl) (by kernel_rfl) (fun _ _ _ _ h => h) (Or.inl ⟨by rfl, ?_⟩) hHeld ?_ ?_
  rotate_left 2
  · intro w hSw
    (try dsimp only at hSw)
    go_simp
    all_goals (with_reducible rfl)
  · simp only [Act.put, List.setIfInBounds_toArray, List.set_cons_zero, List.set_cons_succ]
    rfl
  refine take_n 4 (some 18) #[true, true, true, true, true, false, false, false, false, false, false] (v := ?_) (a' := ?_) rfl rfl rfl (by kernel_rfl) (by kernel_rfl) (by kernel_rfl) (fun _ _ _ _ h => h) (Or.inl ⟨by rfl, ?_⟩) hHeld ?_ ?_
  rotate_left 2
  · intro w hSw
    (try dsimp only at hSw)
    go_simp
    all_goals (with_reducible rfl)
  · simp only [Act.put, List.setIfInBounds_toArray, List.set_cons_zero, List.set_cons_succ]
    rfl
  refine one_n 5 #[true, true, true, true, true, true, false, false, false, false, false] rfl rfl (by kernel_rfl) (fun K hK => ?_)
  go_simp
  refine ((HDO _ H0.out.desk.drew).out).mono ?_
  rintro e w1 ⟨u1, rfl, hs1, hd1, hf1⟩
  have hf1 : Fr (fun b => b = dk) ((w.alloc (.cells #[.int .i64 now] 3)).alloc (.cells (ordC v p n0) 57)) w1 := ⟨hf1.os, hf1.tape, hf1.output, hf1.size, hf1.block⟩
  have HF1 := Lib.hid hf1
  have HS1 := Lib.hid hs1
  clear hs1
  refine hK.out _ ?_ _ ?_ ?_ (fun hHeld => ?_)
  rotate_left
  · (try simp only [Act.put, List.setIfInBounds_toArray, List.set_cons_zero, List.set_cons_succ])
    rfl
  · (try dsimp only)
    exact ⟨(World.cell?_of_block (hf1.block (⟨hp, 0, none⟩ : Addr).block hhz0 hne1)).trans hHeld.1, (World.cell?_of_block (hf1.block (⟨w.heap.size + 1, 0, none⟩ : Addr).block hoz hnd)).trans hHeld.2.1, (World.cell?_of_block (hf1.block (⟨w.heap.size + 1, 1, none⟩ : Addr).block hoz hnd)).trans hHeld.2.2.1, (World.cell?_of_block (hf1.block (⟨w.heap.size + 1, 2, none⟩ : Addr).block hoz hnd)).trans hHeld.2.2.2.1, (World.cell?_of_block (hf1.block (⟨w.heap.size + 1, 3, none⟩ : Addr).block hoz hnd)).trans hHeld.2.2.2.2.1, (World.cell?_of_block (hf1.block (⟨w.heap.size + 1, 4, none⟩ : Addr).block hoz hnd)).trans hHeld.2.2.2.2.2.1, (World.cell?_of_block (hf1.block (⟨w.heap.size + 1, 5, none⟩ : Addr).block hoz hnd)).trans hHeld.2.2.2.2.2.2.1, (World.cell?_of_block (hf1.block (⟨w.heap.size + 1, 6, none⟩ : Addr).block hoz hnd)).trans hHeld.2.2.2.2.2.2.2.1, (World.cell?_of_block (hf1.block (⟨w.heap.size + 1, 7, none⟩ : Addr).block hoz hnd)).trans hHeld.2.2.2.2.2.2.2.2.1, (World.cell?_of_block (hf1.block (⟨w.heap.size + 1, 8, none⟩ : Addr).block hoz hnd)).trans hHeld.2.2.2.2.2.2.2.2.2.1, (World.cell?_of_block (hf1.block (⟨w.heap.size + 1, 9, none⟩ : Addr).block hoz hnd)).trans hHeld.2.2.2.2.2.2.2.2.2.2⟩
  clear hK K
  refine take_n 6 (some 13) #[true, true, true, true, true, true, true, false, false, false, false] (v := ?_) (a' := ?_) rfl rfl rfl (by kernel_rfl) (by kernel_rfl) (by kernel_rfl) (fun _ _ _ _ h => h) (Or.inl ⟨by rfl, ?_⟩) hHeld ?_ ?_
  rotate_left 2
  · intro w hSw
    (try dsimp only at hSw)
    go_simp
    all_goals (with_reducible rfl)
  · simp only [Act.put, List.setIfInBounds_toArray, List.set_cons_zero, List.set_cons_succ]
    rfl
  refine take_n 7 (some 20) #[true, true, true, true, true, true, true, true, false, false, false] (v := ?_) (a' := ?_) rfl rfl rfl (by kernel_rfl) (by kernel_rfl) (by kernel_rfl) (fun _ _ _ _ h => h) (Or.inl ⟨by rfl, ?_⟩) hHeld ?_ ?_
  rotate_left 2
  · intro w hSw
    (try dsimp only at hSw)
    go_simp
    all_goals (with_reducible rfl)
  · simp only [Act.put, List.setIfInBounds_toArray, List.set_cons_zero, List.set_cons_succ]
    rfl
  refine take_n 8 (some 21) #[true, true, true, true, true, true, true, true, true, false, false] (v := ?_) (a' := ?_) rfl rfl rfl (by kernel_rfl) (by kernel_rfl) (by kernel_rfl) (fun _ _ _ _ h => h) (Or.inl ⟨by rfl, ?_⟩) hHeld ?_ ?_
  rotate_left 2
  · intro w hSw
    (try dsimp only at hSw)
    go_simp
    all_goals (with_reducible rfl)
  · simp only [Act.put, List.setIfInBounds_toArray, List.set_cons_zero, List.set_cons_succ]
    rfl
  refine take_n 9 (some 8) #[true, true, true, true, true, true, true, true, true, true, false] (v := ?_) (a' := ?_) rfl rfl rfl (by kernel_rfl) (by kernel_rfl) (by kernel_rfl) (fun _ _ _ _ h => h) (Or.inl ⟨by rfl, ?_⟩) hHeld ?_ ?_
  rotate_left 2
  · intro w hSw
    (try dsimp only at hSw)
    go_simp
    all_goals (with_reducible rfl)
  · simp only [Act.put, List.setIfInBounds_toArray, List.set_cons_zero, List.set_cons_succ]
    rfl
  refine take_n 10 (some 9) #[true, true, true, true, true, true, true, true, true, true, true] (v := ?_) (a' := ?_) rfl rfl rfl (by kernel_rfl) (by kernel_rfl) (by kernel_rfl) (fun _ _ _ _ h => h) (Or.inl ⟨by rfl, ?_⟩) hHeld ?_ ?_
  rotate_left 2
  · intro w hSw
    (try dsimp only at hSw)
    go_simp
    all_goals (with_reducible rfl)
  · simp only [Act.put, List.setIfInBounds_toArray, List.set_cons_zero, List.set_cons_succ]
    rfl
  refine wpAnyH_done (by kernel_rfl) ?_ _
  refine NoPanic.normal ?_
  have HO1 : Hid (w1.heap[w.heap.size + 1]? = some (.cells (ordC v p n0) 57 (0, 0))) := (HF1.out.block _ hoz hnd).trans HOB.out
  have H1 := Lib.hid (H0.out.turn HF1.out hd1)
  have o0 := blk_cell HO1.out 0
  have o1 := blk_cell HO1.out 1
  simp only [ordC, List.getElem?_toArray, List.getElem?_cons_zero, List.getElem?_cons_succ] at o0 o1
  clear hHeld hd1
  go_wp2_with fail
  refine (chg_yes v hv1 hv2 _).mono ?_
  rintro e w2 ⟨rfl, rfl⟩
  go_wp2_with fail
  refine (all_calls hp p _).mono ?_
  rintro e w3 ⟨rfl, hw3⟩
  have hb3 : Below w1.heap.size w1 w3 := by rw [hw3]; exact below_alloc (below_alloc (Below.refl _ w1) _ (Nat.le_refl _)) _ (Nat.le_refl _)
  have hh3 : w3.heap[w1.heap.size]? = some (.cells #[.pointer (some ⟨hp, 0, none⟩)] 31 (0, 0)) := by rw [hw3]; exact (Below.heap_alloc _ _ _ (by rw [World.size_alloc]; omega)).trans (heap_alloc_new w1 _)
  have HB3 := Lib.hid hb3
  have HH3 := Lib.hid hh3
  have H3 := Lib.hid (H1.out.below hb3)
  clear hw3 hb3 hh3
  go_wp2_with fail
  refine (wpIn_wide (n := 6)).1 ?_
  refine wpIn_rangeFunc_ownG (α := Empty) rfl (by omega) (gf := 31) (lb := #[.pointer (some ⟨w1.heap.size, 0, none⟩), .pointer (some ⟨w1.heap.size + 1, 0, none⟩)]) rfl trivial (enters_of Tryz.func31 (by kernel_rfl) rfl)
    (encs := fun x => x.elim) (Kp := fun _ _ => True) (S := fun ys => ys = []) (Sp := fun _ => True) (N := 0) (w0 := w3)
    (fun l J Jx W hW hJ _ _ h0 => all1_none (6 - 1) (by omega) l w1.heap.size hp dk mb c seed room last ⟨w1.heap.size + 1, 0, none⟩ J Jx W ((blk_cell ((hW.block _ (blk_lt HH3.out)).trans HH3.out) 0).trans rfl) ((hW.block _ (blk_lt H3.out.hub)).trans H3.out.hub) ((hW.block _ (blk_lt H3.out.map)).trans H3.out.map) hJ h0)
    (fun _ _ => trivial) (fun _ _ _ _ _ _ _ _ => trivial) (Below.refl _ _) (fun x => x.elim)
    (fun _ W => Below w3.heap.size w3 W) (fun _ _ _ => False)
    (ownFrom_below (Nat.le_refl _) (Nat.le_refl _)) (fun _ _ _ _ _ hs _ _ => hs) (Below.refl _ _)
    (fun x => x.elim) (fun l x => x.elim) (fun l pre x => x.elim) ?done ?stop
  case stop =>
    rintro D c pre W _ _ h _
    exact h.elim
  case done =>
    rintro D ys W hD _ hB hK
    go_wp2_with fail
    refine ⟨by simp, .inl ⟨_, _, rfl, run_takeDeferred hK, ?_⟩⟩
    have hbW : Below w3.heap.size w3 (W.putObj D (.deferred none)) := hB.trans (belowK_b (w := w3) (Nat.le_refl _) W D _ _ hD hK rfl rfl)
    have hb1W := below_step HB3.out hbW
    refine ⟨_, results_tmp2 rfl _ _ _, u1, rfl, ?_, H1.out.below hb1W, ((Fr.of_below (X := fun b => b = dk) HB0.out).trans HF1.out (fun _ e => e) (fun _ _ e => e)).then_below hb1W⟩
    exact HS1.out.below hb1W |>.base HB0.out.size
end Go.Proofs.YtdpfmemcpipbkaaGreatDoor.Hand
end
section
/- A scope with labels: what holds at each jump, and a measure that every pass lowers (after the library's wp_scope_jumps). -/
namespace Go.Proofs.YtdpfmemcpipbkaaGreatDoor.Hand
open Go.RowKit
set_option linter.unusedVariables false
/-- As Q; by a goto: J at its label, and the measure below m. -/
def jumpsI (J : Nat → Act → World → Prop) (μ : Nat → Act → World → Nat) (m : Nat) (Q : Exit → Act → World → Prop) : Exit → Act → World → Prop
  | .goto l, a, w => J l a w ∧ μ l a w < m
  | e, a, w => Q e a w
theorem wp_scope_inv {P : Program} {c : Code} {Q : Exit → Act → World → Prop} {a : Act} {w : World} (J : Nat → Act → World → Prop) (μ : Nat → Act → World → Nat) (m : Nat)
    (first : c.wp P (jumpsI J μ m Q) a w)
    (pass : ∀ l a w, J l a w → ∃ rest, findLabel c l = some rest ∧ rest.wp P (jumpsI J μ (μ l a w) Q) a w) : (Code.scope c).wp P Q a w := by
  intro b k cs
  have key : ∀ n l a w, μ l a w = n → J l a w → ∃ rest, findLabel c l = some rest ∧ ∃ e a' w', Q e a' w' ∧ Arrives P (lone (b.at a (.code rest :: .inScope c :: k)) cs w) b k cs e a' w' := by
    intro n
    induction n using Nat.strongRecOn with
    | _ n ih =>
      intro l a w hn hJ
      obtain ⟨rest, hf, hr⟩ := pass l a w hJ
      refine ⟨rest, hf, ?_⟩
      obtain ⟨e, a₁, w₁, hq, harr⟩ := hr b (.inScope c :: k) cs
      cases e with
      | normal => exact ⟨.normal, a₁, w₁, hq, Steps.trans harr (.one step_inScope)⟩
      | exit id => exact ⟨.exit id, a₁, w₁, hq, fun k' hk => harr k' (by simp [exitTo, hk])⟩
      | goto l' =>
        obtain ⟨hJ', hlt⟩ := hq
        obtain ⟨rest', hf', e₂, a₂, w₂, hq₂, harr₂⟩ := ih _ (by omega) l' a₁ w₁ rfl hJ'
        exact ⟨e₂, a₂, w₂, hq₂, .of_steps (harr _ (by simp [gotoIn, hf'])) harr₂⟩
      | ret => exact ⟨_, a₁, w₁, hq, harr⟩
      | panic ch => exact ⟨_, a₁, w₁, hq, harr⟩
      | outgrown => exact ⟨_, a₁, w₁, hq, harr⟩
  obtain ⟨e, a₁, w₁, hq, harr⟩ := first b (.inScope c :: k) cs
  cases e with
  | normal => exact ⟨.normal, a₁, w₁, hq, .head step_scope (Steps.trans harr (.one step_inScope))⟩
  | exit id => exact ⟨.exit id, a₁, w₁, hq, fun k' hk => .head step_scope (harr k' (by simp [exitTo, hk]))⟩
  | goto l' =>
    obtain ⟨hJ', hlt⟩ := hq
    obtain ⟨rest', hf', e₂, a₂, w₂, hq₂, harr₂⟩ := key _ l' a₁ w₁ rfl hJ'
    exact ⟨e₂, a₂, w₂, hq₂, .of_steps (.head step_scope (harr _ (by simp [gotoIn, hf']))) harr₂⟩
  | ret => exact ⟨_, a₁, w₁, hq, .of_steps (.one step_scope) harr⟩
  | panic ch => exact ⟨_, a₁, w₁, hq, .of_steps (.one step_scope) harr⟩
  | outgrown => exact ⟨_, a₁, w₁, hq, .of_steps (.one step_scope) harr⟩
end Go.Proofs.YtdpfmemcpipbkaaGreatDoor.Hand
end
section
/- words.Split of a line of plain words and blanks. -/
namespace Go.Proofs.YtdpfmemcpipbkaaGreatDoor.Hand
open Go.RowKit
set_option linter.unusedVariables false
set_option linter.unusedSimpArgs false
set_option maxHeartbeats 4000000 in
set_option maxRecDepth 100000 in
theorem more_calls (p q : Addr) (a : Int) (s : ByteArray) (w : World) (hp : w.cell? p = some (.int .i64 a)) (hq : w.cell? q = some (.string s)) : Calls Tryz.prog 41 #[.pointer (some p), .pointer (some q)] w fun e w' => e = .returned (.bool (decide (a < (s.size : Int)))) ∧ w = w' := by
  go_enter Tryz.func41, Tryz.ntmps41
  go_wp2_with fail
  go_ret
  exact ⟨rfl, rfl⟩
set_option maxHeartbeats 4000000 in
set_option maxRecDepth 100000 in
theorem blank_32q (w : World) : Calls Tryz.prog 42 #[.int .u8 32] w fun e w' => e = .returned (.bool true) ∧ w = w' := by
  go_enter Tryz.func42, Tryz.ntmps42
  go_wp2_with fail
  go_ret
  exact ⟨rfl, rfl⟩
set_option maxHeartbeats 4000000 in
set_option maxRecDepth 100000 in
theorem blank_noq (c : Int) (h : 32 < c) (w : World) : Calls Tryz.prog 42 #[.int .u8 c] w fun e w' => e = .returned (.bool false) ∧ w = w' := by
  have h1 : (c == 32) = false := beq_false_of_ne (by omega)
  have h2 : (c == 9) = false := beq_false_of_ne (by omega)
  go_enter Tryz.func42, Tryz.ntmps42
  go_wp2_with fail
  go_ret
  exact ⟨rfl, rfl⟩
set_option maxHeartbeats 4000000 in
set_option maxRecDepth 100000 in
theorem may_yesq (c : Int) (h : 32 ≤ c) (h1 : c ≤ 126) (w : World) : Calls Tryz.prog 43 #[.int .u8 c] w fun e w' => e = .returned (.bool true) ∧ w = w' := by
  go_enter Tryz.func43, Tryz.ntmps43
  go_wp2_with fail
  go_ret
  exact ⟨rfl, rfl⟩
/-- The words of a row of bytes, the one that has begun first. -/
def wordsOf : Option (List UInt8) → List UInt8 → List (List UInt8)
  | none, [] => []
  | some cur, [] => [cur]
  | none, c :: cs => if c = 32 then wordsOf none cs else wordsOf (some [c]) cs
  | some cur, c :: cs => if c = 32 then cur :: wordsOf none cs else wordsOf (some (cur ++ [c])) cs
def strV (l : List UInt8) : Value := .string ⟨l.toArray⟩
def byteV (c : UInt8) : Value := .int .u8 (c.toNat : Int)
/-- What may stand in a plain word. -/
def plainC (c : UInt8) : Prop := 33 ≤ c.toNat ∧ c.toNat ≤ 126 ∧ c.toNat ≠ 34 ∧ c.toNat ≠ 35 ∧ c.toNat ≠ 92
/-- A word begun is told. -/
theorem words_pos : ∀ (cur : List UInt8) (l : List UInt8), 1 ≤ (wordsOf (some cur) l).length
  | cur, [] => by simp [wordsOf]
  | cur, c :: cs => by
    unfold wordsOf
    split
    · simp
    · exact words_pos _ cs
theorem drop_at (s : ByteArray) (k : Nat) (h : k < s.size) : s.data.toList.drop k = s[k] :: s.data.toList.drop (k + 1) := by
  rw [List.drop_eq_getElem_cons (by simpa using h)]
  rfl
theorem own_ne {w : World} {B e e' sz sz' n n' : Nat} {v v' : Value} {xs ys : List Value} (h : w.ownsRow B e sz v n xs) (h' : w.ownsRow B e' sz' v' n' ys) (hne : e ≠ e') : v.ownBlock = none ∨ v.ownBlock ≠ v'.ownBlock := by
  rcases h.2 with ⟨rfl, _⟩ | ⟨g, cap, cur, rfl, _, hh, _⟩
  · exact .inl rfl
  · rcases h'.2 with ⟨rfl, _⟩ | ⟨g', cap', cur', rfl, _, hh', _⟩
    · right; simp [Value.ownBlock]
    · right
      intro e1
      simp [Value.ownBlock] at e1
      subst e1
      rw [hh] at hh'
      injection hh' with h1
      injection h1 with _ h2
      exact hne h2
/-- What holds between two words, and in one. -/
structure InLine (w W : World) (s : ByteArray) (k : Nat) (ws : List (List UInt8)) (lv : Value) : Prop where
  line : W.cell? ⟨w.heap.size, 0, none⟩ = some (.string s)
  at_ : W.cell? ⟨w.heap.size + 1, 0, none⟩ = some (.int .i64 k)
  fr : W.frozen? ⟨w.heap.size + 1, 0, none⟩ = false
  row : W.ownsRow (w.heap.size + 2) 9 1 lv ws.length (ws.map strV)
  le : k ≤ s.size
  below : Below w.heap.size w W
  sz : w.heap.size + 2 ≤ W.heap.size
theorem InLine.grown {w W W' : World} {s : ByteArray} {k : Nat} {ws : List (List UInt8)} {lv : Value} {row : Option Nat} (h : InLine w W s k ws lv) (hg : W.grownBy W' row) (hr : ∀ i, row = some i → w.heap.size + 2 ≤ i) (hl : lv.ownBlock = none ∨ lv.ownBlock ≠ row) : InLine w W' s k ws lv := by
  have sz := h.sz
  have n0 : some w.heap.size ≠ row := fun e => by have := hr _ e.symm; omega
  have n1 : some (w.heap.size + 1) ≠ row := fun e => by have := hr _ e.symm; omega
  exact ⟨(World.cell?_of_block (hg.block _ (by show w.heap.size < _; omega) n0)).trans h.line, (World.cell?_of_block (hg.block _ (by show w.heap.size + 1 < _; omega) n1)).trans h.at_, (World.frozen?_of_block (hg.block _ (by show w.heap.size + 1 < _; omega) n1)).trans h.fr, h.row.kept hg hl, h.le, h.below.grown hg (by omega) (fun i e => by have := hr _ e; omega), Nat.le_trans h.sz hg.size⟩
theorem InLine.set {w W : World} {s : ByteArray} {k : Nat} {ws : List (List UInt8)} {lv : Value} (h : InLine w W s k ws lv) (k' : Nat) (hk : k' ≤ s.size) : InLine w (W.setCell ⟨w.heap.size + 1, 0, none⟩ (.int .i64 k')) s k' ws lv :=
  ⟨(World.cell?_setCell_other _ _ _ _ (by intro e; injection e; omega)).trans h.line, World.cell?_setCell_same' _ _ _ (by rw [h.at_]; rfl), by rw [World.frozen?_setCell]; exact h.fr, ownsRow_setCell_below h.row (by show w.heap.size + 1 < _; omega) _, hk, h.below.setCell (by show w.heap.size ≤ w.heap.size + 1; omega) _, by rw [set_size]; exact h.sz⟩
theorem InLine.grow {w W W' : World} {s : ByteArray} {k : Nat} {ws ws' : List (List UInt8)} {lv lv' : Value} {row : Option Nat} (h : InLine w W s k ws lv) (hg : W.grownBy W' row) (hr : ∀ i, row = some i → w.heap.size + 2 ≤ i) (hl : W'.ownsRow (w.heap.size + 2) 9 1 lv' ws'.length (ws'.map strV)) : InLine w W' s k ws' lv' := by
  have sz := h.sz
  have n0 : some w.heap.size ≠ row := fun e => by have := hr _ e.symm; omega
  have n1 : some (w.heap.size + 1) ≠ row := fun e => by have := hr _ e.symm; omega
  exact ⟨(World.cell?_of_block (hg.block _ (by show w.heap.size < _; omega) n0)).trans h.line, (World.cell?_of_block (hg.block _ (by show w.heap.size + 1 < _; omega) n1)).trans h.at_, (World.frozen?_of_block (hg.block _ (by show w.heap.size + 1 < _; omega) n1)).trans h.fr, hl, h.le, h.below.grown hg (by omega) (fun i e => by have := hr _ e; omega), Nat.le_trans h.sz hg.size⟩
theorem row_ge {w : World} {B e size n : Nat} {v : Value} {xs : List Value} (h : w.ownsRow B e size v n xs) : ∀ i, v.ownBlock = some i → B ≤ i := by
  intro i hi
  rcases h.2 with ⟨rfl, _⟩ | ⟨g, cap, cur, rfl, hb, _⟩
  · simp [Value.ownBlock] at hi
  · simp [Value.ownBlock] at hi
    omega
theorem list_eta (n : Nat) (l : List Value) (h : l.length = n) : l = (List.range n).map fun i => l.getD i undef := by
  apply List.ext_getElem
  · simp [h]
  · intro i h1 h2
    simp [h1]
theorem arr_eta (n : Nat) (t : Array Value) (h : t.size = n) : t = ((List.range n).map fun i => t.getD i undef).toArray := by
  apply Array.ext'
  rw [List.toList_toArray]
  have := list_eta n t.toList (by simpa using h)
  refine this.trans ?_
  apply List.map_congr_left
  intro i hi
  simp [Array.getD_eq_getD_getElem?]
structure FrS (s : ByteArray) (B : Nat) (lv wv : Value) (a : Act) : Prop where
  d : a.defers = []
  n : a.tmps.size = 163
  t0 : a.tmps.getD 0 undef = .string s
  t1 : a.tmps.getD 1 undef = .pointer (some ⟨B, 0, none⟩)
  t5 : a.tmps.getD 5 undef = lv
  t6 : a.tmps.getD 6 undef = wv
  t7 : a.tmps.getD 7 undef = .pointer (some ⟨B + 1, 0, none⟩)
  t8 : a.tmps.getD 8 undef = .func (.func 41) #[] #[.pointer (some ⟨B + 1, 0, none⟩), .pointer (some ⟨B, 0, none⟩)]
def frameS (u : Nat → Value) : Act := { tmps := #[u 0, u 1, u 2, u 3, u 4, u 5, u 6, u 7, u 8, u 9, u 10, u 11, u 12, u 13, u 14, u 15, u 16, u 17, u 18, u 19, u 20, u 21, u 22, u 23, u 24, u 25, u 26, u 27, u 28, u 29, u 30, u 31, u 32, u 33, u 34, u 35, u 36, u 37, u 38, u 39, u 40, u 41, u 42, u 43, u 44, u 45, u 46, u 47, u 48, u 49, u 50, u 51, u 52, u 53, u 54, u 55, u 56, u 57, u 58, u 59, u 60, u 61, u 62, u 63, u 64, u 65, u 66, u 67, u 68, u 69, u 70, u 71, u 72, u 73, u 74, u 75, u 76, u 77, u 78, u 79, u 80, u 81, u 82, u 83, u 84, u 85, u 86, u 87, u 88, u 89, u 90, u 91, u 92, u 93, u 94, u 95, u 96, u 97, u 98, u 99, u 100, u 101, u 102, u 103, u 104, u 105, u 106, u 107, u 108, u 109, u 110, u 111, u 112, u 113, u 114, u 115, u 116, u 117, u 118, u 119, u 120, u 121, u 122, u 123, u 124, u 125, u 126, u 127, u 128, u 129, u 130, u 131, u 132, u 133, u 134, u 135, u 136, u 137, u 138, u 139, u 140, u 141, u 142, u 143, u 144, u 145, u 146, u 147, u 148, u 149, u 150, u 151, u 152, u 153, u 154, u 155, u 156, u 157, u 158, u 159, u 160, u 161, u 162], defers := [] }
set_option maxRecDepth 100000 in
theorem FrS.lit {s : ByteArray} {B : Nat} {lv wv : Value} {a : Act} (h : FrS s B lv wv a) : a = frameS (fun i => a.tmps.getD i undef) := by
  have e := arr_eta 163 a.tmps h.n
  have hd := h.d
  generalize (fun i => a.tmps.getD i undef) = f at e ⊢
  obtain ⟨tm, ds⟩ := a
  simp only at hd e
  subst hd
  rw [e]
  rfl
def JS (w : World) (s : ByteArray) (R : List (List UInt8)) (l : Nat) (a : Act) (W : World) : Prop :=
  (l = 0 ∧ ∃ k ws lv wv, FrS s w.heap.size lv wv a ∧ InLine w W s k ws lv ∧ R = ws ++ wordsOf none (s.data.toList.drop k)) ∨
  (l = 3 ∧ ∃ k ws lv cur wv, FrS s w.heap.size lv wv a ∧ InLine w W s k ws lv ∧ R = ws ++ wordsOf (some cur) (s.data.toList.drop k) ∧ 1 ≤ cur.length ∧ cur.length ≤ k ∧ W.ownsRow (w.heap.size + 2) 5 1 wv cur.length (cur.map byteV))
def μS (B n : Nat) (l : Nat) (_ : Act) (W : World) : Nat := 4 * (n - (intOf ((W.cell? ⟨B + 1, 0, none⟩).getD undef)).toNat) + l
def SplitPost (w : World) (R : List (List UInt8)) (k : Int) (e : Ending) (w' : World) : Prop := ∃ lv, e = .returned (.tuple #[lv, .int .i64 k, .int .i64 0]) ∧ w'.ownsRow w.heap.size 9 1 lv R.length (R.map strV) ∧ Below w.heap.size w w'
theorem InLine.new {w W : World} {s : ByteArray} {k : Nat} {ws : List (List UInt8)} {lv : Value} (h : InLine w W s k ws lv) (o : Obj) : InLine w (W.alloc o) s k ws lv :=
  h.grown (row := none) (World.grownBy_alloc W o none) (fun i e => by cases e) (by cases lv.ownBlock <;> simp)
theorem row_slice {w : World} {B e size n : Nat} {v : Value} {xs : List Value} (h : w.ownsRow B e size v n xs) : ∃ a c, v = .slice a n c := by
  rcases h.2 with ⟨h1, h2⟩ | ⟨g, cap, cur, h1, _⟩
  · subst h2; exact ⟨none, 0, h1⟩
  · exact ⟨_, _, h1⟩
theorem ne_none (v : Value) : v.ownBlock = none ∨ v.ownBlock ≠ (Value.slice none 0 0).ownBlock := by cases h : v.ownBlock <;> simp [Value.ownBlock]
theorem infoU8 : (Tryz.prog.info? 5).map (fun i => (i.zero, i.size, i.bytes)) = some (some (.int .u8 0), 1, 1) := by kernel_rfl
theorem words_some (c : UInt8) (cs : List UInt8) (h : c ≠ 32) : wordsOf none (c :: cs) = wordsOf (some [c]) cs := by simp [wordsOf, h]
theorem words_more (cur : List UInt8) (c : UInt8) (cs : List UInt8) (h : c ≠ 32) : wordsOf (some cur) (c :: cs) = wordsOf (some (cur ++ [c])) cs := by simp [wordsOf, h]
theorem InLine.mu {w W : World} {s : ByteArray} {k : Nat} {ws : List (List UInt8)} {lv : Value} (h : InLine w W s k ws lv) (n l : Nat) (a : Act) : μS w.heap.size n l a W = 4 * (n - k) + l := by
  unfold μS
  rw [h.at_]
  simp [intOf]
set_option maxHeartbeats 32000000 in
set_option maxRecDepth 100000 in
theorem split_calls (s : ByteArray) (hs : s.size ≤ 256) (hc : ∀ k (h : k < s.size), s[k] = 32 ∨ plainC s[k]) (R : List (List UInt8)) (hR : R = wordsOf none s.data.toList) (hR16 : R.length ≤ 16) (w : World) : Calls Tryz.prog 24 #[.string s] w (SplitPost w R s.size) := by
  have hs2 : (s.size : Int) ≤ 256 := by omega
  have HR := Lib.hid hR
  obtain ⟨i8, h8, z8, y8, x8⟩ := info_parts infoU8
  obtain ⟨is, hs_, zs, ys, xs_⟩ := info_parts infoStr
  clear hR
  go_enter Tryz.func24, Tryz.ntmps24
  go_wp2_with fail
  refine wp_scope_inv (JS w s R) (μS w.heap.size s.size) (4 * s.size + 4) ?first ?pass
  case first =>
    go_wp2_with fail
    obtain ⟨wr, hwr⟩ : ∃ wr, wr = (w.alloc (.cells #[.string s] 9)).alloc (.cells #[.int .i64 0] 3) := ⟨_, rfl⟩
    have hin : InLine w wr s 0 [] (.slice none 0 0) := by
      rw [hwr]
      exact ⟨by go_simp, by go_simp, by go_simp, World.ownsRow_nil _ _ _ _, Nat.zero_le _, below_alloc (below_alloc (Below.refl _ w) _ (Nat.le_refl _)) _ (Nat.le_refl _), by rw [World.size_alloc, World.size_alloc]; omega⟩
    have hRk : R = [] ++ wordsOf none (s.data.toList.drop 0) := HR.out
    rw [← hwr]
    have HWR := Lib.hid hwr
    clear hwr
    refine wp_label ?_
    have ha := hin.at_
    have hl := hin.line
    have hf := hin.fr
    have HIN := Lib.hid hin
    have HRK := Lib.hid hRk
    clear hin hRk
    have hMo := Lib.hid (more_calls ⟨w.heap.size + 1, 0, none⟩ ⟨w.heap.size, 0, none⟩ 0 s wr ha hl)
    by_cases hk : 0 < s.size
    · have hk1 : decide ((0 : Int) < (s.size : Int)) = true := decide_eq_true (by omega)
      rw [hk1] at hMo
      have hcc := hc 0 hk
      have hdr := Lib.hid (drop_at s 0 hk)
      by_cases h32 : s[0] = 32
      · have hsk : (s[0]).toNat = 32 := by rw [h32]; rfl
        go_wp2_with fail
        refine hMo.out.mono ?_
        rintro e w1 ⟨rfl, rfl⟩
        go_wp2_with fail
        refine (blank_32q _).mono ?_
        rintro e w2 ⟨rfl, rfl⟩
        go_wp2_with fail
        refine wp_goto ?_
        simp only [Exit.inBlock, Exit.then, jumpsI]
        refine ⟨.inl ⟨rfl, 0 + 1, ([] : List (List UInt8)), (.slice none 0 0), _, ⟨rfl, rfl, rfl, rfl, rfl, rfl, rfl, rfl⟩, HIN.out.set (0 + 1) hk, ?_⟩, ?_⟩
        · rw [HRK.out, hdr.out, h32]
          simp [wordsOf]
        · refine Nat.lt_of_le_of_lt (Nat.le_of_eq ((HIN.out.set (0 + 1) hk).mu s.size 0 _)) ?_
          omega
      · have hpc : plainC s[0] := hcc.resolve_left h32
        obtain ⟨n1, n2, n3, n4, n5⟩ := hpc
        have hw1 : R.length = ([] : List (List UInt8)).length + (wordsOf (some [s[0]]) (s.data.toList.drop (0 + 1))).length := by rw [HRK.out, hdr.out, words_some _ _ h32, List.length_append]
        have hw2 := words_pos [s[0]] (s.data.toList.drop (0 + 1))
        have hws : ((([] : List (List UInt8)).length : Int) == 16) = false := beq_false_of_ne (by omega)
        have hRn := Lib.hid (show R = ([] : List (List UInt8)) ++ wordsOf (some [s[0]]) (s.data.toList.drop (0 + 1)) by rw [HRK.out, hdr.out, words_some _ _ h32])
        obtain ⟨c0, hc0⟩ : ∃ c0 : UInt8, c0 = s[0] := ⟨_, rfl⟩
        rw [← hc0] at hRn h32 n1 n2 n3 n4 n5
        obtain ⟨n, hn⟩ : ∃ n : Nat, n = c0.toNat := ⟨_, rfl⟩
        have hsk : (s[0]).toNat = n := by rw [hn, hc0]
        rw [← hn] at n1 n2 n3 n4 n5
        have e34 : ((n : Int) == 34) = false := beq_false_of_ne (by omega)
        have e35 : ((n : Int) == 35) = false := beq_false_of_ne (by omega)
        have e92 : ((n : Int) == 92) = false := beq_false_of_ne (by omega)
        have HC0 := Lib.hid hc0
        have HN := Lib.hid hn
        clear hc0 hn hw1 hw2 hcc
        go_wp2_with fail
        refine hMo.out.mono ?_
        rintro e w1 ⟨rfl, rfl⟩
        go_wp2_with fail
        refine (blank_noq _ (by omega) _).mono ?_
        rintro e w1 ⟨rfl, rfl⟩
        go_wp2_with fail
        refine (may_yesq _ (by omega) (by omega) _).mono ?_
        rintro e w1 ⟨rfl, rfl⟩
        go_wp2_with fail
        refine wp_label ?_
        go_wp2_with fail
        refine hMo.out.mono ?_
        rintro e w1 ⟨rfl, rfl⟩
        go_wp2_with fail
        refine (blank_noq _ (by omega) _).mono ?_
        rintro e w1 ⟨rfl, rfl⟩
        go_wp2_with fail
        refine (may_yesq _ (by omega) (by omega) _).mono ?_
        rintro e w1 ⟨rfl, rfl⟩
        have hin2 := HIN.out.new (.cells #[.int .u8 n] 5)
        go_wp2_with (at_builtin; refine wpList_append_own _ rfl (.tmp 76) (.tmp 80) 48 rfl (w.heap.size + 2) 5 i8 _ 1 1 Tryz.underlying48 h8 z8 y8 x8 rfl (by omega) (.slice none 0 0) 0 [] rfl (World.ownsRow_nil _ _ _ _) ⟨wr.heap.size, 0, none⟩ 1 1 [.int .u8 n] rfl rfl ?qc2 ?qc3 ?qc4 ?qc5 ?qc6 ?_)
        case qc2 =>
          intro j u hj
          rw [Addr.add_lit, Nat.zero_add]
          exact (blk_cell (heap_alloc_new wr _) j).trans (by rw [← hj]; simp)
        case qc3 => simp [Value.oneCell']
        case qc4 => simp only [maxLen]; omega
        case qc5 => omega
        case qc6 => have := HIN.out.sz; simp; omega
        intro v5 w5 hown5 hgrow5 hnil5
        have hin5 := hin2.grown hgrow5 (fun i e => by simp [Value.ownBlock] at e) (ne_none _)
        have ha5 := hin5.at_
        have hf5 := hin5.fr
        have HIN5 := Lib.hid hin5
        have HO5 := Lib.hid hown5
        obtain ⟨a5, c5, rfl⟩ := row_slice hown5
        clear hin2 hin5 hown5 hgrow5 hnil5 hMo ha hl hf
        go_wp2_with fail
        refine wp_goto ?_
        simp only [Exit.inBlock, Exit.then, jumpsI]
        refine ⟨.inr ⟨rfl, 0 + 1, ([] : List (List UInt8)), _, [c0], _, ⟨rfl, rfl, rfl, rfl, rfl, rfl, rfl, rfl⟩, HIN5.out.set (0 + 1) hk, hRn.out, by simp, by simp, ?_⟩, ?_⟩
        · have ho := ownsRow_setCell_below HO5.out (a := ⟨w.heap.size + 1, 0, none⟩) (by show w.heap.size + 1 < w.heap.size + 2; omega) (.int .i64 ((0 + 1 : Nat) : Int))
          rw [HN.out] at ho
          exact ho
        · refine Nat.lt_of_le_of_lt (Nat.le_of_eq ((HIN5.out.set (0 + 1) hk).mu s.size 3 _)) ?_
          omega
    · have hk1 : decide ((0 : Int) < (s.size : Int)) = false := decide_eq_false (by omega)
      rw [hk1] at hMo
      go_wp2_with fail
      refine hMo.out.mono ?_
      rintro e w1 ⟨rfl, rfl⟩
      go_wp2_with fail
      go_quiet (fail)
      go_wp2_with fail
      have hkn : 0 = s.size := by have := HIN.out.le; omega
      have hRw : R = ([] : List (List UInt8)) := by rw [HRK.out, List.drop_eq_nil_of_le (by rw [Array.length_toList]; show s.size ≤ 0; omega)]; simp [wordsOf]
      refine bodyPost_ret (results_tmp3 rfl _ _ _) rfl ?_
      refine ⟨(.slice none 0 0), by rw [← hkn]; rfl, ?_, below_drewN HIN.out.below _⟩
      rw [hRw]
      exact ⟨HIN.out.row.1, HIN.out.row.2.imp id (fun ⟨g, cap, cur, a, b, c⟩ => ⟨g, cap, cur, a, by omega, c⟩)⟩
  case pass =>
    rintro l a wr (⟨rfl, k, ws, lv, wv, hfr, hin, hRk⟩ | ⟨rfl, k, ws, lv, cur, wv, hfr, hin, hRk, hc1, hc2, hw⟩)
    · refine ⟨_, rfl, ?_⟩
      have hlit := hfr.lit
      obtain ⟨_, _, t0, t1, t5, t6, t7, t8⟩ := hfr
      obtain ⟨u, hu⟩ : ∃ u : Nat → Value, ∀ i, u i = a.tmps.getD i undef := ⟨_, fun _ => rfl⟩
      rw [← hu] at t0 t1 t5 t6 t7 t8
      rw [show (fun i => a.tmps.getD i undef) = u from funext fun i => (hu i).symm] at hlit
      clear hu
      subst hlit
      unfold frameS
      rw [t0, t1, t5, t6, t7, t8]
      clear t0 t1 t5 t6 t7 t8
      have ha := hin.at_
      have hl := hin.line
      have hf := hin.fr
      have HIN := Lib.hid hin
      have HRK := Lib.hid hRk
      clear hin hRk
      have hMo := Lib.hid (more_calls ⟨w.heap.size + 1, 0, none⟩ ⟨w.heap.size, 0, none⟩ k s wr ha hl)
      by_cases hk : k < s.size
      · have hk1 : decide ((k : Int) < (s.size : Int)) = true := decide_eq_true (by omega)
        rw [hk1] at hMo
        have hcc := hc k hk
        have hdr := Lib.hid (drop_at s k hk)
        by_cases h32 : s[k] = 32
        · have hsk : (s[k]).toNat = 32 := by rw [h32]; rfl
          go_wp2_with fail
          refine hMo.out.mono ?_
          rintro e w1 ⟨rfl, rfl⟩
          go_wp2_with fail
          refine (blank_32q _).mono ?_
          rintro e w2 ⟨rfl, rfl⟩
          go_wp2_with fail
          refine wp_goto ?_
          simp only [Exit.inBlock, Exit.then, jumpsI]
          refine ⟨.inl ⟨rfl, k + 1, ws, lv, _, ⟨rfl, rfl, rfl, rfl, rfl, rfl, rfl, rfl⟩, HIN.out.set (k + 1) hk, ?_⟩, ?_⟩
          · rw [HRK.out, hdr.out, h32]
            simp [wordsOf]
          · refine Nat.lt_of_le_of_lt (Nat.le_of_eq ((HIN.out.set (k + 1) hk).mu s.size 0 _)) ?_
            refine Nat.lt_of_lt_of_le ?_ (Nat.le_of_eq (HIN.out.mu s.size 0 _).symm)
            omega
        · have hpc : plainC s[k] := hcc.resolve_left h32
          obtain ⟨n1, n2, n3, n4, n5⟩ := hpc
          have hw1 : R.length = ws.length + (wordsOf (some [s[k]]) (s.data.toList.drop (k + 1))).length := by rw [HRK.out, hdr.out, words_some _ _ h32, List.length_append]
          have hw2 := words_pos [s[k]] (s.data.toList.drop (k + 1))
          have hws : ((ws.length : Int) == 16) = false := beq_false_of_ne (by omega)
          have hRn := Lib.hid (show R = ws ++ wordsOf (some [s[k]]) (s.data.toList.drop (k + 1)) by rw [HRK.out, hdr.out, words_some _ _ h32])
          obtain ⟨c0, hc0⟩ : ∃ c0 : UInt8, c0 = s[k] := ⟨_, rfl⟩
          rw [← hc0] at hRn h32 n1 n2 n3 n4 n5
          obtain ⟨n, hn⟩ : ∃ n : Nat, n = c0.toNat := ⟨_, rfl⟩
          have hsk : (s[k]).toNat = n := by rw [hn, hc0]
          rw [← hn] at n1 n2 n3 n4 n5
          have e34 : ((n : Int) == 34) = false := beq_false_of_ne (by omega)
          have e35 : ((n : Int) == 35) = false := beq_false_of_ne (by omega)
          have e92 : ((n : Int) == 92) = false := beq_false_of_ne (by omega)
          have HC0 := Lib.hid hc0
          have HN := Lib.hid hn
          clear hc0 hn hw1 hw2 hcc
          obtain ⟨la, lc, rfl⟩ := row_slice HIN.out.row
          go_wp2_with fail
          refine hMo.out.mono ?_
          rintro e w1 ⟨rfl, rfl⟩
          go_wp2_with fail
          refine (blank_noq _ (by omega) _).mono ?_
          rintro e w1 ⟨rfl, rfl⟩
          go_wp2_with fail
          refine (may_yesq _ (by omega) (by omega) _).mono ?_
          rintro e w1 ⟨rfl, rfl⟩
          go_wp2_with fail
          refine wp_label ?_
          go_wp2_with fail
          refine hMo.out.mono ?_
          rintro e w1 ⟨rfl, rfl⟩
          go_wp2_with fail
          refine (blank_noq _ (by omega) _).mono ?_
          rintro e w1 ⟨rfl, rfl⟩
          go_wp2_with fail
          refine (may_yesq _ (by omega) (by omega) _).mono ?_
          rintro e w1 ⟨rfl, rfl⟩
          have hin2 := HIN.out.new (.cells #[.int .u8 n] 5)
          go_wp2_with (at_builtin; refine wpList_append_own _ rfl (.tmp 76) (.tmp 80) 48 rfl (w.heap.size + 2) 5 i8 _ 1 1 Tryz.underlying48 h8 z8 y8 x8 rfl (by omega) (.slice none 0 0) 0 [] rfl (World.ownsRow_nil _ _ _ _) ⟨wr.heap.size, 0, none⟩ 1 1 [.int .u8 n] rfl rfl ?qc2 ?qc3 ?qc4 ?qc5 ?qc6 ?_)
          case qc2 =>
            intro j u hj
            rw [Addr.add_lit, Nat.zero_add]
            exact (blk_cell (heap_alloc_new wr _) j).trans (by rw [← hj]; simp)
          case qc3 => simp [Value.oneCell']
          case qc4 => simp only [maxLen]; omega
          case qc5 => omega
          case qc6 => have := HIN.out.sz; simp; omega
          intro v5 w5 hown5 hgrow5 hnil5
          have hin5 := hin2.grown hgrow5 (fun i e => by simp [Value.ownBlock] at e) (ne_none _)
          have ha5 := hin5.at_
          have hf5 := hin5.fr
          have HIN5 := Lib.hid hin5
          have HO5 := Lib.hid hown5
          obtain ⟨a5, c5, rfl⟩ := row_slice hown5
          clear hin2 hin5 hown5 hgrow5 hnil5 hMo ha hl hf
          go_wp2_with fail
          refine wp_goto ?_
          simp only [Exit.inBlock, Exit.then, jumpsI]
          refine ⟨.inr ⟨rfl, k + 1, ws, _, [c0], _, ⟨rfl, rfl, rfl, rfl, rfl, rfl, rfl, rfl⟩, HIN5.out.set (k + 1) hk, hRn.out, by simp, by simp, ?_⟩, ?_⟩
          · have ho := ownsRow_setCell_below HO5.out (a := ⟨w.heap.size + 1, 0, none⟩) (by show w.heap.size + 1 < w.heap.size + 2; omega) (.int .i64 ((k + 1 : Nat) : Int))
            rw [HN.out] at ho
            exact ho
          · refine Nat.lt_of_le_of_lt (Nat.le_of_eq ((HIN5.out.set (k + 1) hk).mu s.size 3 _)) ?_
            refine Nat.lt_of_lt_of_le ?_ (Nat.le_of_eq (HIN.out.mu s.size 0 _).symm)
            omega
      · have hk1 : decide ((k : Int) < (s.size : Int)) = false := decide_eq_false (by omega)
        rw [hk1] at hMo
        go_wp2_with fail
        refine hMo.out.mono ?_
        rintro e w1 ⟨rfl, rfl⟩
        go_wp2_with fail
        go_quiet (fail)
        go_wp2_with fail
        have hkn : k = s.size := by have := HIN.out.le; omega
        have hRw : R = ws := by rw [HRK.out, List.drop_eq_nil_of_le (by rw [Array.length_toList]; show s.size ≤ k; omega)]; simp [wordsOf]
        refine bodyPost_ret (results_tmp3 rfl _ _ _) rfl ?_
        refine ⟨lv, by rw [← hkn]; rfl, ?_, below_drewN HIN.out.below _⟩
        rw [hRw]
        exact ⟨HIN.out.row.1, HIN.out.row.2.imp id (fun ⟨g, cap, cur, a, b, c⟩ => ⟨g, cap, cur, a, by omega, c⟩)⟩
    · refine ⟨_, rfl, ?_⟩
      have hlit := hfr.lit
      obtain ⟨_, _, t0, t1, t5, t6, t7, t8⟩ := hfr
      obtain ⟨u, hu⟩ : ∃ u : Nat → Value, ∀ i, u i = a.tmps.getD i undef := ⟨_, fun _ => rfl⟩
      rw [← hu] at t0 t1 t5 t6 t7 t8
      rw [show (fun i => a.tmps.getD i undef) = u from funext fun i => (hu i).symm] at hlit
      clear hu
      subst hlit
      unfold frameS
      rw [t0, t1, t5, t6, t7, t8]
      clear t0 t1 t5 t6 t7 t8
      have ha := hin.at_
      have hl := hin.line
      have hf := hin.fr
      have HIN := Lib.hid hin
      have HRK := Lib.hid hRk
      clear hin hRk
      have hMo := Lib.hid (more_calls ⟨w.heap.size + 1, 0, none⟩ ⟨w.heap.size, 0, none⟩ k s wr ha hl)
      obtain ⟨la, lc, rfl⟩ := row_slice HIN.out.row
      obtain ⟨wg, wc, rfl, hwg⟩ : ∃ g c, wv = .slice (some ⟨g, 0, none⟩) cur.length c ∧ w.heap.size + 2 ≤ g := by
        rcases hw.2 with ⟨_, h2⟩ | ⟨g, cap, cu, hv, hb, _⟩
        · omega
        · exact ⟨g, cap, hv, hb⟩
      by_cases hk : k < s.size
      · have hk1 : decide ((k : Int) < (s.size : Int)) = true := decide_eq_true (by omega)
        rw [hk1] at hMo
        have hcc := hc k hk
        have hdr := Lib.hid (drop_at s k hk)
        by_cases h32 : s[k] = 32
        · have hsk : (s[k]).toNat = 32 := by rw [h32]; rfl
          have hRw : Hid (R = (ws ++ [cur]) ++ wordsOf none (s.data.toList.drop k)) := by
            show R = _
            rw [HRK.out, hdr.out, h32]
            simp [wordsOf]
          have hcell := hw.cells (g := wg) rfl
          have hcv := run_convert_bytes_back (P := Tryz.prog) wr 48 9 5 ⟨wg, 0, none⟩ wc cur Tryz.underlying48 Tryz.underlying5 Tryz.underlying9 (fun j hj => hcell j _ (by simp [byteV, hj]))
          have hlen16 : ws.length + 1 ≤ 16 := by
            have h1 := congrArg List.length hRw.out
            simp only [List.length_append, List.length_cons, List.length_nil] at h1
            omega
          have HWR := Lib.hid hw
          clear hcell hw
          go_wp2_with fail
          refine hMo.out.mono ?_
          rintro e w1 ⟨rfl, rfl⟩
          go_wp2_with fail
          refine (blank_32q _).mono ?_
          rintro e w2 ⟨rfl, rfl⟩
          go_wp2_with (at_builtin; refine wpList_append_own _ rfl (.tmp 84) (.tmp 87) 38 rfl (w.heap.size + 2) 9 is _ 1 16 Tryz.underlying38 hs_ zs ys xs_ rfl (by omega) _ _ _ rfl (HIN.out.row.alloc _) ⟨wr.heap.size, 0, none⟩ 1 1 [.string ⟨cur.toArray⟩] rfl rfl ?qc2 ?qc3 ?qc4 ?qc5 ?qc6 ?_)
          case qc2 =>
            intro j u hj
            rw [Addr.add_lit, Nat.zero_add]
            exact (blk_cell (heap_alloc_new wr _) j).trans (by rw [← hj]; simp)
          case qc3 => simp [Value.oneCell']
          case qc4 => simp only [maxLen]; omega
          case qc5 => omega
          case qc6 => have := HIN.out.sz; simp; omega
          intro v5 w5 hown5 hgrow5 hnil5
          have hrow5 : w5.ownsRow (w.heap.size + 2) 9 1 v5 (ws ++ [cur]).length ((ws ++ [cur]).map strV) := by simpa [strV] using hown5
          have hin5 := (HIN.out.new (.cells #[.string ⟨cur.toArray⟩] 9)).grow hgrow5 (row_ge HIN.out.row) hrow5
          obtain ⟨a5, c5, rfl⟩ := row_slice hown5
          have HIN5 := Lib.hid hin5
          clear hown5 hgrow5 hnil5 hrow5 hin5 hMo ha hl hf hcv
          go_wp2_with fail
          refine wp_goto ?_
          simp only [Exit.inBlock, Exit.then, jumpsI]
          refine ⟨.inl ⟨rfl, k, ws ++ [cur], _, _, ⟨rfl, rfl, rfl, rfl, rfl, rfl, rfl, rfl⟩, HIN5.out, hRw.out⟩, ?_⟩
          refine Nat.lt_of_le_of_lt (Nat.le_of_eq (HIN5.out.mu s.size 0 _)) ?_
          refine Nat.lt_of_lt_of_le ?_ (Nat.le_of_eq (HIN.out.mu s.size 3 _).symm)
          omega
        · have hpc : plainC s[k] := hcc.resolve_left h32
          obtain ⟨n1, n2, n3, n4, n5⟩ := hpc
          have hRn := Lib.hid (show R = ws ++ wordsOf (some (cur ++ [s[k]])) (s.data.toList.drop (k + 1)) by rw [HRK.out, hdr.out, words_more _ _ _ h32])
          obtain ⟨c0, hc0⟩ : ∃ c0 : UInt8, c0 = s[k] := ⟨_, rfl⟩
          rw [← hc0] at hRn h32 n1 n2 n3 n4 n5
          obtain ⟨n, hn⟩ : ∃ n : Nat, n = c0.toNat := ⟨_, rfl⟩
          have hsk : (s[k]).toNat = n := by rw [hn, hc0]
          rw [← hn] at n1 n2 n3 n4 n5
          have e34 : ((n : Int) == 34) = false := beq_false_of_ne (by omega)
          have e35 : ((n : Int) == 35) = false := beq_false_of_ne (by omega)
          have e92 : ((n : Int) == 92) = false := beq_false_of_ne (by omega)
          have HC0 := Lib.hid hc0
          have HN := Lib.hid hn
          clear hc0 hn hcc
          have hle := HIN.out.le
          have HWR := Lib.hid hw
          clear hw
          go_wp2_with fail
          refine hMo.out.mono ?_
          rintro e w1 ⟨rfl, rfl⟩
          go_wp2_with fail
          refine (blank_noq _ (by omega) _).mono ?_
          rintro e w1 ⟨rfl, rfl⟩
          go_wp2_with fail
          refine (may_yesq _ (by omega) (by omega) _).mono ?_
          rintro e w1 ⟨rfl, rfl⟩
          have hin2 := HIN.out.new (.cells #[.int .u8 n] 5)
          go_wp2_with (at_builtin; refine wpList_append_own _ rfl (.tmp 76) (.tmp 80) 48 rfl (w.heap.size + 2) 5 i8 _ 1 1 Tryz.underlying48 h8 z8 y8 x8 rfl (by omega) (.slice (some ⟨wg, 0, none⟩) cur.length wc) cur.length (cur.map byteV) rfl (HWR.out.alloc _) ⟨wr.heap.size, 0, none⟩ 1 1 [.int .u8 n] rfl rfl ?qc2 ?qc3 ?qc4 ?qc5 ?qc6 ?_)
          case qc2 =>
            intro j u hj
            rw [Addr.add_lit, Nat.zero_add]
            exact (blk_cell (heap_alloc_new wr _) j).trans (by rw [← hj]; simp)
          case qc3 => simp [Value.oneCell']
          case qc4 => simp only [maxLen]; omega
          case qc5 => omega
          case qc6 => have := HIN.out.sz; simp; omega
          intro v5 w5 hown5 hgrow5 hnil5
          have hin5 := hin2.grown hgrow5 (row_ge HWR.out) (own_ne HIN.out.row HWR.out (by decide))
          have ha5 := hin5.at_
          have hf5 := hin5.fr
          have HIN5 := Lib.hid hin5
          have HO5 := Lib.hid hown5
          obtain ⟨a5, c5, rfl⟩ := row_slice hown5
          clear hin2 hin5 hown5 hgrow5 hnil5 hMo ha hl hf
          go_wp2_with fail
          refine wp_goto ?_
          simp only [Exit.inBlock, Exit.then, jumpsI]
          refine ⟨.inr ⟨rfl, k + 1, ws, _, (cur ++ [c0]), _, ⟨rfl, rfl, rfl, rfl, rfl, rfl, rfl, rfl⟩, HIN5.out.set (k + 1) hk, hRn.out, by simp, by simp; omega, ?_⟩, ?_⟩
          · have ho := ownsRow_setCell_below HO5.out (a := ⟨w.heap.size + 1, 0, none⟩) (by show w.heap.size + 1 < w.heap.size + 2; omega) (.int .i64 ((k + 1 : Nat) : Int))
            rw [HN.out] at ho
            rw [List.map_append, List.length_append]
            exact ho
          · refine Nat.lt_of_le_of_lt (Nat.le_of_eq ((HIN5.out.set (k + 1) hk).mu s.size 3 _)) ?_
            refine Nat.lt_of_lt_of_le ?_ (Nat.le_of_eq (HIN.out.mu s.size 3 _).symm)
            omega
      · have hk1 : decide ((k : Int) < (s.size : Int)) = false := decide_eq_false (by omega)
        rw [hk1] at hMo
        have hRw : Hid (R = (ws ++ [cur]) ++ wordsOf none (s.data.toList.drop k)) := by
          show R = _
          have hkn : k = s.size := by have := HIN.out.le; omega
          rw [HRK.out, List.drop_eq_nil_of_le (by rw [Array.length_toList]; show s.size ≤ k; omega)]
          simp [wordsOf]
        have hcell := hw.cells (g := wg) rfl
        have hcv := run_convert_bytes_back (P := Tryz.prog) wr 48 9 5 ⟨wg, 0, none⟩ wc cur Tryz.underlying48 Tryz.underlying5 Tryz.underlying9 (fun j hj => hcell j _ (by simp [byteV, hj]))
        have hlen16 : ws.length + 1 ≤ 16 := by
          have h1 := congrArg List.length hRw.out
          simp only [List.length_append, List.length_cons, List.length_nil] at h1
          omega
        have HWR := Lib.hid hw
        clear hcell hw
        go_wp2_with fail
        refine hMo.out.mono ?_
        rintro e w1 ⟨rfl, rfl⟩
        go_wp2_with (at_builtin; refine wpList_append_own _ rfl (.tmp 84) (.tmp 87) 38 rfl (w.heap.size + 2) 9 is _ 1 16 Tryz.underlying38 hs_ zs ys xs_ rfl (by omega) _ _ _ rfl (HIN.out.row.alloc _) ⟨wr.heap.size, 0, none⟩ 1 1 [.string ⟨cur.toArray⟩] rfl rfl ?qc2 ?qc3 ?qc4 ?qc5 ?qc6 ?_)
        case qc2 =>
          intro j u hj
          rw [Addr.add_lit, Nat.zero_add]
          exact (blk_cell (heap_alloc_new wr _) j).trans (by rw [← hj]; simp)
        case qc3 => simp [Value.oneCell']
        case qc4 => simp only [maxLen]; omega
        case qc5 => omega
        case qc6 => have := HIN.out.sz; simp; omega
        intro v5 w5 hown5 hgrow5 hnil5
        have hrow5 : w5.ownsRow (w.heap.size + 2) 9 1 v5 (ws ++ [cur]).length ((ws ++ [cur]).map strV) := by simpa [strV] using hown5
        have hin5 := (HIN.out.new (.cells #[.string ⟨cur.toArray⟩] 9)).grow hgrow5 (row_ge HIN.out.row) hrow5
        obtain ⟨a5, c5, rfl⟩ := row_slice hown5
        have HIN5 := Lib.hid hin5
        clear hown5 hgrow5 hnil5 hrow5 hin5 hMo ha hl hf hcv
        go_wp2_with fail
        refine wp_goto ?_
        simp only [Exit.inBlock, Exit.then, jumpsI]
        refine ⟨.inl ⟨rfl, k, ws ++ [cur], _, _, ⟨rfl, rfl, rfl, rfl, rfl, rfl, rfl, rfl⟩, HIN5.out, hRw.out⟩, ?_⟩
        refine Nat.lt_of_le_of_lt (Nat.le_of_eq (HIN5.out.mu s.size 0 _)) ?_
        refine Nat.lt_of_lt_of_le ?_ (Nat.le_of_eq (HIN.out.mu s.size 3 _).symm)
        omega
end Go.Proofs.YtdpfmemcpipbkaaGreatDoor.Hand
end
