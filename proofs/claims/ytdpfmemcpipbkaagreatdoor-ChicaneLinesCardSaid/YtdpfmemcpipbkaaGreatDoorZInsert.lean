/- names.at: where a proxy of a name stands. -/
import Derived.Test.YtdpfmemcpipbkaaGreatDoorZNames
import Derived.Lib.Bytealg
import Derived.StillTailTactics
import Derived.Shelf.RegionOpenPlain
section
namespace Go.Proofs.YtdpfmemcpipbkaaGreatDoor.Hand
open Go.RowKit
set_option linter.unusedVariables false
set_option linter.unusedSimpArgs false
set_option maxHeartbeats 4000000 in
set_option maxRecDepth 100000 in
theorem proxy_calls (s : ByteArray) (on : Bool) (m : Int) (w : World) : Calls Tryz.prog 61 #[.agg #[.string s, .bool on, .int .i64 m, .slice none 0 0]] w fun e w' => e = .returned (.string s) ∧ Below w.heap.size w w' := by
  go_enter Tryz.func61, Tryz.ntmps61
  go_wp2_with fail
  go_ret
  exact ⟨rfl, below_alloc (Below.refl _ w) _ (Nat.le_refl _)⟩
/-- Are two names one? -/
def same (a b : ByteArray) : Bool := a.toList == b.toList
set_option maxHeartbeats 4000000 in
set_option maxRecDepth 100000 in
theorem at1_calls (s t : ByteArray) (on : Bool) (m : Int) (bo bn : Nat) (w : World) (ho : w.cell? ⟨bo, 0, none⟩ = some (.func (.func 61) #[] #[])) (hn : w.cell? ⟨bn, 0, none⟩ = some (.string t)) : Calls Tryz.prog 107 #[.agg #[.string s, .bool on, .int .i64 m, .slice none 0 0], .pointer (some ⟨bo, 0, none⟩), .pointer (some ⟨bn, 0, none⟩)] w fun e w' => e = .returned (.bool (same s t)) ∧ Below w.heap.size w w' := by
  have hP := fun W => Lib.hid (proxy_calls s on m W)
  have lo := World.block_lt_of_cell? w _ ho
  have ln := World.block_lt_of_cell? w _ hn
  simp only at lo ln
  go_enter Tryz.func107, Tryz.ntmps107
  go_wp2_with fail
  refine start_n (S := fun W => W.cell? ⟨bo, 0, none⟩ = some (.func (.func 61) #[] #[]) ∧ W.cell? ⟨bn, 0, none⟩ = some (.string t) ∧ W.cell? ⟨w.heap.size, 0, none⟩ = some (.string s) ∧ W.cell? ⟨w.heap.size, 1, none⟩ = some (.bool on) ∧ W.cell? ⟨w.heap.size, 2, none⟩ = some (.int .i64 m) ∧ W.cell? ⟨w.heap.size, 3, none⟩ = some (.slice none 0 0)) 6 #[false, false, false, false, false, false] (by kernel_rfl) rfl rfl ?_ (fun hHeld => ?_)
  · (try dsimp only)
    go_keep
  refine take_n 0 (some 5) #[true, false, false, false, false, false] (v := ?_) (a' := ?_) rfl rfl rfl (by kernel_rfl) (by kernel_rfl) (by kernel_rfl) (fun _ _ _ _ h => h) (Or.inl ⟨by rfl, ?_⟩) hHeld ?_ ?_
  rotate_left 2
  · intro w hSw
    (try dsimp only at hSw)
    go_simp
    (with_reducible rfl)
  · simp only [Act.put, List.setIfInBounds_toArray, List.set_cons_zero, List.set_cons_succ]
    rfl
  refine take_n 1 (some 6) #[true, true, false, false, false, false] (v := ?_) (a' := ?_) rfl rfl rfl (by kernel_rfl) (by kernel_rfl) (by kernel_rfl) (fun _ _ _ _ h => h) (Or.inl ⟨by rfl, ?_⟩) hHeld ?_ ?_
  rotate_left 2
  · intro w hSw
    (try dsimp only at hSw)
    go_simp
    (with_reducible rfl)
  · simp only [Act.put, List.setIfInBounds_toArray, List.set_cons_zero, List.set_cons_succ]
    rfl
  refine take_n 3 (some 8) #[true, true, false, true, false, false] (v := ?_) (a' := ?_) rfl rfl rfl (by kernel_rfl) (by kernel_rfl) (by kernel_rfl) (fun _ _ _ _ h => h) (Or.inl ⟨by rfl, ?_⟩) hHeld ?_ ?_
  rotate_left 2
  · intro w hSw
    (try dsimp only at hSw)
    go_simp
    (with_reducible rfl)
  · simp only [Act.put, List.setIfInBounds_toArray, List.set_cons_zero, List.set_cons_succ]
    rfl
  refine one_n 2 #[true, true, true, true, false, false] rfl rfl (by kernel_rfl) (fun K hK => ?_)
  go_simp
  refine ((hP _).out).mono ?_
  rintro e w1 ⟨rfl, hb1⟩
  have HB1 := Lib.hid hb1
  refine hK.out _ ?_ _ ?_ ?_ (fun hHeld => ?_)
  rotate_left
  · (try simp only [Act.put, List.setIfInBounds_toArray, List.set_cons_zero, List.set_cons_succ])
    rfl
  · (try dsimp only)
    exact ⟨(hb1.cell (p := ⟨bo, 0, none⟩) (by show bo < (w.alloc _).heap.size; rw [World.size_alloc]; omega)).trans hHeld.1, (hb1.cell (p := ⟨bn, 0, none⟩) (by show bn < (w.alloc _).heap.size; rw [World.size_alloc]; omega)).trans hHeld.2.1, (hb1.cell (p := ⟨w.heap.size, 0, none⟩) (by show w.heap.size < (w.alloc _).heap.size; rw [World.size_alloc]; omega)).trans hHeld.2.2.1, (hb1.cell (p := ⟨w.heap.size, 1, none⟩) (by show w.heap.size < (w.alloc _).heap.size; rw [World.size_alloc]; omega)).trans hHeld.2.2.2.1, (hb1.cell (p := ⟨w.heap.size, 2, none⟩) (by show w.heap.size < (w.alloc _).heap.size; rw [World.size_alloc]; omega)).trans hHeld.2.2.2.2.1, (hb1.cell (p := ⟨w.heap.size, 3, none⟩) (by show w.heap.size < (w.alloc _).heap.size; rw [World.size_alloc]; omega)).trans hHeld.2.2.2.2.2⟩
  clear hK K
  refine take_n 4 (some 9) #[true, true, true, true, true, false] (v := ?_) (a' := ?_) rfl rfl rfl (by kernel_rfl) (by kernel_rfl) (by kernel_rfl) (fun _ _ _ _ h => h) (Or.inl ⟨by rfl, ?_⟩) hHeld ?_ ?_
  rotate_left 2
  · intro w hSw
    (try dsimp only at hSw)
    go_simp
    (with_reducible rfl)
  · simp only [Act.put, List.setIfInBounds_toArray, List.set_cons_zero, List.set_cons_succ]
    rfl
  refine take_n 5 (some 4) #[true, true, true, true, true, true] (v := ?_) (a' := ?_) rfl rfl rfl (by kernel_rfl) (by kernel_rfl) (by kernel_rfl) (fun _ _ _ _ h => h) (Or.inl ⟨by rfl, ?_⟩) hHeld ?_ ?_
  rotate_left 2
  · intro w hSw
    (try dsimp only at hSw)
    go_simp
    (with_reducible rfl)
  · simp only [Act.put, List.setIfInBounds_toArray, List.set_cons_zero, List.set_cons_succ]
    rfl
  refine wpAnyH_done (by kernel_rfl) ?_ _
  go_wp2_with fail
  go_ret
  exact ⟨rfl, below_step ((below_alloc (Below.refl _ w) _ (Nat.le_refl _)).drew) HB1.out⟩
set_option maxHeartbeats 4000000 in
set_option maxRecDepth 100000 in
theorem drop2_calls (s t : ByteArray) (on : Bool) (m : Int) (bn : Nat) (w : World) (hn : w.cell? ⟨bn, 0, none⟩ = some (.string t)) : Calls Tryz.prog 147 #[.agg #[.string s, .bool on, .int .i64 m, .slice none 0 0], .pointer (some ⟨bn, 0, none⟩)] w fun e w' => e = .returned (.bool (same s t)) ∧ Below w.heap.size w w' := by
  have ln := World.block_lt_of_cell? w _ hn
  go_enter Tryz.func147, Tryz.ntmps147
  go_wp2_with fail
  go_ret
  exact ⟨rfl, below_alloc (Below.refl _ w) _ (Nat.le_refl _)⟩
def idxFrom (t : ByteArray) : List Px → Nat → Int
  | [], _ => -1
  | p :: l, k => if same p.1 t then (k : Int) else idxFrom t l (k + 1)
/-- Where a name stands; below 0: nowhere. -/
def idx (t : ByteArray) (l : List Px) : Int := idxFrom t l 0
theorem idx_step (t : ByteArray) (l : List Px) (k : Nat) (hk : k < l.length) : idxFrom t (l.drop k) k = if same (l.getD k default).1 t then (k : Int) else idxFrom t (l.drop (k + 1)) (k + 1) := by
  have : l.drop k = l.getD k default :: l.drop (k + 1) := by
    rw [List.drop_eq_getElem_cons hk]
    simp [hk]
  rw [this]
  rfl
set_option maxHeartbeats 4000000 in
set_option maxRecDepth 100000 in
theorem indexAt (t : ByteArray) (l : List Px) (a : Option Addr) (n cap : Nat) (bo bn : Nat) (w : World) (h : RegAt w a n cap l) (hn8 : n ≤ 8) (ho : w.cell? ⟨bo, 0, none⟩ = some (.func (.func 61) #[] #[])) (hn : w.cell? ⟨bn, 0, none⟩ = some (.string t)) : Calls Tryz.prog 106 #[.slice a n cap, .func (.func 107) #[] #[.pointer (some ⟨bo, 0, none⟩), .pointer (some ⟨bn, 0, none⟩)]] w fun e w' => e = .returned (.int .i64 (idx t l)) ∧ Below w.heap.size w w' := by
  have hl := Lib.hid h.len
  have lo := World.block_lt_of_cell? w _ ho
  have ln := World.block_lt_of_cell? w _ hn
  simp only at lo ln
  have HO := Lib.hid ho
  have HN := Lib.hid hn
  clear ho hn
  go_enter Tryz.func106, Tryz.ntmps106
  go_wp2_with fail
  go_loopw [8] (fun i wr => ∃ k : Nat, k ≤ n ∧ i = .int .i64 k ∧ Below w.heap.size w wr ∧ Hid (idx t l = idxFrom t (l.drop k) k)) (fun i _ => n - (intOf i).toNat)
  case atStart => exact ⟨0, Nat.zero_le _, rfl, Below.refl _ _, rfl⟩
  case round =>
    obtain ⟨k, hk, rfl, hb, hx⟩ := hrel
    have hB := Lib.hid hb
    have H := Lib.hid (h.below hb)
    by_cases hlt : k < n
    · obtain ⟨g, rfl, c0, c1, c2, c3⟩ := H.out.at k hlt
      have hst := Lib.hid (hx.out.trans (idx_step t l k (by rw [hl.out]; exact hlt)))
      obtain ⟨⟨s, on, m⟩, hp⟩ : ∃ p, p = l.getD k default := ⟨_, rfl⟩
      rw [← hp] at hst
      simp only [← hp] at c0 c1 c2 c3
      have HP := Lib.hid hp
      clear hp
      have HF := Lib.hid (at1_calls s t on m bo bn wr ((hb.cell (p := ⟨bo, 0, none⟩) lo).trans HO.out) ((hb.cell (p := ⟨bn, 0, none⟩) ln).trans HN.out))
      clear hb
      by_cases hs : same s t = true
      · have hs1 : same s t = true := hs
        go_wp2_with fail
        refine HF.out.mono ?_
        rintro e w2 ⟨rfl, hb2⟩
        have HB2 := Lib.hid hb2
        clear hb2
        rw [hs]
        go_wp2_with fail
        go_ret
        refine ⟨?_, below_step hB.out HB2.out⟩
        rw [hst.out, if_pos hs]
        rfl
      · have hs1 : same s t = false := by simpa using hs
        go_wp2_with fail
        refine HF.out.mono ?_
        rintro e w2 ⟨rfl, hb2⟩
        have HB2 := Lib.hid hb2
        clear hb2
        rw [hs1]
        go_wp2_with fail
        go_roundw
        case rel => exact ⟨k + 1, by omega, by go_num, below_step hB.out HB2.out, hst.out.trans (if_neg hs)⟩
        case measure => simp [intOf]; omega
    · have hk2 : k = n := by omega
      have hend : idxFrom t (l.drop k) k = -1 := by rw [List.drop_eq_nil_of_le (by rw [hl.out]; omega)]; rfl
      have HE := Lib.hid (hx.out.trans hend)
      clear hend hk2
      go_wp2_with fail
      go_ret
      exact ⟨by rw [HE.out]; rfl, hB.out⟩
set_option maxHeartbeats 4000000 in
set_option maxRecDepth 100000 in
theorem indexDrop (t : ByteArray) (l : List Px) (a : Option Addr) (n cap : Nat) (bn : Nat) (w : World) (h : RegAt w a n cap l) (hn8 : n ≤ 8) (hn : w.cell? ⟨bn, 0, none⟩ = some (.string t)) : Calls Tryz.prog 106 #[.slice a n cap, .func (.func 147) #[] #[.pointer (some ⟨bn, 0, none⟩)]] w fun e w' => e = .returned (.int .i64 (idx t l)) ∧ Below w.heap.size w w' := by
  have hl := Lib.hid h.len
  have ln := World.block_lt_of_cell? w _ hn
  simp only at ln
  have HN := Lib.hid hn
  clear hn
  go_enter Tryz.func106, Tryz.ntmps106
  go_wp2_with fail
  go_loopw [8] (fun i wr => ∃ k : Nat, k ≤ n ∧ i = .int .i64 k ∧ Below w.heap.size w wr ∧ Hid (idx t l = idxFrom t (l.drop k) k)) (fun i _ => n - (intOf i).toNat)
  case atStart => exact ⟨0, Nat.zero_le _, rfl, Below.refl _ _, rfl⟩
  case round =>
    obtain ⟨k, hk, rfl, hb, hx⟩ := hrel
    have hB := Lib.hid hb
    have H := Lib.hid (h.below hb)
    by_cases hlt : k < n
    · obtain ⟨g, rfl, c0, c1, c2, c3⟩ := H.out.at k hlt
      have hst := Lib.hid (hx.out.trans (idx_step t l k (by rw [hl.out]; exact hlt)))
      obtain ⟨⟨s, on, m⟩, hp⟩ : ∃ p, p = l.getD k default := ⟨_, rfl⟩
      rw [← hp] at hst
      simp only [← hp] at c0 c1 c2 c3
      have HP := Lib.hid hp
      clear hp
      have HF := Lib.hid (drop2_calls s t on m bn wr ((hb.cell (p := ⟨bn, 0, none⟩) ln).trans HN.out))
      clear hb
      by_cases hs : same s t = true
      · have hs1 : same s t = true := hs
        go_wp2_with fail
        refine HF.out.mono ?_
        rintro e w2 ⟨rfl, hb2⟩
        have HB2 := Lib.hid hb2
        clear hb2
        rw [hs]
        go_wp2_with fail
        go_ret
        refine ⟨?_, below_step hB.out HB2.out⟩
        rw [hst.out, if_pos hs]
        rfl
      · have hs1 : same s t = false := by simpa using hs
        go_wp2_with fail
        refine HF.out.mono ?_
        rintro e w2 ⟨rfl, hb2⟩
        have HB2 := Lib.hid hb2
        clear hb2
        rw [hs1]
        go_wp2_with fail
        go_roundw
        case rel => exact ⟨k + 1, by omega, by go_num, below_step hB.out HB2.out, hst.out.trans (if_neg hs)⟩
        case measure => simp [intOf]; omega
    · have hk2 : k = n := by omega
      have hend : idxFrom t (l.drop k) k = -1 := by rw [List.drop_eq_nil_of_le (by rw [hl.out]; omega)]; rfl
      have HE := Lib.hid (hx.out.trans hend)
      clear hend hk2
      go_wp2_with fail
      go_ret
      exact ⟨by rw [HE.out]; rfl, hB.out⟩
set_option maxHeartbeats 4000000 in
set_option maxRecDepth 100000 in
theorem at_calls (t : ByteArray) (l : List Px) (a : Option Addr) (n cap : Nat) (w : World) (h : RegAt w a n cap l) (hn8 : n ≤ 8) : Calls Tryz.prog 60 #[.slice a n cap, .string t, .func (.func 61) #[] #[]] w fun e w' => e = .returned (.int .i64 (idx t l)) ∧ Below w.heap.size w w' := by
  have hB : Below w.heap.size w ((w.alloc (.cells #[.string t] 9)).alloc (.cells #[.func (.func 61) #[] #[]] 134)) := below_alloc (below_alloc (Below.refl _ w) _ (Nat.le_refl _)) _ (Nat.le_refl _)
  have hI := Lib.hid (indexAt t l a n cap (w.heap.size + 1) w.heap.size ((w.alloc (.cells #[.string t] 9)).alloc (.cells #[.func (.func 61) #[] #[]] 134)) (h.below hB) hn8 (by go_simp) (by go_simp))
  have HB := Lib.hid hB
  clear h hB
  go_enter Tryz.func60, Tryz.ntmps60
  go_wp2_with fail
  refine hI.out.mono ?_
  rintro e w2 ⟨rfl, hb2⟩
  have HB2 := Lib.hid hb2
  clear hb2
  go_wp2_with fail
  go_ret
  exact ⟨rfl, below_step HB.out HB2.out⟩
end Go.Proofs.YtdpfmemcpipbkaaGreatDoor.Hand
end
section
/- strings.Compare; slices.SortFunc of proxies in order but for the last. -/
namespace Go.Proofs.YtdpfmemcpipbkaaGreatDoor.Hand
open Go.RowKit
set_option linter.unusedVariables false
set_option linter.unusedSimpArgs false
def cmpB (a b : ByteArray) : Int := Lib.compareBytes a.data.toList b.data.toList
set_option maxHeartbeats 4000000 in
set_option maxRecDepth 100000 in
theorem cmpString (a b : ByteArray) (w : World) : Calls Tryz.prog 205 #[.string a, .string b] w fun e w' => e = .returned (.int .i64 (cmpB a b)) ∧ w = w' := by
  go_enter Tryz.func205, Tryz.ntmps205
  go_wp2_with fail
  rw [run_callFunc_extern Tryz.func261 (by kernel_rfl) (by kernel_rfl) (by kernel_rfl) (e := Extern.BytealgCompare.compare) (by kernel_rfl), Lib.run_compareString]
  simp only [Result.andThen]
  rw [Oper.upon_value]
  go_wp2_with fail
  go_ret
  exact ⟨rfl, rfl⟩
set_option maxHeartbeats 4000000 in
set_option maxRecDepth 100000 in
theorem compare_calls (a b : ByteArray) (w : World) : Calls Tryz.prog 143 #[.string a, .string b] w fun e w' => e = .returned (.int .i64 (cmpB a b)) ∧ w = w' := by
  go_enter Tryz.func143, Tryz.ntmps143
  go_wp2_with fail
  refine (cmpString a b _).mono ?_
  rintro e w1 ⟨rfl, rfl⟩
  go_wp2_with fail
  go_ret
  exact ⟨rfl, rfl⟩
set_option maxHeartbeats 4000000 in
set_option maxRecDepth 100000 in
theorem add1_calls (s t : ByteArray) (o p : Bool) (m n : Int) (w : World) : Calls Tryz.prog 142 #[.agg #[.string s, .bool o, .int .i64 m, .slice none 0 0], .agg #[.string t, .bool p, .int .i64 n, .slice none 0 0]] w fun e w' => e = .returned (.int .i64 (cmpB s t)) ∧ Below w.heap.size w w' := by
  have hC := fun W => Lib.hid (compare_calls s t W)
  obtain ⟨r, hr⟩ : ∃ r, r = cmpB s t := ⟨_, rfl⟩
  rw [← hr] at hC ⊢
  clear hr
  go_enter Tryz.func142, Tryz.ntmps142
  go_wp2_with fail
  refine ((hC _).out).mono ?_
  rintro e w1 ⟨rfl, rfl⟩
  go_wp2_with fail
  go_ret
  exact ⟨rfl, below_alloc (below_alloc (Below.refl _ w) _ (Nat.le_refl _)) _ (Nat.le_refl _)⟩
set_option maxHeartbeats 4000000 in
set_option maxRecDepth 100000 in
theorem len64_calls (n : Nat) (hn : n ≤ 8) (w : World) : Calls Tryz.prog 175 #[.int .u64 n] w fun e w' => (∃ r : Int, e = .returned (.int .i64 r)) ∧ w = w' := by
  have : n = 0 ∨ n = 1 ∨ n = 2 ∨ n = 3 ∨ n = 4 ∨ n = 5 ∨ n = 6 ∨ n = 7 ∨ n = 8 := by omega
  rcases this with rfl | rfl | rfl | rfl | rfl | rfl | rfl | rfl | rfl
  all_goals
    go_enter Tryz.func175, Tryz.ntmps175
    go_wp2_with fail
    go_ret
    exact ⟨⟨_, rfl⟩, rfl⟩
set_option maxHeartbeats 4000000 in
set_option maxRecDepth 100000 in
theorem len_calls (n : Nat) (hn : n ≤ 8) (w : World) : Calls Tryz.prog 111 #[.int .u64 n] w fun e w' => (∃ r : Int, e = .returned (.int .i64 r)) ∧ w = w' := by
  have hL := fun W => Lib.hid (len64_calls n hn W)
  go_enter Tryz.func111, Tryz.ntmps111
  go_wp2_with fail
  refine ((hL _).out).mono ?_
  rintro e w1 ⟨⟨r, rfl⟩, rfl⟩
  go_wp2_with fail
  go_ret
  exact ⟨⟨_, rfl⟩, rfl⟩
end Go.Proofs.YtdpfmemcpipbkaaGreatDoor.Hand
end
section
/- A proxy is put into its place in a slice. -/
namespace Go.Proofs.YtdpfmemcpipbkaaGreatDoor.Hand
open Go.RowKit
set_option linter.unusedVariables false
set_option linter.unusedSimpArgs false
theorem ownsRow_set {w : World} {B e size n cap g j : Nat} {xs : List Value} (h : w.ownsRow B e size (.slice (some ⟨g, 0, none⟩) n cap) n xs) (v : Value) (hj : j < n * size) : (w.setCell ⟨g, j, none⟩ v).ownsRow B e size (.slice (some ⟨g, 0, none⟩) n cap) n (xs.set j v) := by
  refine ⟨by rw [List.length_set]; exact h.1, ?_⟩
  rcases h.2 with ⟨hv, _⟩ | ⟨g', cp, cur, hv, hb, hh, hn, hm, hs, ht⟩
  · cases hv
  · cases hv
    refine .inr ⟨g, cap, cur.setIfInBounds j v, rfl, hb, ?_, hn, hm, by simpa using hs, ?_⟩
    · show (w.heap.modify g _)[g]? = _
      rw [Array.getElem?_modify, if_pos rfl, hh]
      rfl
    · rw [Array.toList_setIfInBounds, List.take_set, ht]
theorem row_form {w : World} {B e size n : Nat} {v : Value} {xs : List Value} (h : w.ownsRow B e size v (n + 1) xs) : ∃ g c, v = .slice (some ⟨g, 0, none⟩) (n + 1) c ∧ B ≤ g := by
  rcases h.2 with ⟨_, h2⟩ | ⟨g, cap, cur, hv, hb, _⟩
  · omega
  · exact ⟨g, cap, hv, hb⟩
theorem regV_set : ∀ (l : List Px) (k : Nat) (p : Px), k < l.length → regV (l.set k p) = ((((regV l).set (k * 4) (.string p.1)).set (k * 4 + 1) (.bool p.2.1)).set (k * 4 + 2) (.int .i64 p.2.2)).set (k * 4 + 3) (.slice none 0 0)
  | q :: l, 0, p, _ => rfl
  | q :: l, k + 1, p, hk => by
    have e : (k + 1) * 4 = k * 4 + 1 + 1 + 1 + 1 := by omega
    rw [List.set_cons_succ, e]
    show _ :: _ :: _ :: _ :: regV (l.set k p) = _
    rw [regV_set l k p (by simpa using hk)]
    rfl
theorem RegAt.put {w : World} {g n cap : Nat} {l : List Px} (h : RegAt w (some ⟨g, 0, none⟩) n cap l) (k : Nat) (hk : k < n) (p : Px) : RegAt ((((w.setCell ⟨g, k * 4, none⟩ (.string p.1)).setCell ⟨g, k * 4 + 1, none⟩ (.bool p.2.1)).setCell ⟨g, k * 4 + 2, none⟩ (.int .i64 p.2.2)).setCell ⟨g, k * 4 + 3, none⟩ (.slice none 0 0)) (some ⟨g, 0, none⟩) n cap (l.set k p) := by
  refine ⟨?_, by rw [List.length_set]; exact h.len⟩
  rw [regV_set l k p (by rw [h.len]; exact hk)]
  exact ownsRow_set (ownsRow_set (ownsRow_set (ownsRow_set h.own _ (by omega)) _ (by omega)) _ (by omega)) _ (by omega)
theorem Fr.put {X : Nat → Prop} {a w : World} (h : Fr X a w) {g : Nat} (hg : X g ∨ a.heap.size ≤ g) (k : Nat) (p q r s : Value) : Fr X a ((((w.setCell ⟨g, k, none⟩ p).setCell ⟨g, k + 1, none⟩ q).setCell ⟨g, k + 2, none⟩ r).setCell ⟨g, k + 3, none⟩ s) :=
  (((h.set (p := ⟨g, k, none⟩) hg p).set (p := ⟨g, k + 1, none⟩) hg q).set (p := ⟨g, k + 2, none⟩) hg r).set (p := ⟨g, k + 3, none⟩) hg s
theorem RegAt.on {w : World} {g n cap : Nat} {l : List Px} (h : RegAt w (some ⟨g, 0, none⟩) n cap l) (k : Nat) (hk : k < n) (b : Bool) : RegAt (w.setCell ⟨g, k * 4 + 1, none⟩ (.bool b)) (some ⟨g, 0, none⟩) n cap (l.set k ((l.getD k default).1, b, (l.getD k default).2.2)) := by
  obtain ⟨g', e, c0, c1, c2, c3⟩ := h.at k hk
  cases e
  have := h.put k hk ((l.getD k default).1, b, (l.getD k default).2.2)
  rw [setCell_id c0] at this
  have c2' : (w.setCell ⟨g, k * 4 + 1, none⟩ (.bool b)).cell? ⟨g, k * 4 + 2, none⟩ = some (.int .i64 (l.getD k default).2.2) := by
    rw [World.cell?_setCell_other _ _ _ _ (by intro e; injection e; omega)]; exact c2
  have c3' : (w.setCell ⟨g, k * 4 + 1, none⟩ (.bool b)).cell? ⟨g, k * 4 + 3, none⟩ = some (.slice none 0 0) := by
    rw [World.cell?_setCell_other _ _ _ _ (by intro e; injection e; omega)]; exact c3
  rw [setCell_id c2', setCell_id c3'] at this
  exact this
theorem RegAt.cap_le {w : World} {g n cap : Nat} {l : List Px} (h : RegAt w (some ⟨g, 0, none⟩) n cap l) : n ≤ cap := by
  rcases h.own.2 with ⟨hv, _⟩ | ⟨g', cp, cur, hv, hb, hh, hn, _⟩
  · cases hv
  · cases hv; exact hn
/-- The first ones. -/
theorem RegAt.cut {w : World} {g n cap : Nat} {P S : List Px} (h : RegAt w (some ⟨g, 0, none⟩) n cap (P ++ S)) : RegAt w (some ⟨g, 0, none⟩) P.length cap P := by
  have hl := h.len
  rw [List.length_append] at hl
  refine ⟨⟨regV_length P, ?_⟩, rfl⟩
  rcases h.own.2 with ⟨hv, _⟩ | ⟨g', cp, cur, hv, hb, hh, hn, hm, hs, ht⟩
  · cases hv
  · cases hv
    refine .inr ⟨g, cap, cur, rfl, hb, hh, by omega, hm, hs, ?_⟩
    have := congrArg (List.take (P.length * 4)) ht
    rw [List.take_take, Nat.min_eq_left (by omega)] at this
    rw [this, regV_append, List.take_left' (regV_length P)]
theorem set_last (P : List Px) (x z : Px) : (P ++ [x]).set P.length z = P ++ [z] := by simp
theorem set_mid (P S : List Px) (x z : Px) : (P ++ x :: S).set P.length z = P ++ z :: S := by simp
theorem get_mid (P S : List Px) (p : Px) : (P ++ p :: S).getD P.length default = p := by simp
theorem get_mid2 (P S : List Px) (p x : Px) : (P ++ p :: x :: S).getD (P.length + 1) default = x := by simp
theorem swap_mid (P S : List Px) (p x : Px) : ((P ++ p :: x :: S).set (P.length + 1) p).set P.length x = P ++ x :: p :: S := by
  rw [List.set_append_right _ _ (by omega), List.set_append_right _ _ (by omega)]
  simp
end Go.Proofs.YtdpfmemcpipbkaaGreatDoor.Hand
end
section
/- slices.SortFunc of proxies in order but for the last one. -/
namespace Go.Proofs.YtdpfmemcpipbkaaGreatDoor.Hand
open Go.RowKit
set_option linter.unusedVariables false
set_option linter.unusedSimpArgs false
/-- x sinks below those that are greater: the first ones (the last one first), and what is behind. -/
def sink (x : Px) : List Px → List Px → List Px
  | [], S => x :: S
  | p :: P, S => if cmpB x.1 p.1 < 0 then sink x P (p :: S) else (p :: P).reverse ++ x :: S
theorem sink_stop (x p : Px) (P S : List Px) (h : ¬ cmpB x.1 p.1 < 0) : sink x (P ++ [p]).reverse S = P ++ p :: x :: S := by
  simp [sink, if_neg h]
theorem sink_go (x p : Px) (P S : List Px) (h : cmpB x.1 p.1 < 0) : sink x (P ++ [p]).reverse S = sink x P.reverse (p :: S) := by
  simp [sink, if_pos h]
theorem getD_left (a b : List Px) (k : Nat) (h : k < a.length) : (a ++ b).getD k default = a.getD k default := by
  simp [List.getD_eq_getElem?_getD, List.getElem?_append_left h]
/-- In rising order. -/
def Up (l : List Px) : Prop := ∀ k, k + 1 < l.length → ¬ cmpB (l.getD (k + 1) default).1 (l.getD k default).1 < 0
set_option maxHeartbeats 16000000 in
set_option maxRecDepth 100000 in
theorem insertion_calls (l : List Px) (x : Px) (hup : Up l) (g n cap : Nat) (w : World) (h : RegAt w (some ⟨g, 0, none⟩) n cap (l ++ [x])) (hn : n ≤ 8) : Calls Tryz.prog 253 #[.slice (some ⟨g, 0, none⟩) n cap, .int .i64 0, .int .i64 n, .func (.func 142) #[] #[]] w fun e w' => e = .returned (.tuple #[]) ∧ RegAt w' (some ⟨g, 0, none⟩) n cap (sink x l.reverse []) ∧ Fr (fun b => b = g) w w' := by
  have hlen := h.len
  rw [List.length_append] at hlen
  simp only [List.length_cons, List.length_nil, Nat.zero_add] at hlen
  have hlg := h.lt rfl
  go_enter Tryz.func253, Tryz.ntmps253
  go_wp2_with fail
  go_loopw [8] (fun i wr => ∃ k : Nat, 1 ≤ k ∧ k ≤ n ∧ i = .int .i64 k ∧ Fr (fun b => b = g) w wr ∧ ((k < n ∧ RegAt wr (some ⟨g, 0, none⟩) n cap (l ++ [x])) ∨ (k = n ∧ RegAt wr (some ⟨g, 0, none⟩) n cap (sink x l.reverse [])))) (fun i _ => n - (intOf i).toNat)
  case atStart =>
    refine ⟨1, Nat.le_refl _, by omega, rfl, Fr.refl _ _, ?_⟩
    by_cases h1 : 1 < n
    · exact .inl ⟨h1, h⟩
    · have : l = [] := List.eq_nil_of_length_eq_zero (by omega)
      subst this
      exact .inr ⟨by simp at hlen; omega, h⟩
  case round =>
    obtain ⟨k, hk1, hk, rfl, hF, hcases⟩ := hrel
    have HF := Lib.hid hF
    have hgz : g < wr.heap.size := Nat.lt_of_lt_of_le hlg hF.size
    have HL := Lib.hid hlen
    clear hF hlen
    rcases hcases with ⟨hlt, H⟩ | ⟨hkn, H⟩
    · have hR := Lib.hid H
      clear H h
      by_cases hlast : k + 1 < n
      · obtain ⟨j, rfl⟩ : ∃ j, k = j + 1 := ⟨k - 1, by omega⟩
        obtain ⟨_, e, c0, c1, c2, c3⟩ := hR.out.at (j + 1) hlt
        cases e
        obtain ⟨_, e, d0, d1, d2, d3⟩ := hR.out.at j (by omega)
        cases e
        have hu := hup j (by have := HL.out; omega)
        have e1 : (l ++ [x]).getD (j + 1) default = l.getD (j + 1) default := getD_left _ _ _ (by have := HL.out; omega)
        have e2 : (l ++ [x]).getD j default = l.getD j default := getD_left _ _ _ (by have := HL.out; omega)
        rw [e1] at c0 c1 c2
        rw [e2] at d0 d1 d2
        obtain ⟨⟨s, o, m⟩, hp⟩ : ∃ p, p = l.getD (j + 1) default := ⟨_, rfl⟩
        obtain ⟨⟨t, q, r⟩, hp2⟩ : ∃ p, p = l.getD j default := ⟨_, rfl⟩
        rw [← hp, ← hp2] at hu
        simp only [← hp] at c0 c1 c2
        simp only [← hp2] at d0 d1 d2
        clear hp hp2 e1 e2
        have hA := fun W => Lib.hid (add1_calls s t o q m r W)
        obtain ⟨z, hz⟩ : ∃ z, z = cmpB s t := ⟨_, rfl⟩
        simp only [← hz] at hA hu
        have hz0 : decide (z < 0) = false := decide_eq_false hu
        clear hz
        have hj : IntKind.i64.wrap (j : Int) = (j : Int) := by rw [IntKind.wrap_i64]; omega
        have hj0 : (0 : Int) ≤ (j : Int) := by omega
        have hj1 : (j : Int) < (n : Int) := by omega
        have hj2 : (j : Int) + 1 < (n : Int) := by omega
        have hj3 : (0 : Int) < (j : Int) + 1 := by omega
        have hj4 : (0 : Int) ≤ (j : Int) + 1 := by omega
        have hj5 : ((j : Int) + 1).toNat = j + 1 := by omega
        go_wp2_with fail
        refine wp_loop_rounds 1 ?_
        rw [rounds_succ]
        go_wp2_with fail
        refine start_n (S := fun W => W.cell? ⟨g, (j + 1) * 4, none⟩ = some (.string s) ∧ W.cell? ⟨g, (j + 1) * 4 + 1, none⟩ = some (.bool o) ∧ W.cell? ⟨g, (j + 1) * 4 + 2, none⟩ = some (.int .i64 m) ∧ W.cell? ⟨g, (j + 1) * 4 + 3, none⟩ = some (.slice none 0 0) ∧ W.cell? ⟨g, j * 4, none⟩ = some (.string t) ∧ W.cell? ⟨g, j * 4 + 1, none⟩ = some (.bool q) ∧ W.cell? ⟨g, j * 4 + 2, none⟩ = some (.int .i64 r) ∧ W.cell? ⟨g, j * 4 + 3, none⟩ = some (.slice none 0 0)) 17 #[false, false, false, false, false, false, false, false, false, false, false, false, false, false, false, false, false] (by kernel_rfl) rfl rfl ?_ (fun hHeld => ?_)
        · (try dsimp only)
          go_keep
        refine take_n 0 (some 18) #[true, false, false, false, false, false, false, false, false, false, false, false, false, false, false, false, false] (v := ?_) (a' := ?_) rfl rfl rfl (by kernel_rfl) (by kernel_rfl) (by kernel_rfl) (fun _ _ _ _ h => h) (Or.inl ⟨by rfl, ?_⟩) hHeld ?_ ?_
        rotate_left 2
        · intro w hSw
          (try dsimp only at hSw)
          go_simp
          (with_reducible rfl)
        · simp only [Act.put, List.setIfInBounds_toArray, List.set_cons_zero, List.set_cons_succ]
          rfl
        refine take_n 1 (some 19) #[true, true, false, false, false, false, false, false, false, false, false, false, false, false, false, false, false] (v := ?_) (a' := ?_) rfl rfl rfl (by kernel_rfl) (by kernel_rfl) (by kernel_rfl) (fun _ _ _ _ h => h) (Or.inl ⟨by rfl, ?_⟩) hHeld ?_ ?_
        rotate_left 2
        · intro w hSw
          (try dsimp only at hSw)
          go_simp
          (with_reducible rfl)
        · simp only [Act.put, List.setIfInBounds_toArray, List.set_cons_zero, List.set_cons_succ]
          rfl
        refine take_n 2 (some 20) #[true, true, true, false, false, false, false, false, false, false, false, false, false, false, false, false, false] (v := ?_) (a' := ?_) rfl rfl rfl (by kernel_rfl) (by kernel_rfl) (by kernel_rfl) (fun _ _ _ _ h => h) (Or.inl ⟨by rfl, ?_⟩) hHeld ?_ ?_
        rotate_left 2
        · intro w hSw
          (try dsimp only at hSw)
          go_simp
          (with_reducible rfl)
        · simp only [Act.put, List.setIfInBounds_toArray, List.set_cons_zero, List.set_cons_succ]
          rfl
        refine take_n 3 (some 21) #[true, true, true, true, false, false, false, false, false, false, false, false, false, false, false, false, false] (v := ?_) (a' := ?_) rfl rfl rfl (by kernel_rfl) (by kernel_rfl) (by kernel_rfl) (fun _ _ _ _ h => h) (Or.inl ⟨by rfl, ?_⟩) hHeld ?_ ?_
        rotate_left 2
        · intro w hSw
          (try dsimp only at hSw)
          go_simp
          (with_reducible rfl)
        · simp only [Act.put, List.setIfInBounds_toArray, List.set_cons_zero, List.set_cons_succ]
          rfl
        refine take_n 4 (some 22) #[true, true, true, true, true, false, false, false, false, false, false, false, false, false, false, false, false] (v := ?_) (a' := ?_) rfl rfl rfl (by kernel_rfl) (by kernel_rfl) (by kernel_rfl) (fun _ _ _ _ h => h) (Or.inl ⟨by rfl, ?_⟩) hHeld ?_ ?_
        rotate_left 2
        · intro w hSw
          (try dsimp only at hSw)
          go_simp
          (with_reducible rfl)
        · simp only [Act.put, List.setIfInBounds_toArray, List.set_cons_zero, List.set_cons_succ]
          rfl
        refine take_n 5 (some 23) #[true, true, true, true, true, true, false, false, false, false, false, false, false, false, false, false, false] (v := ?_) (a' := ?_) rfl rfl rfl (by kernel_rfl) (by kernel_rfl) (by kernel_rfl) (fun _ _ _ _ h => h) (Or.inl ⟨by rfl, ?_⟩) hHeld ?_ ?_
        rotate_left 2
        · intro w hSw
          (try dsimp only at hSw)
          go_simp
          (with_reducible rfl)
        · simp only [Act.put, List.setIfInBounds_toArray, List.set_cons_zero, List.set_cons_succ]
          rfl
        refine take_n 6 (some 24) #[true, true, true, true, true, true, true, false, false, false, false, false, false, false, false, false, false] (v := ?_) (a' := ?_) rfl rfl rfl (by kernel_rfl) (by kernel_rfl) (by kernel_rfl) (fun _ _ _ _ h => h) (Or.inl ⟨by rfl, ?_⟩) hHeld ?_ ?_
        rotate_left 2
        · intro w hSw
          (try dsimp only at hSw)
          go_simp
          (with_reducible rfl)
        · simp only [Act.put, List.setIfInBounds_toArray, List.set_cons_zero, List.set_cons_succ]
          rfl
        refine take_n 7 (some 25) #[true, true, true, true, true, true, true, true, false, false, false, false, false, false, false, false, false] (v := ?_) (a' := ?_) rfl rfl rfl (by kernel_rfl) (by kernel_rfl) (by kernel_rfl) (fun _ _ _ _ h => h) (Or.inl ⟨by rfl, ?_⟩) hHeld ?_ ?_
        rotate_left 2
        · intro w hSw
          (try dsimp only at hSw)
          go_simp
          (with_reducible rfl)
        · simp only [Act.put, List.setIfInBounds_toArray, List.set_cons_zero, List.set_cons_succ]
          rfl
        refine take_n 8 (some 26) #[true, true, true, true, true, true, true, true, true, false, false, false, false, false, false, false, false] (v := ?_) (a' := ?_) rfl rfl rfl (by kernel_rfl) (by kernel_rfl) (by kernel_rfl) (fun _ _ _ _ h => h) (Or.inl ⟨by rfl, ?_⟩) hHeld ?_ ?_
        rotate_left 2
        · intro w hSw
          (try dsimp only at hSw)
          go_simp
          (with_reducible rfl)
        · simp only [Act.put, List.setIfInBounds_toArray, List.set_cons_zero, List.set_cons_succ]
          rfl
        refine take_n 9 (some 27) #[true, true, true, true, true, true, true, true, true, true, false, false, false, false, false, false, false] (v := ?_) (a' := ?_) rfl rfl rfl (by kernel_rfl) (by kernel_rfl) (by kernel_rfl) (fun _ _ _ _ h => h) (Or.inl ⟨by rfl, ?_⟩) hHeld ?_ ?_
        rotate_left 2
        · intro w hSw
          (try dsimp only at hSw)
          go_simp
          (with_reducible rfl)
        · simp only [Act.put, List.setIfInBounds_toArray, List.set_cons_zero, List.set_cons_succ]
          rfl
        refine take_n 10 (some 28) #[true, true, true, true, true, true, true, true, true, true, true, false, false, false, false, false, false] (v := ?_) (a' := ?_) rfl rfl rfl (by kernel_rfl) (by kernel_rfl) (by kernel_rfl) (fun _ _ _ _ h => h) (Or.inl ⟨by rfl, ?_⟩) hHeld ?_ ?_
        rotate_left 2
        · intro w hSw
          (try dsimp only at hSw)
          go_simp
          (with_reducible rfl)
        · simp only [Act.put, List.setIfInBounds_toArray, List.set_cons_zero, List.set_cons_succ]
          rfl
        refine take_n 11 (some 29) #[true, true, true, true, true, true, true, true, true, true, true, true, false, false, false, false, false] (v := ?_) (a' := ?_) rfl rfl rfl (by kernel_rfl) (by kernel_rfl) (by kernel_rfl) (fun _ _ _ _ h => h) (Or.inl ⟨by rfl, ?_⟩) hHeld ?_ ?_
        rotate_left 2
        · intro w hSw
          (try dsimp only at hSw)
          go_simp
          (with_reducible rfl)
        · simp only [Act.put, List.setIfInBounds_toArray, List.set_cons_zero, List.set_cons_succ]
          rfl
        refine take_n 12 (some 30) #[true, true, true, true, true, true, true, true, true, true, true, true, true, false, false, false, false] (v := ?_) (a' := ?_) rfl rfl rfl (by kernel_rfl) (by kernel_rfl) (by kernel_rfl) (fun _ _ _ _ h => h) (Or.inl ⟨by rfl, ?_⟩) hHeld ?_ ?_
        rotate_left 2
        · intro w hSw
          (try dsimp only at hSw)
          go_simp
          (with_reducible rfl)
        · simp only [Act.put, List.setIfInBounds_toArray, List.set_cons_zero, List.set_cons_succ]
          rfl
        refine take_n 13 (some 31) #[true, true, true, true, true, true, true, true, true, true, true, true, true, true, false, false, false] (v := ?_) (a' := ?_) rfl rfl rfl (by kernel_rfl) (by kernel_rfl) (by kernel_rfl) (fun _ _ _ _ h => h) (Or.inl ⟨by rfl, ?_⟩) hHeld ?_ ?_
        rotate_left 2
        · intro w hSw
          (try dsimp only at hSw)
          go_simp
          (with_reducible rfl)
        · simp only [Act.put, List.setIfInBounds_toArray, List.set_cons_zero, List.set_cons_succ]
          rfl
        refine one_n 14 #[true, true, true, true, true, true, true, true, true, true, true, true, true, true, true, false, false] rfl rfl (by kernel_rfl) (fun K hK => ?_)
        go_simp
        refine ((hA _).out).mono ?_
        rintro e w1 ⟨rfl, hb1⟩
        have HB1 := Lib.hid hb1
        have hcc : ∀ i, w1.cell? ⟨g, i, none⟩ = wr.cell? ⟨g, i, none⟩ := fun i => hb1.cell (p := ⟨g, i, none⟩) hgz
        clear hb1
        refine hK.out _ ?_ _ ?_ ?_ (fun hHeld => ?_)
        rotate_left
        · (try simp only [Act.put, List.setIfInBounds_toArray, List.set_cons_zero, List.set_cons_succ])
          rfl
        · (try dsimp only)
          go_keep
        clear hK K
        refine take_n 15 (some 33) #[true, true, true, true, true, true, true, true, true, true, true, true, true, true, true, true, false] (v := ?_) (a' := ?_) rfl rfl rfl (by kernel_rfl) (by kernel_rfl) (by kernel_rfl) (fun _ _ _ _ h => h) (Or.inl ⟨by rfl, ?_⟩) hHeld ?_ ?_
        rotate_left 2
        · intro w hSw
          (try dsimp only at hSw)
          go_simp
          (with_reducible rfl)
        · simp only [Act.put, List.setIfInBounds_toArray, List.set_cons_zero, List.set_cons_succ]
          rfl
        refine take_n 16 (some 34) #[true, true, true, true, true, true, true, true, true, true, true, true, true, true, true, true, true] (v := ?_) (a' := ?_) rfl rfl rfl (by kernel_rfl) (by kernel_rfl) (by kernel_rfl) (fun _ _ _ _ h => h) (Or.inl ⟨by rfl, ?_⟩) hHeld ?_ ?_
        rotate_left 2
        · intro w hSw
          (try dsimp only at hSw)
          go_simp
          (with_reducible rfl)
        · simp only [Act.put, List.setIfInBounds_toArray, List.set_cons_zero, List.set_cons_succ]
          rfl
        refine wpAnyH_done (by kernel_rfl) ?_ _
        go_wp2_with fail
        have hbb := below_drew HB1.out
        exact ⟨⟨j + 2, by omega, by omega, by go_num, HF.out.then_below hbb, .inl ⟨by omega, hR.out.below hbb⟩⟩, by simp [intOf]; omega⟩
      · have hkn : k + 1 = n := by omega
        have hkl : k = l.length := by have := HL.out; omega
        subst hkl
        have HKN := Lib.hid hkn
        have hR0 := hR.out
        clear hkn hlast
        go_wp2_with fail
        obtain ⟨wo, rfl⟩ : ∃ wo : World, wo = wr := ⟨_, rfl⟩
        go_loopw [9] (fun jv wq => ∃ (P S : List Px), jv = .int .i64 P.length ∧ Fr (fun b => b = g) wo wq ∧ RegAt wq (some ⟨g, 0, none⟩) n cap (P ++ x :: S) ∧ Hid (sink x P.reverse S = sink x l.reverse [])) (fun jv _ => (intOf jv).toNat)
        case atStart => exact ⟨l, [], rfl, Fr.refl _ _, hR0, rfl⟩
        case round =>
          obtain ⟨P, S, rfl, hF2, hR2, hsk⟩ := hrel
          have HF2 := Lib.hid hF2
          have hgz2 : g < wr.heap.size := Nat.lt_of_lt_of_le hgz hF2.size
          have HR2 := Lib.hid hR2
          clear hF2 hR2 hR0 hR
          rcases List.eq_nil_or_concat P with rfl | ⟨P', p, hPP⟩
          · go_wp2_with fail
            refine start_n (S := fun W => True) 17 #[false, false, false, false, false, false, false, false, false, false, false, false, false, false, false, false, false] (by kernel_rfl) rfl rfl ?_ (fun hHeld => ?_)
            · (try dsimp only)
              all_goals trivial
            refine take_n 0 (some 18) #[true, false, false, false, false, false, false, false, false, false, false, false, false, false, false, false, false] (v := ?_) (a' := ?_) rfl rfl rfl (by kernel_rfl) (by kernel_rfl) (by kernel_rfl) (fun _ _ _ _ h => h) (Or.inl ⟨by rfl, ?_⟩) hHeld ?_ ?_
            rotate_left 2
            · intro w hSw
              (try dsimp only at hSw)
              go_simp
              (with_reducible rfl)
            · simp only [Act.put, List.setIfInBounds_toArray, List.set_cons_zero, List.set_cons_succ]
              rfl
            refine take_n 1 (some 19) #[true, true, false, false, false, false, false, false, false, false, false, false, false, false, false, false, false] (v := ?_) (a' := ?_) rfl rfl rfl (by kernel_rfl) (by kernel_rfl) (by kernel_rfl) (fun _ _ _ _ h => h) (Or.inl ⟨by rfl, ?_⟩) hHeld ?_ ?_
            rotate_left 2
            · intro w hSw
              (try dsimp only at hSw)
              go_simp
              (with_reducible rfl)
            · simp only [Act.put, List.setIfInBounds_toArray, List.set_cons_zero, List.set_cons_succ]
              rfl
            refine take_n 2 (some 20) #[true, true, true, false, false, false, false, false, false, false, false, false, false, false, false, false, false] (v := ?_) (a' := ?_) rfl rfl rfl (by kernel_rfl) (by kernel_rfl) (by kernel_rfl) (fun _ _ _ _ h => h) (Or.inl ⟨by rfl, ?_⟩) hHeld ?_ ?_
            rotate_left 2
            · intro w hSw
              (try dsimp only at hSw)
              go_simp
              (with_reducible rfl)
            · simp only [Act.put, List.setIfInBounds_toArray, List.set_cons_zero, List.set_cons_succ]
              rfl
            refine take_n 3 (some 21) #[true, true, true, true, false, false, false, false, false, false, false, false, false, false, false, false, false] (v := ?_) (a' := ?_) rfl rfl rfl (by kernel_rfl) (by kernel_rfl) (by kernel_rfl) (fun _ _ _ _ h => h) (Or.inl ⟨by rfl, ?_⟩) hHeld ?_ ?_
            rotate_left 2
            · intro w hSw
              (try dsimp only at hSw)
              go_simp
              (with_reducible rfl)
            · simp only [Act.put, List.setIfInBounds_toArray, List.set_cons_zero, List.set_cons_succ]
              rfl
            refine take_n 4 (some 22) #[true, true, true, true, true, false, false, false, false, false, false, false, false, false, false, false, false] (v := undef) (a' := ?_) rfl rfl rfl (by kernel_rfl) (by kernel_rfl) (by kernel_rfl) (fun _ _ _ _ h => h) (Or.inr ⟨by rfl, rfl⟩) hHeld ?_ ?_
            rotate_left
            · simp only [Act.put, List.setIfInBounds_toArray, List.set_cons_zero, List.set_cons_succ]
              rfl
            refine take_n 5 (some 23) #[true, true, true, true, true, true, false, false, false, false, false, false, false, false, false, false, false] (v := undef) (a' := ?_) rfl rfl rfl (by kernel_rfl) (by kernel_rfl) (by kernel_rfl) (fun _ _ _ _ h => h) (Or.inr ⟨by rfl, rfl⟩) hHeld ?_ ?_
            rotate_left
            · simp only [Act.put, List.setIfInBounds_toArray, List.set_cons_zero, List.set_cons_succ]
              rfl
            refine take_n 6 (some 24) #[true, true, true, true, true, true, true, false, false, false, false, false, false, false, false, false, false] (v := undef) (a' := ?_) rfl rfl rfl (by kernel_rfl) (by kernel_rfl) (by kernel_rfl) (fun _ _ _ _ h => h) (Or.inr ⟨by rfl, rfl⟩) hHeld ?_ ?_
            rotate_left
            · simp only [Act.put, List.setIfInBounds_toArray, List.set_cons_zero, List.set_cons_succ]
              rfl
            refine take_n 7 (some 25) #[true, true, true, true, true, true, true, true, false, false, false, false, false, false, false, false, false] (v := undef) (a' := ?_) rfl rfl rfl (by kernel_rfl) (by kernel_rfl) (by kernel_rfl) (fun _ _ _ _ h => h) (Or.inr ⟨by rfl, rfl⟩) hHeld ?_ ?_
            rotate_left
            · simp only [Act.put, List.setIfInBounds_toArray, List.set_cons_zero, List.set_cons_succ]
              rfl
            refine take_n 8 (some 26) #[true, true, true, true, true, true, true, true, true, false, false, false, false, false, false, false, false] (v := undef) (a' := ?_) rfl rfl rfl (by kernel_rfl) (by kernel_rfl) (by kernel_rfl) (fun _ _ _ _ h => h) (Or.inr ⟨by rfl, rfl⟩) hHeld ?_ ?_
            rotate_left
            · simp only [Act.put, List.setIfInBounds_toArray, List.set_cons_zero, List.set_cons_succ]
              rfl
            refine take_n 9 (some 27) #[true, true, true, true, true, true, true, true, true, true, false, false, false, false, false, false, false] (v := undef) (a' := ?_) rfl rfl rfl (by kernel_rfl) (by kernel_rfl) (by kernel_rfl) (fun _ _ _ _ h => h) (Or.inr ⟨by rfl, rfl⟩) hHeld ?_ ?_
            rotate_left
            · simp only [Act.put, List.setIfInBounds_toArray, List.set_cons_zero, List.set_cons_succ]
              rfl
            refine take_n 10 (some 28) #[true, true, true, true, true, true, true, true, true, true, true, false, false, false, false, false, false] (v := undef) (a' := ?_) rfl rfl rfl (by kernel_rfl) (by kernel_rfl) (by kernel_rfl) (fun _ _ _ _ h => h) (Or.inr ⟨by rfl, rfl⟩) hHeld ?_ ?_
            rotate_left
            · simp only [Act.put, List.setIfInBounds_toArray, List.set_cons_zero, List.set_cons_succ]
              rfl
            refine take_n 11 (some 29) #[true, true, true, true, true, true, true, true, true, true, true, true, false, false, false, false, false] (v := undef) (a' := ?_) rfl rfl rfl (by kernel_rfl) (by kernel_rfl) (by kernel_rfl) (fun _ _ _ _ h => h) (Or.inr ⟨by rfl, rfl⟩) hHeld ?_ ?_
            rotate_left
            · simp only [Act.put, List.setIfInBounds_toArray, List.set_cons_zero, List.set_cons_succ]
              rfl
            refine take_n 12 (some 30) #[true, true, true, true, true, true, true, true, true, true, true, true, true, false, false, false, false] (v := undef) (a' := ?_) rfl rfl rfl (by kernel_rfl) (by kernel_rfl) (by kernel_rfl) (fun _ _ _ _ h => h) (Or.inr ⟨by rfl, rfl⟩) hHeld ?_ ?_
            rotate_left
            · simp only [Act.put, List.setIfInBounds_toArray, List.set_cons_zero, List.set_cons_succ]
              rfl
            refine take_n 13 (some 31) #[true, true, true, true, true, true, true, true, true, true, true, true, true, true, false, false, false] (v := undef) (a' := ?_) rfl rfl rfl (by kernel_rfl) (by kernel_rfl) (by kernel_rfl) (fun _ _ _ _ h => h) (Or.inr ⟨by rfl, rfl⟩) hHeld ?_ ?_
            rotate_left
            · simp only [Act.put, List.setIfInBounds_toArray, List.set_cons_zero, List.set_cons_succ]
              rfl
            refine take_n 14 (some 32) #[true, true, true, true, true, true, true, true, true, true, true, true, true, true, true, false, false] (v := undef) (a' := ?_) rfl rfl rfl (by kernel_rfl) (by kernel_rfl) (by kernel_rfl) (fun _ _ _ _ h => h) (Or.inr ⟨by rfl, rfl⟩) hHeld ?_ ?_
            rotate_left
            · simp only [Act.put, List.setIfInBounds_toArray, List.set_cons_zero, List.set_cons_succ]
              rfl
            refine take_n 15 (some 33) #[true, true, true, true, true, true, true, true, true, true, true, true, true, true, true, true, false] (v := undef) (a' := ?_) rfl rfl rfl (by kernel_rfl) (by kernel_rfl) (by kernel_rfl) (fun _ _ _ _ h => h) (Or.inr ⟨by rfl, rfl⟩) hHeld ?_ ?_
            rotate_left
            · simp only [Act.put, List.setIfInBounds_toArray, List.set_cons_zero, List.set_cons_succ]
              rfl
            refine take_n 16 (some 34) #[true, true, true, true, true, true, true, true, true, true, true, true, true, true, true, true, true] (v := ?_) (a' := ?_) rfl rfl rfl (by kernel_rfl) (by kernel_rfl) (by kernel_rfl) (fun _ _ _ _ h => h) (Or.inl ⟨by rfl, ?_⟩) hHeld ?_ ?_
            rotate_left 2
            · intro w hSw
              (try dsimp only at hSw)
              go_simp
              (with_reducible rfl)
            · simp only [Act.put, List.setIfInBounds_toArray, List.set_cons_zero, List.set_cons_succ]
              rfl
            refine wpAnyH_done (by kernel_rfl) ?_ _
            go_wp2_with fail
            exact ⟨⟨l.length + 1, by omega, by have := HKN.out; omega, by go_num, HF.out.trans (HF2.out.drew) (fun _ e => e) (fun _ _ e => e), .inr ⟨HKN.out, by rw [← hsk.out]; exact HR2.out.drew⟩⟩, by have := HKN.out; simp [intOf]; omega⟩
          · rw [List.concat_eq_append] at hPP
            subst hPP
            have hln := HR2.out.len
            simp only [List.length_append, List.length_cons, List.length_nil] at hln
            have HLN := Lib.hid hln
            have hR3 := HR2.out
            rw [List.append_assoc, List.singleton_append] at hR3
            obtain ⟨_, e, c0, c1, c2, c3⟩ := hR3.at (P'.length + 1) (by omega)
            cases e
            obtain ⟨_, e, d0, d1, d2, d3⟩ := hR3.at P'.length (by omega)
            cases e
            rw [get_mid2] at c0 c1 c2
            rw [get_mid] at d0 d1 d2
            have HR3 := Lib.hid hR3
            clear hR3
            obtain ⟨s, o, m⟩ := x
            obtain ⟨t, q, r⟩ := p
            simp only at c0 c1 c2 d0 d1 d2
            have hA := fun W => Lib.hid (add1_calls s t o q m r W)
            have hj1 : (P'.length : Int) < (n : Int) := by omega
            have hj2 : (P'.length : Int) + 1 < (n : Int) := by omega
            clear hln
            have hlsz : ((P' ++ [(t, q, r)]).length : Int) = (P'.length : Int) + 1 := by simp
            obtain ⟨j, hj⟩ : ∃ j, j = P'.length := ⟨_, rfl⟩
            rw [← hj] at c0 c1 c2 c3 d0 d1 d2 d3 hj1 hj2 hlsz
            have HJ := Lib.hid hj
            clear hj
            obtain ⟨jj, hjj⟩ : ∃ jj : Int, jj = ((P' ++ [(t, q, r)]).length : Int) := ⟨_, rfl⟩
            rw [← hjj] at hlsz ⊢
            subst hlsz
            have HJJ := Lib.hid hjj
            clear hjj
            have hj : IntKind.i64.wrap (j : Int) = (j : Int) := by rw [IntKind.wrap_i64]; omega
            have hj0 : (0 : Int) ≤ (j : Int) := by omega
            have hj3 : (0 : Int) < (j : Int) + 1 := by omega
            have hj4 : (0 : Int) ≤ (j : Int) + 1 := by omega
            have hj5 : ((j : Int) + 1).toNat = j + 1 := by omega
            obtain ⟨z, hz⟩ : ∃ z, z = cmpB s t := ⟨_, rfl⟩
            simp only [← hz] at hA
            have HZ := Lib.hid hz
            clear hz
            by_cases hz1 : z < 0
            · have hz0 : decide (z < 0) = true := decide_eq_true hz1
              go_wp2_with fail
              refine start_n (S := fun W => W.cell? ⟨g, (j + 1) * 4, none⟩ = some (.string s) ∧ W.cell? ⟨g, (j + 1) * 4 + 1, none⟩ = some (.bool o) ∧ W.cell? ⟨g, (j + 1) * 4 + 2, none⟩ = some (.int .i64 m) ∧ W.cell? ⟨g, (j + 1) * 4 + 3, none⟩ = some (.slice none 0 0) ∧ W.cell? ⟨g, j * 4, none⟩ = some (.string t) ∧ W.cell? ⟨g, j * 4 + 1, none⟩ = some (.bool q) ∧ W.cell? ⟨g, j * 4 + 2, none⟩ = some (.int .i64 r) ∧ W.cell? ⟨g, j * 4 + 3, none⟩ = some (.slice none 0 0)) 17 #[false, false, false, false, false, false, false, false, false, false, false, false, false, false, false, false, false] (by kernel_rfl) rfl rfl ?_ (fun hHeld => ?_)
              · (try dsimp only)
                go_keep
              refine take_n 0 (some 18) #[true, false, false, false, false, false, false, false, false, false, false, false, false, false, false, false, false] (v := ?_) (a' := ?_) rfl rfl rfl (by kernel_rfl) (by kernel_rfl) (by kernel_rfl) (fun _ _ _ _ h => h) (Or.inl ⟨by rfl, ?_⟩) hHeld ?_ ?_
              rotate_left 2
              · intro w hSw
                (try dsimp only at hSw)
                go_simp
                (with_reducible rfl)
              · simp only [Act.put, List.setIfInBounds_toArray, List.set_cons_zero, List.set_cons_succ]
                rfl
              refine take_n 1 (some 19) #[true, true, false, false, false, false, false, false, false, false, false, false, false, false, false, false, false] (v := ?_) (a' := ?_) rfl rfl rfl (by kernel_rfl) (by kernel_rfl) (by kernel_rfl) (fun _ _ _ _ h => h) (Or.inl ⟨by rfl, ?_⟩) hHeld ?_ ?_
              rotate_left 2
              · intro w hSw
                (try dsimp only at hSw)
                go_simp
                (with_reducible rfl)
              · simp only [Act.put, List.setIfInBounds_toArray, List.set_cons_zero, List.set_cons_succ]
                rfl
              refine take_n 2 (some 20) #[true, true, true, false, false, false, false, false, false, false, false, false, false, false, false, false, false] (v := ?_) (a' := ?_) rfl rfl rfl (by kernel_rfl) (by kernel_rfl) (by kernel_rfl) (fun _ _ _ _ h => h) (Or.inl ⟨by rfl, ?_⟩) hHeld ?_ ?_
              rotate_left 2
              · intro w hSw
                (try dsimp only at hSw)
                go_simp
                (with_reducible rfl)
              · simp only [Act.put, List.setIfInBounds_toArray, List.set_cons_zero, List.set_cons_succ]
                rfl
              refine take_n 3 (some 21) #[true, true, true, true, false, false, false, false, false, false, false, false, false, false, false, false, false] (v := ?_) (a' := ?_) rfl rfl rfl (by kernel_rfl) (by kernel_rfl) (by kernel_rfl) (fun _ _ _ _ h => h) (Or.inl ⟨by rfl, ?_⟩) hHeld ?_ ?_
              rotate_left 2
              · intro w hSw
                (try dsimp only at hSw)
                go_simp
                (with_reducible rfl)
              · simp only [Act.put, List.setIfInBounds_toArray, List.set_cons_zero, List.set_cons_succ]
                rfl
              refine take_n 4 (some 22) #[true, true, true, true, true, false, false, false, false, false, false, false, false, false, false, false, false] (v := ?_) (a' := ?_) rfl rfl rfl (by kernel_rfl) (by kernel_rfl) (by kernel_rfl) (fun _ _ _ _ h => h) (Or.inl ⟨by rfl, ?_⟩) hHeld ?_ ?_
              rotate_left 2
              · intro w hSw
                (try dsimp only at hSw)
                go_simp
                (with_reducible rfl)
              · simp only [Act.put, List.setIfInBounds_toArray, List.set_cons_zero, List.set_cons_succ]
                rfl
              refine take_n 5 (some 23) #[true, true, true, true, true, true, false, false, false, false, false, false, false, false, false, false, false] (v := ?_) (a' := ?_) rfl rfl rfl (by kernel_rfl) (by kernel_rfl) (by kernel_rfl) (fun _ _ _ _ h => h) (Or.inl ⟨by rfl, ?_⟩) hHeld ?_ ?_
              rotate_left 2
              · intro w hSw
                (try dsimp only at hSw)
                go_simp
                (with_reducible rfl)
              · simp only [Act.put, List.setIfInBounds_toArray, List.set_cons_zero, List.set_cons_succ]
                rfl
              refine take_n 6 (some 24) #[true, true, true, true, true, true, true, false, false, false, false, false, false, false, false, false, false] (v := ?_) (a' := ?_) rfl rfl rfl (by kernel_rfl) (by kernel_rfl) (by kernel_rfl) (fun _ _ _ _ h => h) (Or.inl ⟨by rfl, ?_⟩) hHeld ?_ ?_
              rotate_left 2
              · intro w hSw
                (try dsimp only at hSw)
                go_simp
                (with_reducible rfl)
              · simp only [Act.put, List.setIfInBounds_toArray, List.set_cons_zero, List.set_cons_succ]
                rfl
              refine take_n 7 (some 25) #[true, true, true, true, true, true, true, true, false, false, false, false, false, false, false, false, false] (v := ?_) (a' := ?_) rfl rfl rfl (by kernel_rfl) (by kernel_rfl) (by kernel_rfl) (fun _ _ _ _ h => h) (Or.inl ⟨by rfl, ?_⟩) hHeld ?_ ?_
              rotate_left 2
              · intro w hSw
                (try dsimp only at hSw)
                go_simp
                (with_reducible rfl)
              · simp only [Act.put, List.setIfInBounds_toArray, List.set_cons_zero, List.set_cons_succ]
                rfl
              refine take_n 8 (some 26) #[true, true, true, true, true, true, true, true, true, false, false, false, false, false, false, false, false] (v := ?_) (a' := ?_) rfl rfl rfl (by kernel_rfl) (by kernel_rfl) (by kernel_rfl) (fun _ _ _ _ h => h) (Or.inl ⟨by rfl, ?_⟩) hHeld ?_ ?_
              rotate_left 2
              · intro w hSw
                (try dsimp only at hSw)
                go_simp
                (with_reducible rfl)
              · simp only [Act.put, List.setIfInBounds_toArray, List.set_cons_zero, List.set_cons_succ]
                rfl
              refine take_n 9 (some 27) #[true, true, true, true, true, true, true, true, true, true, false, false, false, false, false, false, false] (v := ?_) (a' := ?_) rfl rfl rfl (by kernel_rfl) (by kernel_rfl) (by kernel_rfl) (fun _ _ _ _ h => h) (Or.inl ⟨by rfl, ?_⟩) hHeld ?_ ?_
              rotate_left 2
              · intro w hSw
                (try dsimp only at hSw)
                go_simp
                (with_reducible rfl)
              · simp only [Act.put, List.setIfInBounds_toArray, List.set_cons_zero, List.set_cons_succ]
                rfl
              refine take_n 10 (some 28) #[true, true, true, true, true, true, true, true, true, true, true, false, false, false, false, false, false] (v := ?_) (a' := ?_) rfl rfl rfl (by kernel_rfl) (by kernel_rfl) (by kernel_rfl) (fun _ _ _ _ h => h) (Or.inl ⟨by rfl, ?_⟩) hHeld ?_ ?_
              rotate_left 2
              · intro w hSw
                (try dsimp only at hSw)
                go_simp
                (with_reducible rfl)
              · simp only [Act.put, List.setIfInBounds_toArray, List.set_cons_zero, List.set_cons_succ]
                rfl
              refine take_n 11 (some 29) #[true, true, true, true, true, true, true, true, true, true, true, true, false, false, false, false, false] (v := ?_) (a' := ?_) rfl rfl rfl (by kernel_rfl) (by kernel_rfl) (by kernel_rfl) (fun _ _ _ _ h => h) (Or.inl ⟨by rfl, ?_⟩) hHeld ?_ ?_
              rotate_left 2
              · intro w hSw
                (try dsimp only at hSw)
                go_simp
                (with_reducible rfl)
              · simp only [Act.put, List.setIfInBounds_toArray, List.set_cons_zero, List.set_cons_succ]
                rfl
              refine take_n 12 (some 30) #[true, true, true, true, true, true, true, true, true, true, true, true, true, false, false, false, false] (v := ?_) (a' := ?_) rfl rfl rfl (by kernel_rfl) (by kernel_rfl) (by kernel_rfl) (fun _ _ _ _ h => h) (Or.inl ⟨by rfl, ?_⟩) hHeld ?_ ?_
              rotate_left 2
              · intro w hSw
                (try dsimp only at hSw)
                go_simp
                (with_reducible rfl)
              · simp only [Act.put, List.setIfInBounds_toArray, List.set_cons_zero, List.set_cons_succ]
                rfl
              refine take_n 13 (some 31) #[true, true, true, true, true, true, true, true, true, true, true, true, true, true, false, false, false] (v := ?_) (a' := ?_) rfl rfl rfl (by kernel_rfl) (by kernel_rfl) (by kernel_rfl) (fun _ _ _ _ h => h) (Or.inl ⟨by rfl, ?_⟩) hHeld ?_ ?_
              rotate_left 2
              · intro w hSw
                (try dsimp only at hSw)
                go_simp
                (with_reducible rfl)
              · simp only [Act.put, List.setIfInBounds_toArray, List.set_cons_zero, List.set_cons_succ]
                rfl
              refine one_n 14 #[true, true, true, true, true, true, true, true, true, true, true, true, true, true, true, false, false] rfl rfl (by kernel_rfl) (fun K hK => ?_)
              go_simp
              refine ((hA _).out).mono ?_
              rintro e w1 ⟨rfl, hb1⟩
              have HB1 := Lib.hid hb1
              have hcc : ∀ i, w1.cell? ⟨g, i, none⟩ = wr.cell? ⟨g, i, none⟩ := fun i => hb1.cell (p := ⟨g, i, none⟩) hgz2
              clear hb1
              refine hK.out _ ?_ _ ?_ ?_ (fun hHeld => ?_)
              rotate_left
              · (try simp only [Act.put, List.setIfInBounds_toArray, List.set_cons_zero, List.set_cons_succ])
                rfl
              · (try dsimp only)
                go_keep
              clear hK K
              refine take_n 15 (some 33) #[true, true, true, true, true, true, true, true, true, true, true, true, true, true, true, true, false] (v := ?_) (a' := ?_) rfl rfl rfl (by kernel_rfl) (by kernel_rfl) (by kernel_rfl) (fun _ _ _ _ h => h) (Or.inl ⟨by rfl, ?_⟩) hHeld ?_ ?_
              rotate_left 2
              · intro w hSw
                (try dsimp only at hSw)
                go_simp
                (with_reducible rfl)
              · simp only [Act.put, List.setIfInBounds_toArray, List.set_cons_zero, List.set_cons_succ]
                rfl
              refine take_n 16 (some 34) #[true, true, true, true, true, true, true, true, true, true, true, true, true, true, true, true, true] (v := ?_) (a' := ?_) rfl rfl rfl (by kernel_rfl) (by kernel_rfl) (by kernel_rfl) (fun _ _ _ _ h => h) (Or.inl ⟨by rfl, ?_⟩) hHeld ?_ ?_
              rotate_left 2
              · intro w hSw
                (try dsimp only at hSw)
                go_simp
                (with_reducible rfl)
              · simp only [Act.put, List.setIfInBounds_toArray, List.set_cons_zero, List.set_cons_succ]
                rfl
              refine wpAnyH_done (by kernel_rfl) ?_ _
              have hbb := Lib.hid (below_drew HB1.out)
              have HRw := Lib.hid (HR3.out.below hbb.out)
              have hfz := fun i => HRw.out.frozen rfl i
              have hc0 := (hcc ((j + 1) * 4)).trans c0
              have hc1 := (hcc ((j + 1) * 4 + 1)).trans c1
              have hc2 := (hcc ((j + 1) * 4 + 2)).trans c2
              have hc3 := (hcc ((j + 1) * 4 + 3)).trans c3
              have hd0 := (hcc (j * 4)).trans d0
              have hd1 := (hcc (j * 4 + 1)).trans d1
              have hd2 := (hcc (j * 4 + 2)).trans d2
              have hd3 := (hcc (j * 4 + 3)).trans d3
              clear hHeld hcc c0 c1 c2 c3 d0 d1 d2 d3
              go_wp2_with fail
              refine start_n (S := fun W => True) 18 #[false, false, false, false, false, false, false, false, false, false, false, false, false, false, false, false, false, false] (by kernel_rfl) rfl rfl ?_ (fun hHeld => ?_)
              · (try dsimp only)
                all_goals trivial
              refine take_n 0 (some 37) #[true, false, false, false, false, false, false, false, false, false, false, false, false, false, false, false, false, false] (v := ?_) (a' := ?_) rfl rfl rfl (by kernel_rfl) (by kernel_rfl) (by kernel_rfl) (fun _ _ _ _ h => h) (Or.inl ⟨by rfl, ?_⟩) hHeld ?_ ?_
              rotate_left 2
              · intro w hSw
                (try dsimp only at hSw)
                go_simp
                (with_reducible rfl)
              · simp only [Act.put, List.setIfInBounds_toArray, List.set_cons_zero, List.set_cons_succ]
                rfl
              refine take_n 1 (some 38) #[true, true, false, false, false, false, false, false, false, false, false, false, false, false, false, false, false, false] (v := ?_) (a' := ?_) rfl rfl rfl (by kernel_rfl) (by kernel_rfl) (by kernel_rfl) (fun _ _ _ _ h => h) (Or.inl ⟨by rfl, ?_⟩) hHeld ?_ ?_
              rotate_left 2
              · intro w hSw
                (try dsimp only at hSw)
                go_simp
                (with_reducible rfl)
              · simp only [Act.put, List.setIfInBounds_toArray, List.set_cons_zero, List.set_cons_succ]
                rfl
              refine take_n 2 (some 39) #[true, true, true, false, false, false, false, false, false, false, false, false, false, false, false, false, false, false] (v := ?_) (a' := ?_) rfl rfl rfl (by kernel_rfl) (by kernel_rfl) (by kernel_rfl) (fun _ _ _ _ h => h) (Or.inl ⟨by rfl, ?_⟩) hHeld ?_ ?_
              rotate_left 2
              · intro w hSw
                (try dsimp only at hSw)
                go_simp
                (with_reducible rfl)
              · simp only [Act.put, List.setIfInBounds_toArray, List.set_cons_zero, List.set_cons_succ]
                rfl
              refine take_n 3 (some 40) #[true, true, true, true, false, false, false, false, false, false, false, false, false, false, false, false, false, false] (v := ?_) (a' := ?_) rfl rfl rfl (by kernel_rfl) (by kernel_rfl) (by kernel_rfl) (fun _ _ _ _ h => h) (Or.inl ⟨by rfl, ?_⟩) hHeld ?_ ?_
              rotate_left 2
              · intro w hSw
                (try dsimp only at hSw)
                go_simp
                (with_reducible rfl)
              · simp only [Act.put, List.setIfInBounds_toArray, List.set_cons_zero, List.set_cons_succ]
                rfl
              refine take_n 4 (some 41) #[true, true, true, true, true, false, false, false, false, false, false, false, false, false, false, false, false, false] (v := ?_) (a' := ?_) rfl rfl rfl (by kernel_rfl) (by kernel_rfl) (by kernel_rfl) (fun _ _ _ _ h => h) (Or.inl ⟨by rfl, ?_⟩) hHeld ?_ ?_
              rotate_left 2
              · intro w hSw
                (try dsimp only at hSw)
                go_simp
                (with_reducible rfl)
              · simp only [Act.put, List.setIfInBounds_toArray, List.set_cons_zero, List.set_cons_succ]
                rfl
              refine take_n 5 (some 42) #[true, true, true, true, true, true, false, false, false, false, false, false, false, false, false, false, false, false] (v := ?_) (a' := ?_) rfl rfl rfl (by kernel_rfl) (by kernel_rfl) (by kernel_rfl) (fun _ _ _ _ h => h) (Or.inl ⟨by rfl, ?_⟩) hHeld ?_ ?_
              rotate_left 2
              · intro w hSw
                (try dsimp only at hSw)
                go_simp
                (with_reducible rfl)
              · simp only [Act.put, List.setIfInBounds_toArray, List.set_cons_zero, List.set_cons_succ]
                rfl
              refine take_n 6 (some 43) #[true, true, true, true, true, true, true, false, false, false, false, false, false, false, false, false, false, false] (v := ?_) (a' := ?_) rfl rfl rfl (by kernel_rfl) (by kernel_rfl) (by kernel_rfl) (fun _ _ _ _ h => h) (Or.inl ⟨by rfl, ?_⟩) hHeld ?_ ?_
              rotate_left 2
              · intro w hSw
                (try dsimp only at hSw)
                go_simp
                (with_reducible rfl)
              · simp only [Act.put, List.setIfInBounds_toArray, List.set_cons_zero, List.set_cons_succ]
                rfl
              refine take_n 7 (some 44) #[true, true, true, true, true, true, true, true, false, false, false, false, false, false, false, false, false, false] (v := ?_) (a' := ?_) rfl rfl rfl (by kernel_rfl) (by kernel_rfl) (by kernel_rfl) (fun _ _ _ _ h => h) (Or.inl ⟨by rfl, ?_⟩) hHeld ?_ ?_
              rotate_left 2
              · intro w hSw
                (try dsimp only at hSw)
                go_simp
                (with_reducible rfl)
              · simp only [Act.put, List.setIfInBounds_toArray, List.set_cons_zero, List.set_cons_succ]
                rfl
              refine take_n 8 (some 45) #[true, true, true, true, true, true, true, true, true, false, false, false, false, false, false, false, false, false] (v := ?_) (a' := ?_) rfl rfl rfl (by kernel_rfl) (by kernel_rfl) (by kernel_rfl) (fun _ _ _ _ h => h) (Or.inl ⟨by rfl, ?_⟩) hHeld ?_ ?_
              rotate_left 2
              · intro w hSw
                (try dsimp only at hSw)
                go_simp
                (with_reducible rfl)
              · simp only [Act.put, List.setIfInBounds_toArray, List.set_cons_zero, List.set_cons_succ]
                rfl
              refine take_n 10 (some 47) #[true, true, true, true, true, true, true, true, true, false, true, false, false, false, false, false, false, false] (v := ?_) (a' := ?_) rfl rfl rfl (by kernel_rfl) (by kernel_rfl) (by kernel_rfl) (fun _ _ _ _ h => h) (Or.inl ⟨by rfl, ?_⟩) hHeld ?_ ?_
              rotate_left 2
              · intro w hSw
                (try dsimp only at hSw)
                go_simp
                (with_reducible rfl)
              · simp only [Act.put, List.setIfInBounds_toArray, List.set_cons_zero, List.set_cons_succ]
                rfl
              refine take_n 11 (some 48) #[true, true, true, true, true, true, true, true, true, false, true, true, false, false, false, false, false, false] (v := ?_) (a' := ?_) rfl rfl rfl (by kernel_rfl) (by kernel_rfl) (by kernel_rfl) (fun _ _ _ _ h => h) (Or.inl ⟨by rfl, ?_⟩) hHeld ?_ ?_
              rotate_left 2
              · intro w hSw
                (try dsimp only at hSw)
                go_simp
                (with_reducible rfl)
              · simp only [Act.put, List.setIfInBounds_toArray, List.set_cons_zero, List.set_cons_succ]
                rfl
              refine take_n 12 (some 49) #[true, true, true, true, true, true, true, true, true, false, true, true, true, false, false, false, false, false] (v := ?_) (a' := ?_) rfl rfl rfl (by kernel_rfl) (by kernel_rfl) (by kernel_rfl) (fun _ _ _ _ h => h) (Or.inl ⟨by rfl, ?_⟩) hHeld ?_ ?_
              rotate_left 2
              · intro w hSw
                (try dsimp only at hSw)
                go_simp
                (with_reducible rfl)
              · simp only [Act.put, List.setIfInBounds_toArray, List.set_cons_zero, List.set_cons_succ]
                rfl
              refine two_n 9 13 #[true, true, true, true, true, true, true, true, true, true, true, true, true, false, false, false, false, false] #[true, true, true, true, true, true, true, true, true, false, true, true, true, true, false, false, false, false] rfl rfl rfl rfl (by kernel_rfl) (fun K hK => ?_) (fun K hK => ?_)
              · go_simp
                refine hK.out _ ?_ _ ?_ ?_ (fun hHeld => ?_)
                rotate_left
                · (try simp only [Act.put, List.setIfInBounds_toArray, List.set_cons_zero, List.set_cons_succ])
                  rfl
                · (try dsimp only)
                  all_goals trivial
                clear hK K
                refine one_n 13 #[true, true, true, true, true, true, true, true, true, true, true, true, true, true, false, false, false, false] rfl rfl (by kernel_rfl) (fun K hK => ?_)
                go_simp
                refine hK.out _ ?_ _ ?_ ?_ (fun hHeld => ?_)
                rotate_left
                · (try simp only [Act.put, List.setIfInBounds_toArray, List.set_cons_zero, List.set_cons_succ])
                  rfl
                · (try dsimp only)
                  all_goals trivial
                clear hK K
                refine take_n 14 (some 51) #[true, true, true, true, true, true, true, true, true, true, true, true, true, true, true, false, false, false] (v := ?_) (a' := ?_) rfl rfl rfl (by kernel_rfl) (by kernel_rfl) (by kernel_rfl) (fun _ _ _ _ h => h) (Or.inl ⟨by rfl, ?_⟩) hHeld ?_ ?_
                rotate_left 2
                · intro w hSw
                  (try dsimp only at hSw)
                  go_simp
                  (with_reducible rfl)
                · simp only [Act.put, List.setIfInBounds_toArray, List.set_cons_zero, List.set_cons_succ]
                  rfl
                refine one_n 15 #[true, true, true, true, true, true, true, true, true, true, true, true, true, true, true, true, false, false] rfl rfl (by kernel_rfl) (fun K hK => ?_)
                go_simp
                refine hK.out _ ?_ _ ?_ ?_ (fun hHeld => ?_)
                rotate_left
                · (try simp only [Act.put, List.setIfInBounds_toArray, List.set_cons_zero, List.set_cons_succ])
                  rfl
                · (try dsimp only)
                  all_goals trivial
                clear hK K
                refine take_n 16 (some 52) #[true, true, true, true, true, true, true, true, true, true, true, true, true, true, true, true, true, false] (v := ?_) (a' := ?_) rfl rfl rfl (by kernel_rfl) (by kernel_rfl) (by kernel_rfl) (fun _ _ _ _ h => h) (Or.inl ⟨by rfl, ?_⟩) hHeld ?_ ?_
                rotate_left 2
                · intro w hSw
                  (try dsimp only at hSw)
                  go_simp
                  (with_reducible rfl)
                · simp only [Act.put, List.setIfInBounds_toArray, List.set_cons_zero, List.set_cons_succ]
                  rfl
                refine one_n 17 #[true, true, true, true, true, true, true, true, true, true, true, true, true, true, true, true, true, true] rfl rfl (by kernel_rfl) (fun K hK => ?_)
                go_simp
                refine hK.out _ ?_ _ ?_ ?_ (fun hHeld => ?_)
                rotate_left
                · (try simp only [Act.put, List.setIfInBounds_toArray, List.set_cons_zero, List.set_cons_succ])
                  rfl
                · (try dsimp only)
                  all_goals trivial
                clear hK K
                refine wpAnyH_done (by kernel_rfl) ?_ _
                go_wp2_with fail
                have hput := ((HRw.out.put (j + 1) (by omega) (t, q, r)).put j (by omega) (s, o, m)).drew
                rw [HJ.out] at hput
                rw [swap_mid] at hput
                rw [← HJ.out] at hput
                have hgo := sink_go (s, o, m) (t, q, r) P' S (by rw [← HZ.out]; omega)
                exact ⟨⟨P', (t, q, r) :: S, by rw [← HJ.out], ((Fr.put (Fr.put (HF2.out.then_below hbb.out) (.inl rfl) ((j + 1) * 4) _ _ _ _) (.inl rfl) (j * 4) _ _ _ _)).drew, hput, by rw [← hgo]; exact hsk.out⟩, by simp [intOf]⟩
              · go_simp
                refine hK.out _ ?_ _ ?_ ?_ (fun hHeld => ?_)
                rotate_left
                · (try simp only [Act.put, List.setIfInBounds_toArray, List.set_cons_zero, List.set_cons_succ])
                  rfl
                · (try dsimp only)
                  all_goals trivial
                clear hK K
                refine one_n 9 #[true, true, true, true, true, true, true, true, true, true, true, true, true, true, false, false, false, false] rfl rfl (by kernel_rfl) (fun K hK => ?_)
                go_simp
                refine hK.out _ ?_ _ ?_ ?_ (fun hHeld => ?_)
                rotate_left
                · (try simp only [Act.put, List.setIfInBounds_toArray, List.set_cons_zero, List.set_cons_succ])
                  rfl
                · (try dsimp only)
                  all_goals trivial
                clear hK K
                refine take_n 14 (some 51) #[true, true, true, true, true, true, true, true, true, true, true, true, true, true, true, false, false, false] (v := ?_) (a' := ?_) rfl rfl rfl (by kernel_rfl) (by kernel_rfl) (by kernel_rfl) (fun _ _ _ _ h => h) (Or.inl ⟨by rfl, ?_⟩) hHeld ?_ ?_
                rotate_left 2
                · intro w hSw
                  (try dsimp only at hSw)
                  go_simp
                  (with_reducible rfl)
                · simp only [Act.put, List.setIfInBounds_toArray, List.set_cons_zero, List.set_cons_succ]
                  rfl
                refine one_n 15 #[true, true, true, true, true, true, true, true, true, true, true, true, true, true, true, true, false, false] rfl rfl (by kernel_rfl) (fun K hK => ?_)
                go_simp
                refine hK.out _ ?_ _ ?_ ?_ (fun hHeld => ?_)
                rotate_left
                · (try simp only [Act.put, List.setIfInBounds_toArray, List.set_cons_zero, List.set_cons_succ])
                  rfl
                · (try dsimp only)
                  all_goals trivial
                clear hK K
                refine take_n 16 (some 52) #[true, true, true, true, true, true, true, true, true, true, true, true, true, true, true, true, true, false] (v := ?_) (a' := ?_) rfl rfl rfl (by kernel_rfl) (by kernel_rfl) (by kernel_rfl) (fun _ _ _ _ h => h) (Or.inl ⟨by rfl, ?_⟩) hHeld ?_ ?_
                rotate_left 2
                · intro w hSw
                  (try dsimp only at hSw)
                  go_simp
                  (with_reducible rfl)
                · simp only [Act.put, List.setIfInBounds_toArray, List.set_cons_zero, List.set_cons_succ]
                  rfl
                refine one_n 17 #[true, true, true, true, true, true, true, true, true, true, true, true, true, true, true, true, true, true] rfl rfl (by kernel_rfl) (fun K hK => ?_)
                go_simp
                refine hK.out _ ?_ _ ?_ ?_ (fun hHeld => ?_)
                rotate_left
                · (try simp only [Act.put, List.setIfInBounds_toArray, List.set_cons_zero, List.set_cons_succ])
                  rfl
                · (try dsimp only)
                  all_goals trivial
                clear hK K
                refine wpAnyH_done (by kernel_rfl) ?_ _
                go_wp2_with fail
                have hput := ((HRw.out.put (j + 1) (by omega) (t, q, r)).put j (by omega) (s, o, m)).drew
                rw [HJ.out] at hput
                rw [swap_mid] at hput
                rw [← HJ.out] at hput
                have hgo := sink_go (s, o, m) (t, q, r) P' S (by rw [← HZ.out]; omega)
                exact ⟨⟨P', (t, q, r) :: S, by rw [← HJ.out], ((Fr.put (Fr.put (HF2.out.then_below hbb.out) (.inl rfl) ((j + 1) * 4) _ _ _ _) (.inl rfl) (j * 4) _ _ _ _)).drew, hput, by rw [← hgo]; exact hsk.out⟩, by simp [intOf]⟩
            · have hz0 : decide (z < 0) = false := decide_eq_false hz1
              go_wp2_with fail
              refine start_n (S := fun W => W.cell? ⟨g, (j + 1) * 4, none⟩ = some (.string s) ∧ W.cell? ⟨g, (j + 1) * 4 + 1, none⟩ = some (.bool o) ∧ W.cell? ⟨g, (j + 1) * 4 + 2, none⟩ = some (.int .i64 m) ∧ W.cell? ⟨g, (j + 1) * 4 + 3, none⟩ = some (.slice none 0 0) ∧ W.cell? ⟨g, j * 4, none⟩ = some (.string t) ∧ W.cell? ⟨g, j * 4 + 1, none⟩ = some (.bool q) ∧ W.cell? ⟨g, j * 4 + 2, none⟩ = some (.int .i64 r) ∧ W.cell? ⟨g, j * 4 + 3, none⟩ = some (.slice none 0 0)) 17 #[false, false, false, false, false, false, false, false, false, false, false, false, false, false, false, false, false] (by kernel_rfl) rfl rfl ?_ (fun hHeld => ?_)
              · (try dsimp only)
                go_keep
              refine take_n 0 (some 18) #[true, false, false, false, false, false, false, false, false, false, false, false, false, false, false, false, false] (v := ?_) (a' := ?_) rfl rfl rfl (by kernel_rfl) (by kernel_rfl) (by kernel_rfl) (fun _ _ _ _ h => h) (Or.inl ⟨by rfl, ?_⟩) hHeld ?_ ?_
              rotate_left 2
              · intro w hSw
                (try dsimp only at hSw)
                go_simp
                (with_reducible rfl)
              · simp only [Act.put, List.setIfInBounds_toArray, List.set_cons_zero, List.set_cons_succ]
                rfl
              refine take_n 1 (some 19) #[true, true, false, false, false, false, false, false, false, false, false, false, false, false, false, false, false] (v := ?_) (a' := ?_) rfl rfl rfl (by kernel_rfl) (by kernel_rfl) (by kernel_rfl) (fun _ _ _ _ h => h) (Or.inl ⟨by rfl, ?_⟩) hHeld ?_ ?_
              rotate_left 2
              · intro w hSw
                (try dsimp only at hSw)
                go_simp
                (with_reducible rfl)
              · simp only [Act.put, List.setIfInBounds_toArray, List.set_cons_zero, List.set_cons_succ]
                rfl
              refine take_n 2 (some 20) #[true, true, true, false, false, false, false, false, false, false, false, false, false, false, false, false, false] (v := ?_) (a' := ?_) rfl rfl rfl (by kernel_rfl) (by kernel_rfl) (by kernel_rfl) (fun _ _ _ _ h => h) (Or.inl ⟨by rfl, ?_⟩) hHeld ?_ ?_
              rotate_left 2
              · intro w hSw
                (try dsimp only at hSw)
                go_simp
                (with_reducible rfl)
              · simp only [Act.put, List.setIfInBounds_toArray, List.set_cons_zero, List.set_cons_succ]
                rfl
              refine take_n 3 (some 21) #[true, true, true, true, false, false, false, false, false, false, false, false, false, false, false, false, false] (v := ?_) (a' := ?_) rfl rfl rfl (by kernel_rfl) (by kernel_rfl) (by kernel_rfl) (fun _ _ _ _ h => h) (Or.inl ⟨by rfl, ?_⟩) hHeld ?_ ?_
              rotate_left 2
              · intro w hSw
                (try dsimp only at hSw)
                go_simp
                (with_reducible rfl)
              · simp only [Act.put, List.setIfInBounds_toArray, List.set_cons_zero, List.set_cons_succ]
                rfl
              refine take_n 4 (some 22) #[true, true, true, true, true, false, false, false, false, false, false, false, false, false, false, false, false] (v := ?_) (a' := ?_) rfl rfl rfl (by kernel_rfl) (by kernel_rfl) (by kernel_rfl) (fun _ _ _ _ h => h) (Or.inl ⟨by rfl, ?_⟩) hHeld ?_ ?_
              rotate_left 2
              · intro w hSw
                (try dsimp only at hSw)
                go_simp
                (with_reducible rfl)
              · simp only [Act.put, List.setIfInBounds_toArray, List.set_cons_zero, List.set_cons_succ]
                rfl
              refine take_n 5 (some 23) #[true, true, true, true, true, true, false, false, false, false, false, false, false, false, false, false, false] (v := ?_) (a' := ?_) rfl rfl rfl (by kernel_rfl) (by kernel_rfl) (by kernel_rfl) (fun _ _ _ _ h => h) (Or.inl ⟨by rfl, ?_⟩) hHeld ?_ ?_
              rotate_left 2
              · intro w hSw
                (try dsimp only at hSw)
                go_simp
                (with_reducible rfl)
              · simp only [Act.put, List.setIfInBounds_toArray, List.set_cons_zero, List.set_cons_succ]
                rfl
              refine take_n 6 (some 24) #[true, true, true, true, true, true, true, false, false, false, false, false, false, false, false, false, false] (v := ?_) (a' := ?_) rfl rfl rfl (by kernel_rfl) (by kernel_rfl) (by kernel_rfl) (fun _ _ _ _ h => h) (Or.inl ⟨by rfl, ?_⟩) hHeld ?_ ?_
              rotate_left 2
              · intro w hSw
                (try dsimp only at hSw)
                go_simp
                (with_reducible rfl)
              · simp only [Act.put, List.setIfInBounds_toArray, List.set_cons_zero, List.set_cons_succ]
                rfl
              refine take_n 7 (some 25) #[true, true, true, true, true, true, true, true, false, false, false, false, false, false, false, false, false] (v := ?_) (a' := ?_) rfl rfl rfl (by kernel_rfl) (by kernel_rfl) (by kernel_rfl) (fun _ _ _ _ h => h) (Or.inl ⟨by rfl, ?_⟩) hHeld ?_ ?_
              rotate_left 2
              · intro w hSw
                (try dsimp only at hSw)
                go_simp
                (with_reducible rfl)
              · simp only [Act.put, List.setIfInBounds_toArray, List.set_cons_zero, List.set_cons_succ]
                rfl
              refine take_n 8 (some 26) #[true, true, true, true, true, true, true, true, true, false, false, false, false, false, false, false, false] (v := ?_) (a' := ?_) rfl rfl rfl (by kernel_rfl) (by kernel_rfl) (by kernel_rfl) (fun _ _ _ _ h => h) (Or.inl ⟨by rfl, ?_⟩) hHeld ?_ ?_
              rotate_left 2
              · intro w hSw
                (try dsimp only at hSw)
                go_simp
                (with_reducible rfl)
              · simp only [Act.put, List.setIfInBounds_toArray, List.set_cons_zero, List.set_cons_succ]
                rfl
              refine take_n 9 (some 27) #[true, true, true, true, true, true, true, true, true, true, false, false, false, false, false, false, false] (v := ?_) (a' := ?_) rfl rfl rfl (by kernel_rfl) (by kernel_rfl) (by kernel_rfl) (fun _ _ _ _ h => h) (Or.inl ⟨by rfl, ?_⟩) hHeld ?_ ?_
              rotate_left 2
              · intro w hSw
                (try dsimp only at hSw)
                go_simp
                (with_reducible rfl)
              · simp only [Act.put, List.setIfInBounds_toArray, List.set_cons_zero, List.set_cons_succ]
                rfl
              refine take_n 10 (some 28) #[true, true, true, true, true, true, true, true, true, true, true, false, false, false, false, false, false] (v := ?_) (a' := ?_) rfl rfl rfl (by kernel_rfl) (by kernel_rfl) (by kernel_rfl) (fun _ _ _ _ h => h) (Or.inl ⟨by rfl, ?_⟩) hHeld ?_ ?_
              rotate_left 2
              · intro w hSw
                (try dsimp only at hSw)
                go_simp
                (with_reducible rfl)
              · simp only [Act.put, List.setIfInBounds_toArray, List.set_cons_zero, List.set_cons_succ]
                rfl
              refine take_n 11 (some 29) #[true, true, true, true, true, true, true, true, true, true, true, true, false, false, false, false, false] (v := ?_) (a' := ?_) rfl rfl rfl (by kernel_rfl) (by kernel_rfl) (by kernel_rfl) (fun _ _ _ _ h => h) (Or.inl ⟨by rfl, ?_⟩) hHeld ?_ ?_
              rotate_left 2
              · intro w hSw
                (try dsimp only at hSw)
                go_simp
                (with_reducible rfl)
              · simp only [Act.put, List.setIfInBounds_toArray, List.set_cons_zero, List.set_cons_succ]
                rfl
              refine take_n 12 (some 30) #[true, true, true, true, true, true, true, true, true, true, true, true, true, false, false, false, false] (v := ?_) (a' := ?_) rfl rfl rfl (by kernel_rfl) (by kernel_rfl) (by kernel_rfl) (fun _ _ _ _ h => h) (Or.inl ⟨by rfl, ?_⟩) hHeld ?_ ?_
              rotate_left 2
              · intro w hSw
                (try dsimp only at hSw)
                go_simp
                (with_reducible rfl)
              · simp only [Act.put, List.setIfInBounds_toArray, List.set_cons_zero, List.set_cons_succ]
                rfl
              refine take_n 13 (some 31) #[true, true, true, true, true, true, true, true, true, true, true, true, true, true, false, false, false] (v := ?_) (a' := ?_) rfl rfl rfl (by kernel_rfl) (by kernel_rfl) (by kernel_rfl) (fun _ _ _ _ h => h) (Or.inl ⟨by rfl, ?_⟩) hHeld ?_ ?_
              rotate_left 2
              · intro w hSw
                (try dsimp only at hSw)
                go_simp
                (with_reducible rfl)
              · simp only [Act.put, List.setIfInBounds_toArray, List.set_cons_zero, List.set_cons_succ]
                rfl
              refine one_n 14 #[true, true, true, true, true, true, true, true, true, true, true, true, true, true, true, false, false] rfl rfl (by kernel_rfl) (fun K hK => ?_)
              go_simp
              refine ((hA _).out).mono ?_
              rintro e w1 ⟨rfl, hb1⟩
              have HB1 := Lib.hid hb1
              have hcc : ∀ i, w1.cell? ⟨g, i, none⟩ = wr.cell? ⟨g, i, none⟩ := fun i => hb1.cell (p := ⟨g, i, none⟩) hgz2
              clear hb1
              refine hK.out _ ?_ _ ?_ ?_ (fun hHeld => ?_)
              rotate_left
              · (try simp only [Act.put, List.setIfInBounds_toArray, List.set_cons_zero, List.set_cons_succ])
                rfl
              · (try dsimp only)
                go_keep
              clear hK K
              refine take_n 15 (some 33) #[true, true, true, true, true, true, true, true, true, true, true, true, true, true, true, true, false] (v := ?_) (a' := ?_) rfl rfl rfl (by kernel_rfl) (by kernel_rfl) (by kernel_rfl) (fun _ _ _ _ h => h) (Or.inl ⟨by rfl, ?_⟩) hHeld ?_ ?_
              rotate_left 2
              · intro w hSw
                (try dsimp only at hSw)
                go_simp
                (with_reducible rfl)
              · simp only [Act.put, List.setIfInBounds_toArray, List.set_cons_zero, List.set_cons_succ]
                rfl
              refine take_n 16 (some 34) #[true, true, true, true, true, true, true, true, true, true, true, true, true, true, true, true, true] (v := ?_) (a' := ?_) rfl rfl rfl (by kernel_rfl) (by kernel_rfl) (by kernel_rfl) (fun _ _ _ _ h => h) (Or.inl ⟨by rfl, ?_⟩) hHeld ?_ ?_
              rotate_left 2
              · intro w hSw
                (try dsimp only at hSw)
                go_simp
                (with_reducible rfl)
              · simp only [Act.put, List.setIfInBounds_toArray, List.set_cons_zero, List.set_cons_succ]
                rfl
              refine wpAnyH_done (by kernel_rfl) ?_ _
              go_wp2_with fail
              have hbb := below_drew HB1.out
              have hend := sink_stop (s, o, m) (t, q, r) P' S (by rw [← HZ.out]; omega)
              exact ⟨⟨l.length + 1, by omega, by have := HKN.out; omega, by go_num, (HF.out.trans HF2.out (fun _ e => e) (fun _ _ e => e)).then_below hbb, .inr ⟨HKN.out, by rw [← hsk.out, hend]; exact HR3.out.below hbb⟩⟩, by have := HKN.out; simp [intOf]; omega⟩
    · have hR := Lib.hid H
      have hnk : ¬ k < n := by omega
      clear H h hkn
      go_wp2_with fail
      go_end0
      exact ⟨rfl, hR.out, HF.out⟩
end Go.Proofs.YtdpfmemcpipbkaaGreatDoor.Hand
end
