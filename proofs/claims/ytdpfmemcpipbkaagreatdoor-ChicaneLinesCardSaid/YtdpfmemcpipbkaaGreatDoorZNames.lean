/- toxic.Name: small letters, digits, '_' and '-', one to sixteen: true. -/
import Derived.LoopN
import Derived.Test.YtdpfmemcpipbkaaGreatDoorProg
import Derived.Below
import Derived.WalkKit
import Derived.RowKit
import Derived.RowKit3
import Derived.Deep.Draws
import Derived.Tactics
import Derived.Laws.RangeString
import Derived.Laws.RangeAny
import Derived.Laws.Strings
import Derived.Lib.Hide
import Derived.Lib.SliceRun
import Derived.Laws.AppendOwn
import Derived.OwnWalk
import Derived.Maps.AppendAt
import Derived.Deep.RegionHeld3
import Derived.Deep.QuietTactic
import Derived.BigQuiet
import Derived.WalkSpells
import Derived.Laws.NewBlocks
import Derived.Laws.OwnMore
import Derived.Laws.Cover1
section
namespace Go.Proofs.YtdpfmemcpipbkaaGreatDoor.Hand
open Go.RowKit
set_option linter.unusedVariables false
set_option linter.unusedSimpArgs false
def okc (c : Nat) : Prop := (97 ≤ c ∧ c ≤ 122) ∨ (48 ≤ c ∧ c ≤ 57) ∨ c = 95 ∨ c = 45
set_option maxHeartbeats 4000000 in
set_option maxRecDepth 100000 in
theorem name_calls (s : ByteArray) (h1 : 1 ≤ s.size) (h2 : s.size ≤ 16) (hc : ∀ i (h : i < s.size), okc (s[i]'h).toNat) (w : World) : Calls Tryz.prog 113 #[.string s] w fun e w' => e = .returned (.bool true) ∧ Below w.heap.size w w' := by
  have hu := Tryz.underlying9
  go_enter Tryz.func113, Tryz.ntmps113
  go_wp2_with fail
  go_loopw [4] (fun _ w' => ∃ pos : Nat, pos ≤ s.size ∧ w' = w.iter s pos) (fun _ w' => s.size - w'.iterPos w.heap.size)
  case atStart => exact ⟨0, by omega, rfl⟩
  case round =>
    obtain ⟨pos, hpos, rfl⟩ := hrel
    by_cases hp : pos < s.size
    · have hk := hc pos hp
      have hlt : (s[pos]'hp).toNat < 128 := by unfold okc at hk; omega
      have hnx : ∀ ty, (Instr.next (.pointer (some ⟨w.heap.size, 0, none⟩)) true ty).run Tryz.prog (w.iter s pos) = _ := fun ty => run_next_ascii w s pos ty hp hlt
      obtain ⟨c, hcc⟩ : ∃ c : Nat, (s[pos]'hp).toNat = c := ⟨_, rfl⟩
      rw [hcc] at hk
      simp only [hcc] at hnx
      obtain ⟨ci, hci⟩ : ∃ ci : Int, (c : Int) = ci := ⟨_, rfl⟩
      simp only [hci] at hnx
      have hk2 : (97 ≤ ci ∧ ci ≤ 122) ∨ (48 ≤ ci ∧ ci ≤ 57 ∧ ¬ 97 ≤ ci) ∨ ci = 95 ∨ ci = 45 := by unfold okc at hk; omega
      clear hk hcc hci hlt
      rcases hk2 with ⟨g1, g2⟩ | ⟨g1, g2, g3⟩ | rfl | rfl
      · have e1 : decide (ci < 97) = false := decide_eq_false (by omega)
        have e2 : decide (122 < ci) = false := decide_eq_false (by omega)
        go_wp2_with fail
        go_roundw
        case rel => exact ⟨pos + 1, by omega, rfl⟩
        case measure => simp; omega
      · have e1 : decide (ci < 97) = true := decide_eq_true (by omega)
        have e2 : decide (ci < 48) = false := decide_eq_false (by omega)
        have e3 : decide (57 < ci) = false := decide_eq_false (by omega)
        go_wp2_with fail
        go_roundw
        case rel => exact ⟨pos + 1, by omega, rfl⟩
        case measure => simp; omega
      · go_wp2_with fail
        go_roundw
        case rel => exact ⟨pos + 1, by omega, rfl⟩
        case measure => simp; omega
      · go_wp2_with fail
        go_roundw
        case rel => exact ⟨pos + 1, by omega, rfl⟩
        case measure => simp; omega
    · have hnx : ∀ ty, (Instr.next (.pointer (some ⟨w.heap.size, 0, none⟩)) true ty).run Tryz.prog (w.iter s pos) = _ := fun ty => run_next_end w s pos ty hp
      have e1 : (1 : Int) ≤ (s.size : Int) := by omega
      have e2 : (s.size : Int) ≤ 16 := by omega
      go_wp2_with fail
      go_ret
      exact ⟨rfl, (Below.refl _ w).alloc (Nat.le_refl _) _⟩
end Go.Proofs.YtdpfmemcpipbkaaGreatDoor.Hand
end
section
/- tick.Parse and Text at one digit. -/
namespace Go.Proofs.YtdpfmemcpipbkaaGreatDoor.Hand
open Go.RowKit
set_option linter.unusedVariables false
set_option linter.unusedSimpArgs false
set_option maxHeartbeats 4000000 in
set_option maxRecDepth 100000 in
theorem right_3 (w : World) : Calls Tryz.prog 131 #[.int .i64 3] w fun e w' => e = .returned (.bool true) ∧ Below w.heap.size w w' := by
  go_enter Tryz.func131, Tryz.ntmps131
  go_wp2_with fail
  go_ret
  exact ⟨rfl, Below.refl _ w⟩
set_option maxHeartbeats 4000000 in
set_option maxRecDepth 100000 in
theorem right_1 (w : World) : Calls Tryz.prog 131 #[.int .i64 1] w fun e w' => e = .returned (.bool true) ∧ Below w.heap.size w w' := by
  go_enter Tryz.func131, Tryz.ntmps131
  go_wp2_with fail
  go_ret
  exact ⟨rfl, Below.refl _ w⟩
set_option maxHeartbeats 4000000 in
set_option maxRecDepth 100000 in
theorem parse_3 (w : World) : Calls Tryz.prog 76 #[.string ⟨#[51]⟩] w fun e w' => e = .returned (.tuple #[.int .i64 3, .int .i64 0]) ∧ Below w.heap.size w w' := by
  have hu := Tryz.underlying9
  have hn0 : ∀ ty, (Instr.next (.pointer (some ⟨w.heap.size, 0, none⟩)) true ty).run Tryz.prog (w.iter ⟨#[51]⟩ 0) = .ok (.tuple #[.bool true, .int .i64 0, .int .i32 51]) (w.iter ⟨#[51]⟩ 1) := fun ty => run_next_ascii w ⟨#[51]⟩ 0 ty (by decide) (by decide)
  have hn1 : ∀ ty, (Instr.next (.pointer (some ⟨w.heap.size, 0, none⟩)) true ty).run Tryz.prog (w.iter ⟨#[51]⟩ 1) = .ok (.tuple #[.bool false]) (w.iter ⟨#[51]⟩ 1) := fun ty => run_next_end w ⟨#[51]⟩ 1 ty (by decide)
  go_enter Tryz.func76, Tryz.ntmps76
  go_wp2_with fail
  refine wp_loop_rounds 2 ?_
  rw [rounds_succ]
  go_wp2_with fail
  rw [rounds_succ]
  go_wp2_with fail
  refine (right_3 _).mono ?_
  rintro e w1 ⟨rfl, hb⟩
  have hB := ((Below.refl w.heap.size w).alloc (Nat.le_refl _) (.stringIter ⟨#[51]⟩ 1)).trans (hb.mono (by show w.heap.size ≤ (w.alloc _).heap.size; rw [World.size_alloc]; omega))
  go_wp2_with fail
  refine bodyPost_ret (v := .tuple #[.int .i64 3, .int .i64 0]) (by simp [results, Tryz.results76, go_sem]) rfl ?_
  exact ⟨rfl, hB⟩
set_option maxHeartbeats 4000000 in
set_option maxRecDepth 100000 in
theorem parse_1 (w : World) : Calls Tryz.prog 76 #[.string ⟨#[49]⟩] w fun e w' => e = .returned (.tuple #[.int .i64 1, .int .i64 0]) ∧ Below w.heap.size w w' := by
  have hu := Tryz.underlying9
  have hn0 : ∀ ty, (Instr.next (.pointer (some ⟨w.heap.size, 0, none⟩)) true ty).run Tryz.prog (w.iter ⟨#[49]⟩ 0) = .ok (.tuple #[.bool true, .int .i64 0, .int .i32 49]) (w.iter ⟨#[49]⟩ 1) := fun ty => run_next_ascii w ⟨#[49]⟩ 0 ty (by decide) (by decide)
  have hn1 : ∀ ty, (Instr.next (.pointer (some ⟨w.heap.size, 0, none⟩)) true ty).run Tryz.prog (w.iter ⟨#[49]⟩ 1) = .ok (.tuple #[.bool false]) (w.iter ⟨#[49]⟩ 1) := fun ty => run_next_end w ⟨#[49]⟩ 1 ty (by decide)
  go_enter Tryz.func76, Tryz.ntmps76
  go_wp2_with fail
  refine wp_loop_rounds 2 ?_
  rw [rounds_succ]
  go_wp2_with fail
  rw [rounds_succ]
  go_wp2_with fail
  refine (right_1 _).mono ?_
  rintro e w1 ⟨rfl, hb⟩
  have hB := ((Below.refl w.heap.size w).alloc (Nat.le_refl _) (.stringIter ⟨#[49]⟩ 1)).trans (hb.mono (by show w.heap.size ≤ (w.alloc _).heap.size; rw [World.size_alloc]; omega))
  go_wp2_with fail
  refine bodyPost_ret (v := .tuple #[.int .i64 1, .int .i64 0]) (by simp [results, Tryz.results76, go_sem]) rfl ?_
  exact ⟨rfl, hB⟩
set_option maxHeartbeats 4000000 in
set_option maxRecDepth 100000 in
theorem near_0 (w : World) : Calls Tryz.prog 207 #[.int .i64 0] w fun e w' => e = .returned (.int .i64 0) ∧ Below w.heap.size w w' := by
  go_enter Tryz.func207, Tryz.ntmps207
  go_wp2_with fail
  go_ret
  exact ⟨rfl, Below.refl _ w⟩
set_option maxHeartbeats 4000000 in
set_option maxRecDepth 100000 in
theorem text_0 (w : World) : Calls Tryz.prog 156 #[.int .i64 0] w fun e w' => e = .returned (.string ⟨#[48]⟩) ∧ Below w.heap.size w w' := by
  go_enter Tryz.func156, Tryz.ntmps156
  go_wp2_with fail
  refine (near_0 _).mono ?_
  rintro e w1 ⟨rfl, hb⟩
  go_wp2_with fail
  go_ret
  exact ⟨rfl, hb⟩
set_option maxHeartbeats 4000000 in
set_option maxRecDepth 100000 in
theorem near_3 (w : World) : Calls Tryz.prog 207 #[.int .i64 3] w fun e w' => e = .returned (.int .i64 3) ∧ Below w.heap.size w w' := by
  go_enter Tryz.func207, Tryz.ntmps207
  go_wp2_with fail
  go_ret
  exact ⟨rfl, Below.refl _ w⟩
set_option maxHeartbeats 4000000 in
set_option maxRecDepth 100000 in
theorem text_3 (w : World) : Calls Tryz.prog 156 #[.int .i64 3] w fun e w' => e = .returned (.string ⟨#[51]⟩) ∧ Below w.heap.size w w' := by
  go_enter Tryz.func156, Tryz.ntmps156
  go_wp2_with fail
  refine (near_3 _).mono ?_
  rintro e w1 ⟨rfl, hb⟩
  go_wp2_with fail
  go_ret
  exact ⟨rfl, hb⟩
end Go.Proofs.YtdpfmemcpipbkaaGreatDoor.Hand
end
section
/- words.blank, words.may; desk.Fail where nothing failed. -/
namespace Go.Proofs.YtdpfmemcpipbkaaGreatDoor.Hand
open Go.RowKit
set_option linter.unusedVariables false
set_option linter.unusedSimpArgs false
set_option maxHeartbeats 4000000 in
set_option maxRecDepth 100000 in
theorem fail_0 (w : World) : Calls Tryz.prog 15 #[.int .i64 0] w fun e w' => e = .returned (.string ⟨#[111, 107]⟩) ∧ Below w.heap.size w w' := by
  go_enter Tryz.func15, Tryz.ntmps15
  go_wp2_with fail
  go_ret
  exact ⟨rfl, Below.refl _ w⟩
set_option maxHeartbeats 4000000 in
set_option maxRecDepth 100000 in
theorem blank_32 (w : World) : Calls Tryz.prog 42 #[.int .u8 32] w fun e w' => e = .returned (.bool true) ∧ Below w.heap.size w w' := by
  go_enter Tryz.func42, Tryz.ntmps42
  go_wp2_with fail
  go_ret
  exact ⟨rfl, Below.refl _ w⟩
set_option maxHeartbeats 4000000 in
set_option maxRecDepth 100000 in
theorem blank_no (c : Int) (h : 32 < c) (w : World) : Calls Tryz.prog 42 #[.int .u8 c] w fun e w' => e = .returned (.bool false) ∧ Below w.heap.size w w' := by
  have h1 : (c == 32) = false := beq_false_of_ne (by omega)
  have h2 : (c == 9) = false := beq_false_of_ne (by omega)
  go_enter Tryz.func42, Tryz.ntmps42
  go_wp2_with fail
  go_ret
  exact ⟨rfl, Below.refl _ w⟩
set_option maxHeartbeats 4000000 in
set_option maxRecDepth 100000 in
theorem may_yes (c : Int) (h : 32 ≤ c) (h1 : c ≤ 126) (w : World) : Calls Tryz.prog 43 #[.int .u8 c] w fun e w' => e = .returned (.bool true) ∧ Below w.heap.size w w' := by
  go_enter Tryz.func43, Tryz.ntmps43
  go_wp2_with fail
  go_ret
  exact ⟨rfl, Below.refl _ w⟩
end Go.Proofs.YtdpfmemcpipbkaaGreatDoor.Hand
end
section
/- Small lemmas on blocks, and a registry in memory. -/
namespace Go.Proofs.YtdpfmemcpipbkaaGreatDoor.Hand
open Go.RowKit
set_option linter.unusedVariables false
theorem blk_cell {w : World} {g : Nat} {cs : Array Value} {t : TypeId} {r : Nat × Nat} (h : w.heap[g]? = some (.cells cs t r)) (i : Nat) : w.cell? ⟨g, i, none⟩ = cs[i]? := cell_of_row w g i cs t r h
theorem blk_frozen {w : World} {g : Nat} {cs : Array Value} {t : TypeId} (h : w.heap[g]? = some (.cells cs t (0, 0))) (i : Nat) : w.frozen? ⟨g, i, none⟩ = false := by simp [World.frozen?, h]
theorem blk_lt {w : World} {g : Nat} {o : Obj} (h : w.heap[g]? = some o) : g < w.heap.size := by
  rcases Nat.lt_or_ge g w.heap.size with hlt | hge
  · exact hlt
  · rw [Array.getElem?_eq_none hge] at h; cases h
theorem below_alloc {w0 w : World} {B : Nat} (h : Below B w0 w) (o : Obj) (hB : B ≤ w0.heap.size) : Below B w0 (w.alloc o) := h.alloc (Nat.le_trans hB h.size) o
/-- Two calls, one behind the other. -/
theorem below_step {w a b : World} (h : Below w.heap.size w a) (k : Below a.heap.size a b) : Below w.heap.size w b := h.trans (k.mono h.size)
/-- All blocks but those of X stay. -/
structure Fr (X : Nat → Prop) (w w' : World) : Prop where
  os : w'.os = w.os
  tape : w'.tape = w.tape
  output : w'.output = w.output
  size : w.heap.size ≤ w'.heap.size
  block : ∀ k, k < w.heap.size → ¬ X k → w'.heap[k]? = w.heap[k]?
theorem Fr.refl (X : Nat → Prop) (w : World) : Fr X w w := ⟨rfl, rfl, rfl, Nat.le_refl _, fun _ _ _ => rfl⟩
theorem Fr.trans {X Y Z : Nat → Prop} {a b c : World} (h : Fr X a b) (k : Fr Y b c) (hx : ∀ i, X i → Z i) (hy : ∀ i, i < a.heap.size → Y i → Z i) : Fr Z a c :=
  ⟨k.os.trans h.os, k.tape.trans h.tape, k.output.trans h.output, Nat.le_trans h.size k.size, fun i hi hz => (k.block i (Nat.lt_of_lt_of_le hi h.size) (fun e => hz (hy i hi e))).trans (h.block i hi (fun e => hz (hx i e)))⟩
theorem Fr.mono {X Y : Nat → Prop} {a b : World} (h : Fr X a b) (hx : ∀ i, i < a.heap.size → X i → Y i) : Fr Y a b := ⟨h.os, h.tape, h.output, h.size, fun i hi hy => h.block i hi (fun e => hy (hx i hi e))⟩
theorem Fr.of_below {X : Nat → Prop} {a b : World} (h : Below a.heap.size a b) : Fr X a b := ⟨h.os, h.tape, h.output, h.size, fun i hi _ => h.block i hi⟩
theorem Fr.then_below {X : Nat → Prop} {a b c : World} (h : Fr X a b) (k : Below b.heap.size b c) : Fr X a c := h.trans (Fr.of_below (X := fun _ => False) k) (fun _ e => e) (fun _ _ e => e.elim)
theorem Fr.below_then {X : Nat → Prop} {a b c : World} (h : Below a.heap.size a b) (k : Fr X b c) : Fr X a c := (Fr.of_below (X := fun _ => False) h).trans k (fun _ e => e.elim) (fun _ _ e => e)
theorem Fr.drewN {X : Nat → Prop} {a b : World} (h : Fr X a b) (n : Nat) : Fr X a (b.drewN n) := ⟨h.os, h.tape, h.output, h.size, h.block⟩
theorem Fr.drew {X : Nat → Prop} {a b : World} (h : Fr X a b) : Fr X a b.drew := ⟨h.os, h.tape, h.output, h.size, h.block⟩
theorem Fr.alloc {X : Nat → Prop} {a b : World} (h : Fr X a b) (o : Obj) : Fr X a (b.alloc o) := h.then_below ((Below.refl _ b).alloc (Nat.le_refl _) o)
theorem Fr.set {X : Nat → Prop} {a b : World} (h : Fr X a b) {p : Addr} (hp : X p.block ∨ a.heap.size ≤ p.block) (v : Value) : Fr X a (b.setCell p v) := by
  have hs := Below.setCell (Below.refl 0 b) (Nat.zero_le p.block) v
  refine ⟨hs.os.trans h.os, hs.tape.trans h.tape, hs.output.trans h.output, Nat.le_trans h.size hs.size, fun i hi hx => (Below.heap_setCell b p v i (fun e => ?_)).trans (h.block i hi hx)⟩
  rcases hp with hp | hp
  · exact hx (e ▸ hp)
  · omega
theorem below_drew {w w' : World} (h : Below w.drew.heap.size w.drew w') : Below w.heap.size w w' := ((Below.refl _ w).drew).trans h
theorem below_drewN {B : Nat} {a w : World} (h : Below B a w) (n : Nat) : Below B a (w.drewN n) := ⟨h.os, h.tape, h.output, h.size, h.block⟩
theorem Fr.below {X : Nat → Prop} {B : Nat} {a b : World} (h : Fr X a b) (hl : B ≤ a.heap.size) (hx : ∀ i, X i → B ≤ i) : Below B a b :=
  ⟨h.os, h.tape, h.output, h.size, fun i hi => h.block i (Nat.lt_of_lt_of_le hi hl) (fun e => by have := hx i e; omega)⟩
/-- A proxy: name, on, most; no toxics. -/
abbrev Px := ByteArray × Bool × Int
def Px.cells (p : Px) : List Value := [.string p.1, .bool p.2.1, .int .i64 p.2.2, .slice none 0 0]
def regV : List Px → List Value
  | [] => []
  | p :: l => .string p.1 :: .bool p.2.1 :: .int .i64 p.2.2 :: .slice none 0 0 :: regV l
theorem regV_length : ∀ l, (regV l).length = l.length * 4
  | [] => rfl
  | p :: l => by simp [regV, regV_length l]; omega
theorem regV_append : ∀ a b, regV (a ++ b) = regV a ++ regV b
  | [], b => rfl
  | p :: l, b => by simp [regV, regV_append l b]
theorem regV_get : ∀ (l : List Px) (k i : Nat), k < l.length → i < 4 → (regV l)[k * 4 + i]? = some ((Px.cells (l.getD k default)).getD i undef)
  | p :: l, 0, i, _, hi => by
    rcases i with _ | _ | _ | _ | i <;> first | rfl | omega
  | p :: l, k + 1, i, hk, hi => by
    have := regV_get l k i (by simpa using hk) hi
    have e : (k + 1) * 4 + i = (k * 4 + i) + 1 + 1 + 1 + 1 := by omega
    rw [e]
    simpa [regV] using this
/-- A slice of proxies. -/
structure RegAt (w : World) (a : Option Addr) (n cap : Nat) (l : List Px) : Prop where
  own : w.ownsRow 0 71 4 (.slice a n cap) n (regV l)
  len : l.length = n
theorem RegAt.at {w : World} {a : Option Addr} {n cap : Nat} {l : List Px} (h : RegAt w a n cap l) (k : Nat) (hk : k < n) : ∃ g, a = some ⟨g, 0, none⟩ ∧ w.cell? ⟨g, k * 4, none⟩ = some (.string (l.getD k default).1) ∧ w.cell? ⟨g, k * 4 + 1, none⟩ = some (.bool (l.getD k default).2.1) ∧ w.cell? ⟨g, k * 4 + 2, none⟩ = some (.int .i64 (l.getD k default).2.2) ∧ w.cell? ⟨g, k * 4 + 3, none⟩ = some (.slice none 0 0) := by
  have hl := h.len
  rcases h.own.2 with ⟨_, hn⟩ | ⟨g, cp, cur, hv, _⟩
  · omega
  · injection hv with h1 h2 h3
    subst h1
    have c := h.own.cells (g := g) rfl
    have key : ∀ i, i < 4 → w.cell? ⟨g, k * 4 + i, none⟩ = some ((Px.cells (l.getD k default)).getD i undef) := fun i hi => by
      have := c (k * 4 + i) _ (regV_get l k i (by omega) hi)
      rwa [show (⟨g, 0, none⟩ : Addr).add (k * 4 + i) = ⟨g, k * 4 + i, none⟩ by unfold Addr.add; split <;> simp_all] at this
    exact ⟨g, rfl, key 0 (by omega), key 1 (by omega), key 2 (by omega), key 3 (by omega)⟩
theorem RegAt.frozen {w : World} {a : Option Addr} {n cap : Nat} {l : List Px} (h : RegAt w a n cap l) {g : Nat} (ha : a = some ⟨g, 0, none⟩) (i : Nat) : w.frozen? ⟨g, i, none⟩ = false := by
  rcases h.own.2 with ⟨hv, _⟩ | ⟨g', cp, cur, hv, _, hh, _⟩
  · rw [ha] at hv; cases hv
  · rw [ha] at hv; injection hv with h1; injection h1 with h1; injection h1 with h1; subst h1
    exact blk_frozen hh i
theorem RegAt.lt {w : World} {a : Option Addr} {n cap : Nat} {l : List Px} (h : RegAt w a n cap l) {g : Nat} (ha : a = some ⟨g, 0, none⟩) : g < w.heap.size := (h.own.lt g (by rw [ha]; rfl)).2
theorem RegAt.keep {w w' : World} {a : Option Addr} {n cap : Nat} {l : List Px} {X : Nat → Prop} (h : RegAt w a n cap l) (hf : Fr X w w') (hx : ∀ g, a = some ⟨g, 0, none⟩ → ¬ X g) : RegAt w' a n cap l := by
  refine ⟨⟨h.own.1, ?_⟩, h.len⟩
  rcases h.own.2 with hn | ⟨g, cp, cur, hv, hb, hh, r⟩
  · exact .inl hn
  · refine .inr ⟨g, cp, cur, hv, hb, ?_, r⟩
    injection hv with h1
    rw [hf.block g (blk_lt hh) (hx g h1)]
    exact hh
theorem RegAt.below {w w' : World} {a : Option Addr} {n cap : Nat} {l : List Px} (h : RegAt w a n cap l) (hf : Below w.heap.size w w') : RegAt w' a n cap l := h.keep (Fr.of_below (X := fun _ => False) hf) (fun _ _ e => e)
theorem RegAt.drew {w : World} {a : Option Addr} {n cap : Nat} {l : List Px} (h : RegAt w a n cap l) : RegAt w.drew a n cap l := ⟨h.own, h.len⟩
theorem RegAt.nil (w : World) : RegAt w none 0 0 [] := ⟨World.ownsRow_nil _ _ _ _, rfl⟩
theorem ownsRow_base {w : World} {B e size n : Nat} {v : Value} {xs : List Value} (h : w.ownsRow B e size v n xs) : w.ownsRow 0 e size v n xs :=
  ⟨h.1, h.2.imp id (fun ⟨g, cap, cur, a, b, c⟩ => ⟨g, cap, cur, a, Nat.zero_le _, c⟩)⟩
/-- A proxy that may be. -/
structure Ok (p : Px) : Prop where
  n1 : 1 ≤ p.1.size
  n2 : p.1.size ≤ 16
  c : ∀ i (h : i < p.1.size), okc (p.1[i]'h).toNat
  m1 : 1 ≤ p.2.2
  m2 : p.2.2 ≤ 16
/-- What holds the value already stays. -/
theorem setCell_id {w : World} {a : Addr} {v : Value} (h : w.cell? a = some v) : w.setCell a v = w := by
  have hh : (w.heap.modify a.block fun | .cells c elem frozen => .cells (if a.spot.isSome then c else c.setIfInBounds a.off v) elem frozen | o => o) = w.heap := by
    apply Array.ext_getElem?
    intro i
    rw [Array.getElem?_modify]
    split
    · rename_i e
      subst e
      unfold World.cell? at h
      split at h
      · rename_i c e f hc
        rw [hc]
        split at h
        · cases h
        · rename_i hs
          simp only [Option.map_some, if_neg hs]
          congr 2
          apply Array.ext_getElem?
          intro j
          rw [Array.getElem?_setIfInBounds]
          split
          · rename_i e2
            subst e2
            have hlt := (Array.getElem?_eq_some_iff.1 h).1
            rw [if_pos hlt, h]
          · rfl
      · cases h
    · rfl
  exact congrArg (fun h => ({ w with heap := h } : World)) hh
/-- A slice made by the call. -/
def Fresh (B : Nat) (a : Option Addr) : Prop := ∀ g, a = some ⟨g, 0, none⟩ → B ≤ g
section
variable {P : Program} {ops : Array Oper} {Q : Exit → Act → World → Prop} {S : World → Prop}
theorem start_n (n : Nat) (L : Array Bool) {id : Nat} {a : Act} {w : World} (hm : P.follows .mixedOrders = true) (hn : ops.size = n) (hL : Array.replicate n false = L) (hS : S w.drew)
    (h : S w.drew → wpAnyH P .any ops Q S n L a w.drew) : (Code.region id ops true).wp P Q a w := by
  subst hn
  subst hL
  exact wp_region_held_drew hm hS h
theorem take_n (i : Nat) (N : Option Tmp) (L' : Array Bool) {oi : Oper} {v : Value} {fuel : Nat} {L : Array Bool} {a a' : Act} {w : World} (hi : ops[i]? = some oi) (hN : oi.dst = N) (hL : L.setIfInBounds i true = L')
    (hs : Region.noSelect ops = true) (hf : Region.free .any ops L i = true) (hr : (Region.ready .any ops L).contains i = true)
    (hQ : ∀ c a w v, Q (.panic c) (a.put N v) w → Q (.panic c) a w) (hy : YieldsIf P ops S oi v a) (hS : S w) (ha : a.put N v = a')
    (h : wpAnyH P .any ops Q S fuel L' a' w) : wpAnyH P .any ops Q S (fuel + 1) L a w := by
  subst hL
  subst ha
  subst hN
  exact wpAnyH_take hi hs hf hr (fun c a w => hQ c a w v) hy hS h
theorem two_n (i j : Nat) (Li Lj : Array Bool) {oi oj : Oper} {fuel : Nat} {L : Array Bool} {a : Act} {w : World} (hi : ops[i]? = some oi) (hj : ops[j]? = some oj) (hLi : L.setIfInBounds i true = Li) (hLj : L.setIfInBounds j true = Lj) (hr : Region.ready .any ops L = [i, j])
    (h : ∀ K' : Act → World → Prop, Shut (∀ a a' w, a = a' → S w → (S w → wpAnyH P .any ops Q S fuel Li a' w) → K' a w) → if Region.wanted oi (yielded ops a.tmps) = true then Oper.wp P oi a w K' Q else K' (a.put oi.dst undef) w)
    (h2 : ∀ K' : Act → World → Prop, Shut (∀ a a' w, a = a' → S w → (S w → wpAnyH P .any ops Q S fuel Lj a' w) → K' a w) → if Region.wanted oj (yielded ops a.tmps) = true then Oper.wp P oj a w K' Q else K' (a.put oj.dst undef) w) : wpAnyH P .any ops Q S (fuel + 1) L a w := by
  subst hLi
  subst hLj
  refine wpAnyH_ready hr (by simp) (AllReadyH.cons hi (fun K hK => h K (fun a a' w e hS k => ?_)) (AllReadyH.cons hj (fun K hK => h2 K (fun a a' w e hS k => ?_)) AllReadyH.nil))
  · subst e
    exact hK a w hS k
  · subst e
    exact hK a w hS k
theorem one_n (i : Nat) (L' : Array Bool) {oi : Oper} {fuel : Nat} {L : Array Bool} {a : Act} {w : World} (hi : ops[i]? = some oi) (hL : L.setIfInBounds i true = L') (hr : Region.ready .any ops L = [i])
    (h : ∀ K' : Act → World → Prop, Shut (∀ a a' w, a = a' → S w → (S w → wpAnyH P .any ops Q S fuel L' a' w) → K' a w) → if Region.wanted oi (yielded ops a.tmps) = true then Oper.wp P oi a w K' Q else K' (a.put oi.dst undef) w) : wpAnyH P .any ops Q S (fuel + 1) L a w := by
  subst hL
  refine wpAnyH_ready hr (by simp) (AllReadyH.cons hi (fun K hK => h K (fun a a' w e hS k => ?_)) AllReadyH.nil)
  subst e
  exact hK a w hS k
end
end Go.Proofs.YtdpfmemcpipbkaaGreatDoor.Hand
end
section
/- names.may, Check, Right. -/
namespace Go.Proofs.YtdpfmemcpipbkaaGreatDoor.Hand
open Go.RowKit
set_option linter.unusedVariables false
set_option linter.unusedSimpArgs false
set_option maxHeartbeats 4000000 in
set_option maxRecDepth 100000 in
theorem may_calls (m : Int) (h1 : 1 ≤ m) (h2 : m ≤ 16) (w : World) : Calls Tryz.prog 140 #[.int .i64 m] w fun e w' => e = .returned (.bool true) ∧ w = w' := by
  go_enter Tryz.func140, Tryz.ntmps140
  go_wp2_with fail
  go_ret
  exact ⟨rfl, rfl⟩
set_option maxHeartbeats 4000000 in
set_option maxRecDepth 100000 in
theorem check_calls (s : ByteArray) (on : Bool) (m : Int) (h : Ok (s, on, m)) (w : World) : Calls Tryz.prog 155 #[.agg #[.string s, .bool on, .int .i64 m, .slice none 0 0]] w fun e w' => e = .returned (.int .i64 0) ∧ Below w.heap.size w w' := by
  have hN := fun W => Lib.hid (name_calls s h.n1 h.n2 h.c W)
  have hM := fun W => Lib.hid (may_calls m h.m1 h.m2 W)
  clear h
  go_enter Tryz.func155, Tryz.ntmps155
  go_wp2_with fail
  refine ((hN _).out).mono ?_
  rintro e w1 ⟨rfl, hb1⟩
  have hB1 := Lib.hid hb1
  have hc : ∀ i, w1.cell? ⟨w.heap.size, i, none⟩ = (w.alloc (.cells #[.string s, .bool on, .int .i64 m, .slice none 0 0] 71)).cell? ⟨w.heap.size, i, none⟩ := fun i => hb1.cell (p := ⟨w.heap.size, i, none⟩) (by show w.heap.size < _; rw [World.size_alloc]; omega)
  clear hb1
  go_wp2_with fail
  refine ((hM _).out).mono ?_
  rintro e w2 ⟨rfl, rfl⟩
  go_wp2_with fail
  refine wp_loop_rounds 1 ?_
  rw [rounds_succ]
  go_wp2_with fail
  refine wp_loop_rounds 1 ?_
  rw [rounds_succ]
  go_wp2_with fail
  go_ret
  exact ⟨rfl, below_step (below_alloc (Below.refl _ w) _ (Nat.le_refl _)) hB1.out⟩
end Go.Proofs.YtdpfmemcpipbkaaGreatDoor.Hand
end
section
/- names.Right. -/
namespace Go.Proofs.YtdpfmemcpipbkaaGreatDoor.Hand
open Go.RowKit
set_option linter.unusedVariables false
set_option linter.unusedSimpArgs false
/-- A registry that may be. -/
structure Good (l : List Px) : Prop where
  ok : ∀ k, k < l.length → Ok (l.getD k default)
  up : ∀ k, k + 1 < l.length → Op.bytesLess (l.getD k default).1.toList (l.getD (k + 1) default).1.toList = true
  few : l.length ≤ 8
set_option maxHeartbeats 4000000 in
set_option maxRecDepth 100000 in
theorem right_calls (l : List Px) (hg : Good l) (a : Option Addr) (n cap : Nat) (w : World) (h : RegAt w a n cap l) : Calls Tryz.prog 139 #[.slice a n cap] w fun e w' => e = .returned (.bool true) ∧ Below w.heap.size w w' := by
  have hn : n ≤ 8 := by have := hg.few; have := h.len; omega
  have hl := Lib.hid h.len
  go_enter Tryz.func139, Tryz.ntmps139
  go_wp2_with fail
  go_loopw [7] (fun i wr => ∃ k : Nat, k ≤ n ∧ i = .int .i64 k ∧ Below w.heap.size w wr) (fun i _ => n - (intOf i).toNat)
  case atStart => exact ⟨0, Nat.zero_le _, rfl, Below.refl _ _⟩
  case round =>
    obtain ⟨k, hk, rfl, hb⟩ := hrel
    have hB := Lib.hid hb
    have H := Lib.hid (h.below hb)
    by_cases hlt : k < n
    · obtain ⟨g, rfl, c0, c1, c2, c3⟩ := H.out.at k hlt
      obtain ⟨⟨s, on, m⟩, hp⟩ : ∃ p, p = l.getD k default := ⟨_, rfl⟩
      have hok : Ok (s, on, m) := by rw [hp]; exact hg.ok k (by rw [hl.out]; exact hlt)
      simp only [← hp] at c0 c1 c2 c3
      have hck := fun W => Lib.hid (check_calls s on m hok W)
      have HP := Lib.hid hp
      clear hp hok
      have hlg := h.lt rfl
      have hgsz : g < wr.heap.size := Nat.lt_of_lt_of_le hlg hb.size
      clear hb
      by_cases hk0 : k = 0
      · subst hk0
        go_wp2_with fail
        refine start_n (S := fun W => W.cell? ⟨wr.heap.size, 0, none⟩ = some (.string s) ∧ W.cell? ⟨wr.heap.size, 1, none⟩ = some (.bool on) ∧ W.cell? ⟨wr.heap.size, 2, none⟩ = some (.int .i64 m) ∧ W.cell? ⟨wr.heap.size, 3, none⟩ = some (.slice none 0 0)) 18 #[false, false, false, false, false, false, false, false, false, false, false, false, false, false, false, false, false, false] (by kernel_rfl) rfl rfl ?_ (fun hHeld => ?_)
        · (try dsimp only)
          go_keep
        refine take_n 0 (some 12) #[true, false, false, false, false, false, false, false, false, false, false, false, false, false, false, false, false, false] (v := ?_) (a' := ?_) rfl rfl rfl (by kernel_rfl) (by kernel_rfl) (by kernel_rfl) (fun _ _ _ _ h => h) (Or.inl ⟨by rfl, ?_⟩) hHeld ?_ ?_
        rotate_left 2
        · intro w hSw
          (try dsimp only at hSw)
          go_simp
          (with_reducible rfl)
        · simp only [Act.put, List.setIfInBounds_toArray, List.set_cons_zero, List.set_cons_succ]
          rfl
        refine one_n 1 #[true, true, false, false, false, false, false, false, false, false, false, false, false, false, false, false, false, false] rfl rfl (by kernel_rfl) (fun K hK => ?_)
        go_simp
        refine ((hck _).out).mono ?_
        rintro e w1 ⟨rfl, hb1⟩
        have hcc : ∀ i, w1.cell? ⟨wr.heap.size, i, none⟩ = (wr.alloc (.cells #[.string s, .bool on, .int .i64 m, .slice none 0 0] 71)).cell? ⟨wr.heap.size, i, none⟩ := fun i => hb1.cell (p := ⟨wr.heap.size, i, none⟩) (by show wr.heap.size < (wr.alloc _).heap.size; rw [World.size_alloc]; omega)
        have HB1 := Lib.hid hb1
        clear hb1
        refine hK.out _ ?_ _ ?_ ?_ (fun hHeld => ?_)
        rotate_left
        · (try simp only [Act.put, List.setIfInBounds_toArray, List.set_cons_zero, List.set_cons_succ])
          rfl
        · (try dsimp only)
          go_keep
        clear hK K
        refine take_n 2 (some 14) #[true, true, true, false, false, false, false, false, false, false, false, false, false, false, false, false, false, false] (v := ?_) (a' := ?_) rfl rfl rfl (by kernel_rfl) (by kernel_rfl) (by kernel_rfl) (fun _ _ _ _ h => h) (Or.inl ⟨by rfl, ?_⟩) hHeld ?_ ?_
        rotate_left 2
        · intro w hSw
          (try dsimp only at hSw)
          go_simp
          (with_reducible rfl)
        · simp only [Act.put, List.setIfInBounds_toArray, List.set_cons_zero, List.set_cons_succ]
          rfl
        refine take_n 3 (some 15) #[true, true, true, true, false, false, false, false, false, false, false, false, false, false, false, false, false, false] (v := ?_) (a' := ?_) rfl rfl rfl (by kernel_rfl) (by kernel_rfl) (by kernel_rfl) (fun _ _ _ _ h => h) (Or.inl ⟨by rfl, ?_⟩) hHeld ?_ ?_
        rotate_left 2
        · intro w hSw
          (try dsimp only at hSw)
          go_simp
          (with_reducible rfl)
        · simp only [Act.put, List.setIfInBounds_toArray, List.set_cons_zero, List.set_cons_succ]
          rfl
        refine take_n 4 (some 16) #[true, true, true, true, true, false, false, false, false, false, false, false, false, false, false, false, false, false] (v := ?_) (a' := ?_) rfl rfl rfl (by kernel_rfl) (by kernel_rfl) (by kernel_rfl) (fun _ _ _ _ h => h) (Or.inl ⟨by rfl, ?_⟩) hHeld ?_ ?_
        rotate_left 2
        · intro w hSw
          (try dsimp only at hSw)
          go_simp
          (with_reducible rfl)
        · simp only [Act.put, List.setIfInBounds_toArray, List.set_cons_zero, List.set_cons_succ]
          rfl
        refine take_n 5 (some 17) #[true, true, true, true, true, true, false, false, false, false, false, false, false, false, false, false, false, false] (v := ?_) (a' := ?_) rfl rfl rfl (by kernel_rfl) (by kernel_rfl) (by kernel_rfl) (fun _ _ _ _ h => h) (Or.inl ⟨by rfl, ?_⟩) hHeld ?_ ?_
        rotate_left 2
        · intro w hSw
          (try dsimp only at hSw)
          go_simp
          (with_reducible rfl)
        · simp only [Act.put, List.setIfInBounds_toArray, List.set_cons_zero, List.set_cons_succ]
          rfl
        refine take_n 6 (some 18) #[true, true, true, true, true, true, true, false, false, false, false, false, false, false, false, false, false, false] (v := ?_) (a' := ?_) rfl rfl rfl (by kernel_rfl) (by kernel_rfl) (by kernel_rfl) (fun _ _ _ _ h => h) (Or.inl ⟨by rfl, ?_⟩) hHeld ?_ ?_
        rotate_left 2
        · intro w hSw
          (try dsimp only at hSw)
          go_simp
          (with_reducible rfl)
        · simp only [Act.put, List.setIfInBounds_toArray, List.set_cons_zero, List.set_cons_succ]
          rfl
        refine take_n 7 (some 19) #[true, true, true, true, true, true, true, true, false, false, false, false, false, false, false, false, false, false] (v := undef) (a' := ?_) rfl rfl rfl (by kernel_rfl) (by kernel_rfl) (by kernel_rfl) (fun _ _ _ _ h => h) (Or.inr ⟨by rfl, rfl⟩) hHeld ?_ ?_
        rotate_left
        · simp only [Act.put, List.setIfInBounds_toArray, List.set_cons_zero, List.set_cons_succ]
          rfl
        refine take_n 8 (some 20) #[true, true, true, true, true, true, true, true, true, false, false, false, false, false, false, false, false, false] (v := undef) (a' := ?_) rfl rfl rfl (by kernel_rfl) (by kernel_rfl) (by kernel_rfl) (fun _ _ _ _ h => h) (Or.inr ⟨by rfl, rfl⟩) hHeld ?_ ?_
        rotate_left
        · simp only [Act.put, List.setIfInBounds_toArray, List.set_cons_zero, List.set_cons_succ]
          rfl
        refine take_n 9 (some 21) #[true, true, true, true, true, true, true, true, true, true, false, false, false, false, false, false, false, false] (v := undef) (a' := ?_) rfl rfl rfl (by kernel_rfl) (by kernel_rfl) (by kernel_rfl) (fun _ _ _ _ h => h) (Or.inr ⟨by rfl, rfl⟩) hHeld ?_ ?_
        rotate_left
        · simp only [Act.put, List.setIfInBounds_toArray, List.set_cons_zero, List.set_cons_succ]
          rfl
        refine take_n 10 (some 22) #[true, true, true, true, true, true, true, true, true, true, true, false, false, false, false, false, false, false] (v := undef) (a' := ?_) rfl rfl rfl (by kernel_rfl) (by kernel_rfl) (by kernel_rfl) (fun _ _ _ _ h => h) (Or.inr ⟨by rfl, rfl⟩) hHeld ?_ ?_
        rotate_left
        · simp only [Act.put, List.setIfInBounds_toArray, List.set_cons_zero, List.set_cons_succ]
          rfl
        refine take_n 11 (some 23) #[true, true, true, true, true, true, true, true, true, true, true, true, false, false, false, false, false, false] (v := undef) (a' := ?_) rfl rfl rfl (by kernel_rfl) (by kernel_rfl) (by kernel_rfl) (fun _ _ _ _ h => h) (Or.inr ⟨by rfl, rfl⟩) hHeld ?_ ?_
        rotate_left
        · simp only [Act.put, List.setIfInBounds_toArray, List.set_cons_zero, List.set_cons_succ]
          rfl
        refine take_n 12 (some 24) #[true, true, true, true, true, true, true, true, true, true, true, true, true, false, false, false, false, false] (v := undef) (a' := ?_) rfl rfl rfl (by kernel_rfl) (by kernel_rfl) (by kernel_rfl) (fun _ _ _ _ h => h) (Or.inr ⟨by rfl, rfl⟩) hHeld ?_ ?_
        rotate_left
        · simp only [Act.put, List.setIfInBounds_toArray, List.set_cons_zero, List.set_cons_succ]
          rfl
        refine take_n 13 (some 25) #[true, true, true, true, true, true, true, true, true, true, true, true, true, true, false, false, false, false] (v := undef) (a' := ?_) rfl rfl rfl (by kernel_rfl) (by kernel_rfl) (by kernel_rfl) (fun _ _ _ _ h => h) (Or.inr ⟨by rfl, rfl⟩) hHeld ?_ ?_
        rotate_left
        · simp only [Act.put, List.setIfInBounds_toArray, List.set_cons_zero, List.set_cons_succ]
          rfl
        refine take_n 14 (some 26) #[true, true, true, true, true, true, true, true, true, true, true, true, true, true, true, false, false, false] (v := undef) (a' := ?_) rfl rfl rfl (by kernel_rfl) (by kernel_rfl) (by kernel_rfl) (fun _ _ _ _ h => h) (Or.inr ⟨by rfl, rfl⟩) hHeld ?_ ?_
        rotate_left
        · simp only [Act.put, List.setIfInBounds_toArray, List.set_cons_zero, List.set_cons_succ]
          rfl
        refine take_n 15 (some 27) #[true, true, true, true, true, true, true, true, true, true, true, true, true, true, true, true, false, false] (v := undef) (a' := ?_) rfl rfl rfl (by kernel_rfl) (by kernel_rfl) (by kernel_rfl) (fun _ _ _ _ h => h) (Or.inr ⟨by rfl, rfl⟩) hHeld ?_ ?_
        rotate_left
        · simp only [Act.put, List.setIfInBounds_toArray, List.set_cons_zero, List.set_cons_succ]
          rfl
        refine take_n 16 (some 28) #[true, true, true, true, true, true, true, true, true, true, true, true, true, true, true, true, true, false] (v := ?_) (a' := ?_) rfl rfl rfl (by kernel_rfl) (by kernel_rfl) (by kernel_rfl) (fun _ _ _ _ h => h) (Or.inl ⟨by rfl, ?_⟩) hHeld ?_ ?_
        rotate_left 2
        · intro w hSw
          (try dsimp only at hSw)
          go_simp
          (with_reducible rfl)
        · simp only [Act.put, List.setIfInBounds_toArray, List.set_cons_zero, List.set_cons_succ]
          rfl
        refine take_n 17 (some 29) #[true, true, true, true, true, true, true, true, true, true, true, true, true, true, true, true, true, true] (v := ?_) (a' := ?_) rfl rfl rfl (by kernel_rfl) (by kernel_rfl) (by kernel_rfl) (fun _ _ _ _ h => h) (Or.inl ⟨by rfl, ?_⟩) hHeld ?_ ?_
        rotate_left 2
        · intro w hSw
          (try dsimp only at hSw)
          go_simp
          (with_reducible rfl)
        · simp only [Act.put, List.setIfInBounds_toArray, List.set_cons_zero, List.set_cons_succ]
          rfl
        refine wpAnyH_done (by kernel_rfl) ?_ _
        go_wp2_with fail
        exact ⟨⟨1, by omega, rfl, below_step hB.out (below_step ((below_alloc (Below.refl _ _) _ (Nat.le_refl _)).drew) HB1.out)⟩, by simp [intOf]; omega⟩
      · obtain ⟨j, rfl⟩ : ∃ j, k = j + 1 := ⟨k - 1, by omega⟩
        obtain ⟨_, _, d0, _⟩ := H.out.at j (by omega)
        cases ‹some _ = some _›
        have hj : IntKind.i64.wrap (j : Int) = (j : Int) := by rw [IntKind.wrap_i64]; omega
        have hj0 : (0 : Int) ≤ (j : Int) := by omega
        have hj1 : (j : Int) < (n : Int) := by omega
        have hup := hg.up j (by rw [hl.out]; omega)
        rw [← HP.out] at hup
        obtain ⟨s2, hs2⟩ : ∃ s2, s2 = (l.getD j default).1 := ⟨_, rfl⟩
        rw [← hs2] at hup d0
        have HS2 := Lib.hid hs2
        clear hs2
        go_wp2_with fail
        refine start_n (S := fun W => W.cell? ⟨wr.heap.size, 0, none⟩ = some (.string s) ∧ W.cell? ⟨wr.heap.size, 1, none⟩ = some (.bool on) ∧ W.cell? ⟨wr.heap.size, 2, none⟩ = some (.int .i64 m) ∧ W.cell? ⟨wr.heap.size, 3, none⟩ = some (.slice none 0 0) ∧ W.cell? ⟨g, j * 4, none⟩ = some (.string s2)) 18 #[false, false, false, false, false, false, false, false, false, false, false, false, false, false, false, false, false, false] (by kernel_rfl) rfl rfl ?_ (fun hHeld => ?_)
        · (try dsimp only)
          go_keep
        refine take_n 0 (some 12) #[true, false, false, false, false, false, false, false, false, false, false, false, false, false, false, false, false, false] (v := ?_) (a' := ?_) rfl rfl rfl (by kernel_rfl) (by kernel_rfl) (by kernel_rfl) (fun _ _ _ _ h => h) (Or.inl ⟨by rfl, ?_⟩) hHeld ?_ ?_
        rotate_left 2
        · intro w hSw
          (try dsimp only at hSw)
          go_simp
          (with_reducible rfl)
        · simp only [Act.put, List.setIfInBounds_toArray, List.set_cons_zero, List.set_cons_succ]
          rfl
        refine one_n 1 #[true, true, false, false, false, false, false, false, false, false, false, false, false, false, false, false, false, false] rfl rfl (by kernel_rfl) (fun K hK => ?_)
        go_simp
        refine ((hck _).out).mono ?_
        rintro e w1 ⟨rfl, hb1⟩
        have hcc : ∀ i, w1.cell? ⟨wr.heap.size, i, none⟩ = (wr.alloc (.cells #[.string s, .bool on, .int .i64 m, .slice none 0 0] 71)).cell? ⟨wr.heap.size, i, none⟩ := fun i => hb1.cell (p := ⟨wr.heap.size, i, none⟩) (by show wr.heap.size < (wr.alloc _).heap.size; rw [World.size_alloc]; omega)
        have hcg : w1.cell? ⟨g, j * 4, none⟩ = wr.cell? ⟨g, j * 4, none⟩ := (hb1.cell (p := ⟨g, j * 4, none⟩) (by show g < (wr.alloc _).heap.size; rw [World.size_alloc]; omega)).trans (World.cell?_alloc_lt _ _ _ hgsz)
        have HB1 := Lib.hid hb1
        clear hb1
        refine hK.out _ ?_ _ ?_ ?_ (fun hHeld => ?_)
        rotate_left
        · (try simp only [Act.put, List.setIfInBounds_toArray, List.set_cons_zero, List.set_cons_succ])
          rfl
        · (try dsimp only)
          go_keep
        clear hK K
        refine take_n 2 (some 14) #[true, true, true, false, false, false, false, false, false, false, false, false, false, false, false, false, false, false] (v := ?_) (a' := ?_) rfl rfl rfl (by kernel_rfl) (by kernel_rfl) (by kernel_rfl) (fun _ _ _ _ h => h) (Or.inl ⟨by rfl, ?_⟩) hHeld ?_ ?_
        rotate_left 2
        · intro w hSw
          (try dsimp only at hSw)
          go_simp
          (with_reducible rfl)
        · simp only [Act.put, List.setIfInBounds_toArray, List.set_cons_zero, List.set_cons_succ]
          rfl
        refine take_n 3 (some 15) #[true, true, true, true, false, false, false, false, false, false, false, false, false, false, false, false, false, false] (v := ?_) (a' := ?_) rfl rfl rfl (by kernel_rfl) (by kernel_rfl) (by kernel_rfl) (fun _ _ _ _ h => h) (Or.inl ⟨by rfl, ?_⟩) hHeld ?_ ?_
        rotate_left 2
        · intro w hSw
          (try dsimp only at hSw)
          go_simp
          (with_reducible rfl)
        · simp only [Act.put, List.setIfInBounds_toArray, List.set_cons_zero, List.set_cons_succ]
          rfl
        refine take_n 4 (some 16) #[true, true, true, true, true, false, false, false, false, false, false, false, false, false, false, false, false, false] (v := ?_) (a' := ?_) rfl rfl rfl (by kernel_rfl) (by kernel_rfl) (by kernel_rfl) (fun _ _ _ _ h => h) (Or.inl ⟨by rfl, ?_⟩) hHeld ?_ ?_
        rotate_left 2
        · intro w hSw
          (try dsimp only at hSw)
          go_simp
          (with_reducible rfl)
        · simp only [Act.put, List.setIfInBounds_toArray, List.set_cons_zero, List.set_cons_succ]
          rfl
        refine take_n 5 (some 17) #[true, true, true, true, true, true, false, false, false, false, false, false, false, false, false, false, false, false] (v := ?_) (a' := ?_) rfl rfl rfl (by kernel_rfl) (by kernel_rfl) (by kernel_rfl) (fun _ _ _ _ h => h) (Or.inl ⟨by rfl, ?_⟩) hHeld ?_ ?_
        rotate_left 2
        · intro w hSw
          (try dsimp only at hSw)
          go_simp
          (with_reducible rfl)
        · simp only [Act.put, List.setIfInBounds_toArray, List.set_cons_zero, List.set_cons_succ]
          rfl
        refine take_n 6 (some 18) #[true, true, true, true, true, true, true, false, false, false, false, false, false, false, false, false, false, false] (v := ?_) (a' := ?_) rfl rfl rfl (by kernel_rfl) (by kernel_rfl) (by kernel_rfl) (fun _ _ _ _ h => h) (Or.inl ⟨by rfl, ?_⟩) hHeld ?_ ?_
        rotate_left 2
        · intro w hSw
          (try dsimp only at hSw)
          go_simp
          (with_reducible rfl)
        · simp only [Act.put, List.setIfInBounds_toArray, List.set_cons_zero, List.set_cons_succ]
          rfl
        refine take_n 7 (some 19) #[true, true, true, true, true, true, true, true, false, false, false, false, false, false, false, false, false, false] (v := ?_) (a' := ?_) rfl rfl rfl (by kernel_rfl) (by kernel_rfl) (by kernel_rfl) (fun _ _ _ _ h => h) (Or.inl ⟨by rfl, ?_⟩) hHeld ?_ ?_
        rotate_left 2
        · intro w hSw
          (try dsimp only at hSw)
          go_simp
          (with_reducible rfl)
        · simp only [Act.put, List.setIfInBounds_toArray, List.set_cons_zero, List.set_cons_succ]
          rfl
        refine take_n 8 (some 20) #[true, true, true, true, true, true, true, true, true, false, false, false, false, false, false, false, false, false] (v := ?_) (a' := ?_) rfl rfl rfl (by kernel_rfl) (by kernel_rfl) (by kernel_rfl) (fun _ _ _ _ h => h) (Or.inl ⟨by rfl, ?_⟩) hHeld ?_ ?_
        rotate_left 2
        · intro w hSw
          (try dsimp only at hSw)
          go_simp
          (with_reducible rfl)
        · simp only [Act.put, List.setIfInBounds_toArray, List.set_cons_zero, List.set_cons_succ]
          rfl
        refine take_n 9 (some 21) #[true, true, true, true, true, true, true, true, true, true, false, false, false, false, false, false, false, false] (v := ?_) (a' := ?_) rfl rfl rfl (by kernel_rfl) (by kernel_rfl) (by kernel_rfl) (fun _ _ _ _ h => h) (Or.inl ⟨by rfl, ?_⟩) hHeld ?_ ?_
        rotate_left 2
        · intro w hSw
          (try dsimp only at hSw)
          go_simp
          (with_reducible rfl)
        · simp only [Act.put, List.setIfInBounds_toArray, List.set_cons_zero, List.set_cons_succ]
          rfl
        refine take_n 10 (some 22) #[true, true, true, true, true, true, true, true, true, true, true, false, false, false, false, false, false, false] (v := ?_) (a' := ?_) rfl rfl rfl (by kernel_rfl) (by kernel_rfl) (by kernel_rfl) (fun _ _ _ _ h => h) (Or.inl ⟨by rfl, ?_⟩) hHeld ?_ ?_
        rotate_left 2
        · intro w hSw
          (try dsimp only at hSw)
          go_simp
          (with_reducible rfl)
        · simp only [Act.put, List.setIfInBounds_toArray, List.set_cons_zero, List.set_cons_succ]
          rfl
        refine take_n 11 (some 23) #[true, true, true, true, true, true, true, true, true, true, true, true, false, false, false, false, false, false] (v := ?_) (a' := ?_) rfl rfl rfl (by kernel_rfl) (by kernel_rfl) (by kernel_rfl) (fun _ _ _ _ h => h) (Or.inl ⟨by rfl, ?_⟩) hHeld ?_ ?_
        rotate_left 2
        · intro w hSw
          (try dsimp only at hSw)
          go_simp
          (with_reducible rfl)
        · simp only [Act.put, List.setIfInBounds_toArray, List.set_cons_zero, List.set_cons_succ]
          rfl
        refine take_n 12 (some 24) #[true, true, true, true, true, true, true, true, true, true, true, true, true, false, false, false, false, false] (v := ?_) (a' := ?_) rfl rfl rfl (by kernel_rfl) (by kernel_rfl) (by kernel_rfl) (fun _ _ _ _ h => h) (Or.inl ⟨by rfl, ?_⟩) hHeld ?_ ?_
        rotate_left 2
        · intro w hSw
          (try dsimp only at hSw)
          go_simp
          (with_reducible rfl)
        · simp only [Act.put, List.setIfInBounds_toArray, List.set_cons_zero, List.set_cons_succ]
          rfl
        refine take_n 13 (some 25) #[true, true, true, true, true, true, true, true, true, true, true, true, true, true, false, false, false, false] (v := ?_) (a' := ?_) rfl rfl rfl (by kernel_rfl) (by kernel_rfl) (by kernel_rfl) (fun _ _ _ _ h => h) (Or.inl ⟨by rfl, ?_⟩) hHeld ?_ ?_
        rotate_left 2
        · intro w hSw
          (try dsimp only at hSw)
          go_simp
          (with_reducible rfl)
        · simp only [Act.put, List.setIfInBounds_toArray, List.set_cons_zero, List.set_cons_succ]
          rfl
        refine take_n 14 (some 26) #[true, true, true, true, true, true, true, true, true, true, true, true, true, true, true, false, false, false] (v := ?_) (a' := ?_) rfl rfl rfl (by kernel_rfl) (by kernel_rfl) (by kernel_rfl) (fun _ _ _ _ h => h) (Or.inl ⟨by rfl, ?_⟩) hHeld ?_ ?_
        rotate_left 2
        · intro w hSw
          (try dsimp only at hSw)
          go_simp
          (with_reducible rfl)
        · simp only [Act.put, List.setIfInBounds_toArray, List.set_cons_zero, List.set_cons_succ]
          rfl
        refine take_n 15 (some 27) #[true, true, true, true, true, true, true, true, true, true, true, true, true, true, true, true, false, false] (v := ?_) (a' := ?_) rfl rfl rfl (by kernel_rfl) (by kernel_rfl) (by kernel_rfl) (fun _ _ _ _ h => h) (Or.inl ⟨by rfl, ?_⟩) hHeld ?_ ?_
        rotate_left 2
        · intro w hSw
          (try dsimp only at hSw)
          go_simp
          (with_reducible rfl)
        · simp only [Act.put, List.setIfInBounds_toArray, List.set_cons_zero, List.set_cons_succ]
          rfl
        refine take_n 16 (some 28) #[true, true, true, true, true, true, true, true, true, true, true, true, true, true, true, true, true, false] (v := ?_) (a' := ?_) rfl rfl rfl (by kernel_rfl) (by kernel_rfl) (by kernel_rfl) (fun _ _ _ _ h => h) (Or.inl ⟨by rfl, ?_⟩) hHeld ?_ ?_
        rotate_left 2
        · intro w hSw
          (try dsimp only at hSw)
          go_simp
          (with_reducible rfl)
        · simp only [Act.put, List.setIfInBounds_toArray, List.set_cons_zero, List.set_cons_succ]
          rfl
        refine take_n 17 (some 29) #[true, true, true, true, true, true, true, true, true, true, true, true, true, true, true, true, true, true] (v := ?_) (a' := ?_) rfl rfl rfl (by kernel_rfl) (by kernel_rfl) (by kernel_rfl) (fun _ _ _ _ h => h) (Or.inl ⟨by rfl, ?_⟩) hHeld ?_ ?_
        rotate_left 2
        · intro w hSw
          (try dsimp only at hSw)
          go_simp
          (with_reducible rfl)
        · simp only [Act.put, List.setIfInBounds_toArray, List.set_cons_zero, List.set_cons_succ]
          rfl
        refine wpAnyH_done (by kernel_rfl) ?_ _
        go_wp2_with fail
        exact ⟨⟨j + 2, by omega, by go_num, below_step hB.out (below_step ((below_alloc (Below.refl _ _) _ (Nat.le_refl _)).drew) HB1.out)⟩, by simp [intOf]; omega⟩
    · have h8 : (n : Int) ≤ 8 := by omega
      go_wp2_with fail
      go_ret
      exact ⟨rfl, hB.out⟩
end Go.Proofs.YtdpfmemcpipbkaaGreatDoor.Hand
end
section
/- slices.Clone of proxies, of no toxics; names.own. -/
namespace Go.Proofs.YtdpfmemcpipbkaaGreatDoor.Hand
open Go.RowKit
set_option linter.unusedVariables false
set_option linter.unusedSimpArgs false
theorem infoPx : (Tryz.prog.info? 71).map (fun i => (i.zero, i.size, i.bytes)) = some (some (.agg #[.string ⟨#[]⟩, .bool false, .int .i64 0, .slice none 0 0]), 4, 56) := by kernel_rfl
theorem regV_one : ∀ l : List Px, ∀ u ∈ regV l, u.oneCell' = true
  | [], _, h => by cases h
  | p :: l, u, h => by
    simp only [regV, List.mem_cons] at h
    rcases h with rfl | rfl | rfl | rfl | h
    · rfl
    · rfl
    · rfl
    · rfl
    · exact regV_one l u h
set_option maxHeartbeats 4000000 in
set_option maxRecDepth 100000 in
theorem clone_toxics (w : World) : Calls Tryz.prog 109 #[.slice none 0 0] w fun e w' => e = .returned (.slice none 0 0) ∧ w = w' := by
  have q : ∀ (w : World) (a : Option Addr) (n c n' c' : Nat), (binOp .eql 69 (.slice a n c) (.slice none n' c')).run Tryz.prog w = .ok (.bool a.isNone) w := fun w a n c n' c' => Lib.run_eql_slice_nil w _ _ a n c n' c' Tryz.underlying69
  go_enter Tryz.func109, Tryz.ntmps109
  go_wp2_with fail
  go_ret
  exact ⟨rfl, rfl⟩
/-- What a clone tells. -/
def Cloned (w : World) (n : Nat) (l : List Px) (e : Ending) (w' : World) : Prop := ∃ a cap, e = .returned (.slice a n cap) ∧ RegAt w' a n cap l ∧ Fresh w.heap.size a ∧ Below w.heap.size w w'
set_option maxHeartbeats 4000000 in
set_option maxRecDepth 100000 in
theorem clone_calls (l : List Px) (a : Option Addr) (n cap : Nat) (w : World) (h : RegAt w a n cap l) (hn : n ≤ 8) : Calls Tryz.prog 108 #[.slice a n cap] w (Cloned w n l) := by
  have q : ∀ (w : World) (a : Option Addr) (n c n' c' : Nat), (binOp .eql 92 (.slice a n c) (.slice none n' c')).run Tryz.prog w = .ok (.bool a.isNone) w := fun w a n c n' c' => Lib.run_eql_slice_nil w _ _ a n c n' c' Tryz.underlying92
  obtain ⟨i0, hi, hz0, hz1, hz2⟩ := info_parts infoPx
  rcases h.own.2 with ⟨hv, hn0⟩ | ⟨g, cp, cur, hv, _⟩
  · cases hv
    have hl : l = [] := List.eq_nil_of_length_eq_zero h.len
    subst hl
    clear h
    go_enter Tryz.func108, Tryz.ntmps108
    go_wp2_with fail
    go_ret
    exact ⟨none, 0, rfl, RegAt.nil _, (fun g e => by cases e), Below.refl _ _⟩
  · cases hv
    have H := Lib.hid h
    clear h
    go_enter Tryz.func108, Tryz.ntmps108
    go_wp2_with (at_builtin; go_loud (refine wpList_append_own _ rfl _ _ 92 rfl w.heap.size 71 i0 _ 4 56 Tryz.underlying92 hi hz0 hz1 hz2 rfl (by omega) _ _ _ rfl (World.ownsRow_made w #[] 0 (Nat.le_refl _) (Nat.zero_le _) (by simp)) ⟨g, 0, none⟩ n cap (regV l) rfl ?qc1 ?qc2 ?qc3 ?qc4 ?qc5 ?qc6 ?_))
    case qc1 => rw [regV_length, H.out.len]
    case qc2 =>
      intro j u hj
      exact Lib.cell?_alloc_some _ (H.out.own.cells rfl j u hj)
    case qc3 => exact regV_one l
    case qc4 => rw [Nat.zero_add]; simp only [maxLen]; omega
    case qc5 => rw [Nat.zero_add]; omega
    case qc6 => simp
    intro v' w1 hown hgrow hnil
    have hB : Below w.heap.size w w1 := ((Below.refl _ w).alloc (Nat.le_refl _) _).grown hgrow (by simp) (by intro k hk; simp [Value.ownBlock] at hk; omega)
    have HB := Lib.hid hB
    (try simp only [Nat.zero_add, List.nil_append] at hown)
    obtain ⟨a', c', rfl, hfr⟩ : ∃ a' c', v' = .slice a' n c' ∧ Fresh w.heap.size a' := by
      rcases hown.2 with ⟨h1, h2⟩ | ⟨g', cp', cur', h1, h2, _⟩
      · subst h2; exact ⟨none, 0, h1, (fun g e => by cases e)⟩
      · exact ⟨_, _, h1, (fun g e => by cases e; exact h2)⟩
    have HO := Lib.hid hown
    clear hown hgrow hnil hB
    go_wp2_with fail
    go_ret
    exact ⟨a', c', rfl, ⟨ownsRow_base HO.out, H.out.len⟩, hfr, HB.out⟩
set_option maxHeartbeats 4000000 in
set_option maxRecDepth 100000 in
theorem own_calls (l : List Px) (a : Option Addr) (n cap : Nat) (w : World) (h : RegAt w a n cap l) (hn : n ≤ 8) : Calls Tryz.prog 62 #[.slice a n cap] w (Cloned w n l) := by
  have hC := Lib.hid (clone_calls l a n cap w h hn)
  clear h
  go_enter Tryz.func62, Tryz.ntmps62
  go_wp2_with fail
  refine hC.out.mono ?_
  rintro e w1 ⟨a1, p1, rfl, hr, hf, hb⟩
  have HB := Lib.hid hb
  have HR := Lib.hid hr
  have HF := Lib.hid hf
  clear hb hr hf
  go_wp2_with fail
  go_loopw [10] (fun i wr => ∃ k : Nat, k ≤ n ∧ i = .int .i64 k ∧ Below w1.heap.size w1 wr) (fun i _ => n - (intOf i).toNat)
  case atStart => exact ⟨0, Nat.zero_le _, rfl, Below.refl _ _⟩
  case round =>
    obtain ⟨k, hk, rfl, hb⟩ := hrel
    have hB := Lib.hid hb
    have H := Lib.hid (HR.out.below hb)
    by_cases hlt : k < n
    · obtain ⟨g, rfl, c0, c1, c2, c3⟩ := H.out.at k hlt
      obtain ⟨⟨s, on, m⟩, hp⟩ : ∃ p, p = l.getD k default := ⟨_, rfl⟩
      simp only [← hp] at c0 c1 c2 c3
      have HP := Lib.hid hp
      clear hp
      have hgsz : g < wr.heap.size := H.out.lt rfl
      have hfz := H.out.frozen rfl (k * 4 + 3)
      clear hb
      have HS := Lib.hid (setCell_id c3)
      go_wp2_with fail
      refine (clone_toxics _).mono ?_
      rintro e w2 ⟨rfl, rfl⟩
      go_wp2_with fail
      rw [HS.out]
      exact ⟨⟨k + 1, by omega, by go_num, below_alloc hB.out _ (Nat.le_refl _)⟩, by simp [intOf]; omega⟩
    · go_wp2_with fail
      go_ret
      exact ⟨_, _, rfl, HR.out.below hB.out, HF.out, below_step HB.out hB.out⟩
end Go.Proofs.YtdpfmemcpipbkaaGreatDoor.Hand
end
