/- Small lemmas on rows of bytes in memory, over the words of the print. No condition beyond the hypotheses. -/
import Derived.Test.YteencbkopkpelaaWMore
import Derived.Test.YteencbkopkpelaaWNEv
import Derived.Lib.SlBytesConst
import Derived.WalkSpells
namespace Go.Proofs.Yteencbkopkpelaa.Hand
open Go.RowKit Go.Proofs.YteencbkopkpelaaW.PrintWords Go.Proofs.YteencbkopkpelaaW.PrintLast Go.Proofs.YteencbkopkpelaaW.PrintMore
set_option linter.unusedVariables false
set_option linter.unusedSimpArgs false

/-- A block that was just made (whatever its mark) reads as what was put in. -/
theorem C_new {w : World} {g : Nat} (hg : g = w.heap.size) (cs : Array Value) (e : TypeId) (r : Nat × Nat) {k : IntKind} (xs : List Int) (h : cs.toList = xs.map (Value.int k)) (hl : xs.length ≤ 9223372036854775807) :
    (Kd.int k).C (w.alloc (.cells cs e r)) (some ⟨g, 0, none⟩) xs.length xs := by
  subst hg
  refine ⟨rfl, hl, fun hp => ⟨_, rfl, fun j p hj => ⟨[.int k p], rfl, rfl, fun i u hi => ?_⟩⟩⟩
  have h1 : cs[j]? = some (.int k p) := by
    rw [← Array.getElem?_toList, h, List.getElem?_map, hj]; rfl
  cases i with
  | zero =>
    simp at hi
    subst hi
    show (w.alloc (Obj.cells cs e r)).cell? ((⟨w.heap.size, 0, none⟩ : Addr).add (j * 1 + 0)) = some (Value.int k p)
    rw [Nat.add_zero, Nat.mul_one, add_plain]
    have hb : (w.alloc (Obj.cells cs e r)).heap[w.heap.size]? = some (.cells cs e r) := by
      show (w.heap.push _)[w.heap.size]? = _
      simp
    rw [cell_of_row _ _ _ _ _ _ hb, h1]
  | succ i => simp at hi
/-- The same behind another new block. -/
theorem conv_const_next {P : Program} (w : World) (o : Obj) (t e : TypeId) (C : Array Value) (n c : Nat) (ht : P.underlying t = some (.slice e)) (he : P.underlying e = some (.int .u8)) :
    (convert t t (.slice (some ⟨w.heap.size + 1, 0, none⟩) n c)).run P ((w.alloc o).alloc (.cells C e)) = .ok (.slice (some ⟨w.heap.size + 1, 0, none⟩) n c) ((w.alloc o).alloc (.cells C e (C.size, C.size + 1))) := by
  have h := Lib.run_convert_bytes_const (P := P) (w.alloc o) t e C n c ht he
  have hs : (w.alloc o).heap.size = w.heap.size + 1 := by show (w.heap.push o).size = _; simp
  rw [hs] at h
  exact h
theorem size_alloc (w : World) (o : Obj) : (w.alloc o).heap.size = w.heap.size + 1 := by show (w.heap.push o).size = _; simp
/-- Two rows of a new slice of rows. -/
theorem C_two {w : World} {g e e' : Nat} {k : IntKind} {a b : Addr} {xs ys : List Int} {c d : Nat} {r : Nat × Nat} (hg : g = w.heap.size) (hx : (Kd.int k).C w (some a) xs.length xs) (hy : (Kd.int k).C w (some b) ys.length ys) (hc : xs.length ≤ c) (hd : ys.length ≤ d) :
    (Kd.slice e (Kd.int k)).C (w.alloc (.cells #[.slice (some a) xs.length c, .slice (some b) ys.length d] e' r)) (some ⟨g, 0, none⟩) [xs, ys].length [xs, ys] := by
  subst hg
  have hb : (w.alloc (Obj.cells #[.slice (some a) xs.length c, .slice (some b) ys.length d] e' r)).heap[w.heap.size]? = some (.cells #[.slice (some a) xs.length c, .slice (some b) ys.length d] e' r) := by
    show (w.heap.push _)[w.heap.size]? = _
    simp
  have hx' := Kd.C_alloc hx (Obj.cells #[.slice (some a) xs.length c, .slice (some b) ys.length d] e' r)
  have hy' := Kd.C_alloc hy (Obj.cells #[.slice (some a) xs.length c, .slice (some b) ys.length d] e' r)
  refine ⟨rfl, by simp, fun hp => ⟨_, rfl, fun j p hj => ?_⟩⟩
  have key : ∀ j v, (#[Value.slice (some a) xs.length c, .slice (some b) ys.length d])[j]? = some v → (w.alloc (Obj.cells #[.slice (some a) xs.length c, .slice (some b) ys.length d] e' r)).cell? ((⟨w.heap.size, 0, none⟩ : Addr).add (j * 1 + 0)) = some v := by
    intro j v hv
    rw [Nat.add_zero, Nat.mul_one, add_plain, cell_of_row _ _ _ _ _ _ hb, hv]
  rcases j with _ | _ | j
  · simp at hj
    subst hj
    refine ⟨[.slice (some a) xs.length c], rfl, ⟨_, _, rfl, hc, hx'⟩, fun i u hi => ?_⟩
    rcases i with _ | i
    · simp at hi
      subst hi
      exact key 0 _ rfl
    · simp at hi
  · simp at hj
    subst hj
    refine ⟨[.slice (some b) ys.length d], rfl, ⟨_, _, rfl, hd, hy'⟩, fun i u hi => ?_⟩
    rcases i with _ | i
    · simp at hi
      subst hi
      exact key 1 _ rfl
    · simp at hi
  · simp at hj
end Go.Proofs.Yteencbkopkpelaa.Hand
