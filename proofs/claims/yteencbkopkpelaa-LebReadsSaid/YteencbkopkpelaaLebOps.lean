/- A script of a reader's calls that comes in: its cells. -/
import Derived.Test.YteencbkopkpelaaLeb8
import Derived.Deep.Slices
import Derived.Deep.Fields
import Derived.ChangeSame
namespace Go.Proofs.Yteencbkopkpelaa.Hand
open Go.RowKit Go.Proofs.YteencbkopkpelaaW.PrintWords Go.ChangeShapes Go.WideShapes Go.Deep
set_option linter.unusedVariables false
section
variable {H : Type} {enc : TypeId × Value → H} {w : World} {base : Nat} {spare : Nat → Bool} {held : Bool}
theorem cells_op : Try.prog.cellsOf 30 = 2 := by kernel_rfl
theorem open_op {fuel : Nat} {cs : List Value} {y : DataW H × List MemPlace} (hl : cs.length = 2) (h : DataW.trod enc Try.prog w base spare held fuel 30 cs = some y) :
    ∃ o : Int × Int, cs = [.int .i64 o.1, .int .i64 o.2] := by
  obtain ⟨ys, n, hn, hy, hlen, hyl, hf⟩ := DataW.trod_struct Try.underlying30 h
  match cs, hl, ys, hyl with
  | [c0, c1], _, [y0, y1], _ =>
    have e3 : Try.prog.cellsOf 3 = 1 := by kernel_rfl
    have h0 := hf 0 _ rfl
    have h1 := hf 1 _ rfl
    simp [e3] at h0
    simp [e3] at h1
    obtain ⟨n0, q0, x0, _⟩ := DataW.trod_int Try.underlying3 h0
    obtain ⟨n1, q1, x1, _⟩ := DataW.trod_int Try.underlying3 h1
    simp at q0 q1
    subst q0 q1
    exact ⟨(n0, n1), rfl⟩
theorem add_one (a : Addr) (i : Nat) : a.add (i + 1) = ⟨(a.add i).block, (a.add i).off + 1, none⟩ := by
  rw [← Go.Deep.add_add]
  rfl
theorem open_opsC {A : Option Addr} {n c : Nat} {d : DataW H} {p : List MemPlace} (h : DataW.Trod enc Try.prog w base spare held 23 (.slice A n c) d p) :
    ∃ l : List (Int × Int), l.length = n ∧ n ≤ c ∧ OpsC w A l := by
  obtain ⟨fuel, h⟩ := h
  rcases open_slice Try.underlying23 h with ⟨hcs, hx⟩ | ⟨a, len, cap, m, n', D, Pl, hcs, hb, hl, hm, hmm, hx, hi⟩
  · simp [Value.cells] at hcs
    obtain ⟨rfl, rfl, rfl⟩ := hcs
    exact ⟨[], rfl, Nat.le_refl _, by decide, fun h => absurd h (Nat.lt_irrefl 0)⟩
  · simp [Value.cells] at hcs
    obtain ⟨rfl, rfl, rfl⟩ := hcs
    have hlm : n ≤ m := by rw [hmm]; split <;> omega
    rw [cells_op] at hi
    have key : ∀ i, i < n → ∃ o : Int × Int, w.cell? (a.add (i * 2)) = some (.int .i64 o.1) ∧ w.cell? ⟨(a.add (i * 2)).block, (a.add (i * 2)).off + 1, none⟩ = some (.int .i64 o.2) := by
      intro i hin
      obtain ⟨cs', hc, ht'⟩ := hi i (by omega)
      obtain ⟨_, hcl, hat⟩ := World.cells?_some hc
      obtain ⟨o, rfl⟩ := open_op hcl ht'
      refine ⟨o, ?_, ?_⟩
      · have := hat 0 (by decide)
        rw [Go.Deep.add_add] at this
        exact this
      · rw [← add_one]
        have := hat 1 (by decide)
        rw [Go.Deep.add_add] at this
        exact this
    refine ⟨(List.range n).map fun i => if hin : i < n then (key i hin).choose else (0, 0), by simp, hl, by simp; unfold maxLen at hm; omega, fun h0 => ⟨a, rfl, fun j p hj => ?_⟩⟩
    have hjn : j < n := by have := (List.getElem?_eq_some_iff.1 hj).1; simpa using this
    have hp : (key j hjn).choose = p := by
      rw [List.getElem?_map, List.getElem?_range hjn] at hj
      simpa [hjn] using hj
    rw [← hp]
    exact (key j hjn).choose_spec
end
end Go.Proofs.Yteencbkopkpelaa.Hand
