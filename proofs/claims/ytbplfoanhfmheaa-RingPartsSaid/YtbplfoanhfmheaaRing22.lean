/- An array of two numbers that comes in. -/
import Derived.Test.YtbplfoanhfmheaaProg
import Derived.OpenShut
import Derived.WideShapes
import Derived.ChangeSame
namespace Go.Proofs.Ytbplfoanhfmheaa.Hand
open Go.ChangeShapes Go.WideShapes
theorem open_arr2 {H : Type} {enc : TypeId × Value → H} {w : World} {r : Reach} {b0 base : Nat} {spare : Nat → Bool} {held : Bool} {v : Value} {d : DataW H} {p : List MemPlace} (hv : Value.okWide Try.prog w r b0 37 v) (h : DataW.Trod enc Try.prog w base spare held 37 v d p) :
    ∃ x y : Int, v = .agg #[.int .i64 x, .int .i64 y] ∧ (Lit.int .i64 x).wf = true ∧ (Lit.int .i64 y).wf = true := by
  have hc : Try.prog.cellsOf 37 = 2 := by kernel_rfl
  have e3 : Try.prog.cellsOf 3 = 1 := by kernel_rfl
  simp only [Value.okWide, Try.underlying37] at hv
  obtain ⟨cs, rfl, hz, _⟩ := hv
  rw [hc] at hz
  obtain ⟨l⟩ := cs
  match l, hz with
  | [c0, c1], _ =>
    obtain ⟨fuel, hf⟩ := h
    obtain ⟨xs, m, _, _, _, hl, hi⟩ := DataW.trod_array Try.underlying37 hf
    match xs, hl with
    | [y0, y1], _ =>
      have h0 := hi 0 (by omega)
      have h1 := hi 1 (by omega)
      simp [e3, Value.cells] at h0 h1
      obtain ⟨n0, q0, x0, w0⟩ := DataW.trod_int Try.underlying3 h0
      obtain ⟨n1, q1, x1, w1⟩ := DataW.trod_int Try.underlying3 h1
      simp at q0 q1
      subst q0 q1
      exact ⟨n0, n1, rfl, w0, w1⟩
end Go.Proofs.Ytbplfoanhfmheaa.Hand
