/- The statement LebReadsSaid: the law tells true for every input; no condition. -/
import Derived.Test.YteencbkopkpelaaRows
import Derived.Test.YteencbkopkpelaaLebOpen
import Derived.Test.YteencbkopkpelaaLebOps
import Derived.Test.YteencbkopkpelaaLeb9
import Derived.WalkKit
import Derived.ProofKit
import Derived.OpenShut
import Derived.ShutString
import Derived.ChangeOld
import Derived.Below
import Derived.SizedLaws
import Derived.Test.YteencbkopkpelaaWSized
namespace Go.Proofs.Yteencbkopkpelaa.lebReads
open Go.ChangeShapes Go.WideShapes Go.ChangeAt Go.RowKit
open Go.ChangeMaps (open_string shut_string)
set_option linter.unusedVariables false
theorem own : ownKnob Try.prog.godebug = none := by kernel_rfl
theorem laidOut : laidOutB Try.prog = true := by kernel_rfl
theorem walk (w : World) (A0 : Option Addr) (c0 : Nat) (l0 : List Int) (A1 : Option Addr) (c1 : Nat) (l1 : List (Int × Int)) (w0 : Go.Proofs.YteencbkopkpelaaW.PrintWords.Kd.C (Go.Proofs.YteencbkopkpelaaW.PrintWords.Kd.int .u8) w A0 l0.length l0) (y0 : l0.length ≤ c0) (z0 : ∀ x ∈ l0, (Lit.int .u8 x).wf = true) (s0 : l0.length * 1 ≤ 140737488351232) (w1 : Hand.OpsC w A1 l1) (y1 : l1.length ≤ c1) :
    Calls Try.prog 3 #[.slice A0 l0.length c0, .slice A1 l1.length c1] w fun e w' => e = .returned (.bool true) ∧ Below w.heap.size w w' := by
  have hb : Hand.Bytes l0 := fun x hx => Hand.wf_byte (z0 x hx)
  by_cases h : 1000 < l0.length ∨ 200 < l1.length
  · exact Hand.reads_long A0 c0 l0 A1 c1 l1 w h (by omega) w1.1
  · exact Hand.reads_short A0 c0 l0 A1 c1 l1 w (by omega) (by omega) w0 y0 hb w1
set_option maxRecDepth 100000 in
theorem lifted (os : Os) (started : os.Started) (H : Type) (enc : TypeId × Value → H) :
    ReturnsInHanded {} Try.checked os 3 .any (Rows.lebReadsSpec.pre6 enc Try.prog Try.f3 Rows.lebReadsRow.domain false) (Rows.lebReadsSpec.post enc Try.prog Try.f3 false true false false) := by
  refine returnsInHanded_of_change_sized (C := Try.checked) own started (by kernel_rfl) Try.func3
    (ChangeSpec.witness6 (enc := enc) (C := Try.checked) false ⟨#[], #[.slice none 0 0, .slice none 0 0], []⟩ 8 (by kernel_rfl) (by kernel_rfl) (by kernel_rfl) (by kernel_rfl)) ?_
  intro W base args ds gs before hval0 hW hcnd hsz0 _
  have hsz : (DataW.weightsEach Try.prog (Try.f3.params.toList ++ Rows.lebReadsSpec.plain.varTypes Try.prog) (ds ++ gs)).all (· ≤ reachBytes) = true := hsz0
  have hval : ∀ (j : Nat) t v, Try.f3.params[j]? = some t → args[j]? = some v → Value.okWide Try.prog W .any base t v := hval0
  have hW' := hW
  obtain ⟨p, q, hA0, hV, rfl, hfz, hnd⟩ := hW
  have hA : DataW.TrodAll enc Try.prog W 0 (fun _ => true) true Try.f3.params.toList args.toList ds p := hA0
  rw [Try.params3] at hA hval hsz
  obtain ⟨v0, vs0, d0, ds0, p0, q0, hargs, rfl, rfl, h0, r0⟩ := trodAll_cons hA
  obtain ⟨v1, vs1, d1, ds1, p1, q1, rfl, rfl, rfl, h1, r1⟩ := trodAll_cons r0
  obtain ⟨rfl, rfl, rfl⟩ := trodAll_nil r1
  obtain rfl : args = #[v0, v1] := by cases args; simp_all
  obtain ⟨rfl, rfl⟩ := trodVars_none hV
  obtain ⟨A0, len0, c0, rfl⟩ := okWide_slice Try.underlying22 (hval 0 22 v0 rfl rfl)
  have k0 := h0
  have lt0 : ∀ x ∈ p0, x.block < W.heap.size := by obtain ⟨m, hm⟩ := k0; exact DataW.trod_lt m _ _ _ hm
  obtain ⟨l0, hl0, y0, w0, z0⟩ := Hand.open_intsC Try.underlying22 Try.underlying5 (by kernel_rfl) h0
  have s0 : len0 * 1 ≤ 140737488351232 := Go.Proofs.YteencbkopkpelaaW.PrintWords.sized_ints hsz (j := 0) (t := 22) rfl rfl Try.underlying22 Try.underlying5 (by kernel_rfl) (by kernel_rfl) h0
  subst hl0
  obtain ⟨A1, len1, c1, rfl⟩ := okWide_slice Try.underlying23 (hval 1 23 v1 rfl rfl)
  have k1 := h1
  have lt1 : ∀ x ∈ p1, x.block < W.heap.size := by obtain ⟨m, hm⟩ := k1; exact DataW.trod_lt m _ _ _ hm
  obtain ⟨l1, hl1, y1, w1⟩ := Hand.open_opsC h1
  subst hl1
  clear hA0 hval0 hsz0 hsz
  refine (walk W A0 c0 l0 A1 c1 l1 w0 y0 z0 s0 w1 y1).mono fun e W' ⟨he, bel⟩ => ?_
  subst he
  exact ⟨_, rfl, _, _, _, [], _, [], hW', trodAll_mk1 (shut_bool Try.underlying4 _), (trodAll_cons_mk (Below.trod laidOut (by kernel_rfl) (of_decide_eq_true (by kernel_rfl)) k0 bel lt0) (trodAll_cons_mk (Below.trod laidOut (by kernel_rfl) (of_decide_eq_true (by kernel_rfl)) k1 bel lt1) trodAll_mk0)), rfl, bel.frame _, fun h => by cases h⟩
theorem over : Rows.lebReadsRow.holds Try.pinned (OpenSpec.ofChange Rows.lebReadsSpec) :=
  OpenClaim.holds_of_wide 3 Try.f3 rfl rfl rfl rfl rfl rfl rfl ⟨rfl, rfl, rfl, rfl, rfl⟩ rfl rfl rfl rfl rfl (by kernel_rfl) Try.func3 (by kernel_rfl)
    (of_decide_eq_true (by kernel_rfl)) (by unfold Func.isWrapper; first | (rw [if_pos (by decide +kernel)]; kernel_rfl) | (rw [if_neg (by decide +kernel)]; exact ⟨rfl, rfl⟩))
    (fun os started H enc _ => lifted os started H enc)
theorem proved : Rows.LebReadsSaid := over
#print axioms proved
end Go.Proofs.Yteencbkopkpelaa.lebReads
namespace Go.Proofs.Yteencbkopkpelaa
/-- The row, under a short name, for the claim. -/
theorem lebReads_holds : Rows.LebReadsSaid := lebReads.proved
end Go.Proofs.Yteencbkopkpelaa
