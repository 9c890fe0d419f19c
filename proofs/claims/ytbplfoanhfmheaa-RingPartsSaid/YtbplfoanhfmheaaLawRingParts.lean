/- The statement RingPartsSaid: the law tells true for every input; no condition. -/
import Derived.Test.YtbplfoanhfmheaaRows
import Derived.Test.YtbplfoanhfmheaaRing21
import Derived.Test.YtbplfoanhfmheaaRing22
import Derived.WalkKit
import Derived.ProofKit
import Derived.OpenShut
import Derived.ShutString
import Derived.ChangeOld
import Derived.Below
import Derived.SizedLaws
import Derived.Test.YtbplfoanhfmheaaWSized
namespace Go.Proofs.Ytbplfoanhfmheaa.ringParts
open Go.ChangeShapes Go.WideShapes Go.ChangeAt Go.RowKit
open Go.ChangeMaps (open_string shut_string)
set_option linter.unusedVariables false
theorem own : ownKnob Try.prog.godebug = none := by kernel_rfl
theorem laidOut : laidOutB Try.prog = true := by kernel_rfl
open Go.Proofs.YtbplfoanhfmheaaW.PrintWords in
theorem walk (w : World) (a0 : Int) (a1 : ByteArray) (x2 y2 : Int) (w0 : (Lit.int .i64 a0).wf = true) (w1 : a1.size ≤ 140737488351232) (wx2 : (Lit.int .i64 x2).wf = true) (wy2 : (Lit.int .i64 y2).wf = true) :
    Calls Try.prog 4 #[.int .i64 a0, .string a1, .agg #[.int .i64 x2, .int .i64 y2]] w fun e w' => e = .returned (.bool true) ∧ Below w.heap.size w w' := by
  by_cases h : a0 < 0 ∨ 4096 < a0
  · exact Hand.parts_bad a0 x2 y2 a1 w h
  · obtain ⟨rm, rfl⟩ : ∃ rm : Nat, a0 = rm := ⟨a0.toNat, by omega⟩
    by_cases h2 : 5000 < a1.size ∨ x2 < 0 ∨ (a1.size : Int) < x2 ∨ y2 < 0
    · exact Hand.parts_skip rm (by omega) x2 y2 a1 (by omega) w h2
    · obtain ⟨c0, rfl⟩ : ∃ c : Nat, x2 = c := ⟨x2.toNat, by omega⟩
      obtain ⟨c1, rfl⟩ : ∃ c : Nat, y2 = c := ⟨y2.toNat, by omega⟩
      exact Hand.parts_few rm (by omega) c0 c1 a1 (by omega) (by omega) w
set_option maxRecDepth 100000 in
theorem lifted (os : Os) (started : os.Started) (H : Type) (enc : TypeId × Value → H) :
    ReturnsInHanded {} Try.checked os 4 .any (Rows.ringPartsSpec.pre6 enc Try.prog Try.f4 Rows.ringPartsRow.domain false) (Rows.ringPartsSpec.post enc Try.prog Try.f4 false true false false) := by
  refine returnsInHanded_of_change_sized (C := Try.checked) own started (by kernel_rfl) Try.func4
    (ChangeSpec.witness6 (enc := enc) (C := Try.checked) false ⟨#[], #[.int .i64 0, .string ByteArray.empty, .agg #[.int .i64 0, .int .i64 0]], []⟩ 8 (by kernel_rfl) (by kernel_rfl) (by kernel_rfl) (by kernel_rfl)) ?_
  intro W base args ds gs before hval0 hW hcnd hsz0 _
  have hsz : (DataW.weightsEach Try.prog (Try.f4.params.toList ++ Rows.ringPartsSpec.plain.varTypes Try.prog) (ds ++ gs)).all (· ≤ reachBytes) = true := hsz0
  have hval : ∀ (j : Nat) t v, Try.f4.params[j]? = some t → args[j]? = some v → Value.okWide Try.prog W .any base t v := hval0
  have hW' := hW
  obtain ⟨p, q, hA0, hV, rfl, hfz, hnd⟩ := hW
  have hA : DataW.TrodAll enc Try.prog W 0 (fun _ => true) true Try.f4.params.toList args.toList ds p := hA0
  rw [Try.params4] at hA hval hsz
  obtain ⟨v0, vs0, d0, ds0, p0, q0, hargs, rfl, rfl, h0, r0⟩ := trodAll_cons hA
  obtain ⟨v1, vs1, d1, ds1, p1, q1, rfl, rfl, rfl, h1, r1⟩ := trodAll_cons r0
  obtain ⟨v2, vs2, d2, ds2, p2, q2, rfl, rfl, rfl, h2, r2⟩ := trodAll_cons r1
  obtain ⟨rfl, rfl, rfl⟩ := trodAll_nil r2
  obtain rfl : args = #[v0, v1, v2] := by cases args; simp_all
  obtain ⟨rfl, rfl⟩ := trodVars_none hV
  obtain ⟨a0, rfl, rfl, rfl, w0⟩ := open_int Try.underlying3 (hval 0 3 v0 rfl rfl) h0
  obtain ⟨a1, rfl, rfl, rfl, y1⟩ := open_string Try.underlying9 (hval 1 9 v1 rfl rfl) h1
  have w1 : a1.size ≤ 140737488351232 := by
    have z := sized_string hsz (j := 1) (t := 9) rfl rfl
    rw [Array.length_toList] at z
    exact z
  have k2 := h2
  have lt2 : ∀ x ∈ p2, x.block < W.heap.size := by obtain ⟨m, hm⟩ := k2; exact DataW.trod_lt m _ _ _ hm
  obtain ⟨x2, y2, rfl, wx2, wy2⟩ := Hand.open_arr2 (hval 2 37 v2 rfl rfl) h2
  clear hA0 hval0 hsz0 hsz
  refine (walk W a0 a1 x2 y2 w0 w1 wx2 wy2).mono fun e W' ⟨he, bel⟩ => ?_
  subst he
  exact ⟨_, rfl, _, _, _, [], _, [], hW', trodAll_mk1 (shut_bool Try.underlying4 _), (trodAll_cons_mk (shut_int Try.underlying3 w0) (trodAll_cons_mk (shut_string Try.underlying9 y1) (trodAll_cons_mk (Below.trod laidOut (by kernel_rfl) (of_decide_eq_true (by kernel_rfl)) k2 bel lt2) trodAll_mk0))), rfl, bel.frame _, fun h => by cases h⟩
theorem over : Rows.ringPartsRow.holds Try.pinned (OpenSpec.ofChange Rows.ringPartsSpec) :=
  OpenClaim.holds_of_wide 4 Try.f4 rfl rfl rfl rfl rfl rfl rfl ⟨rfl, rfl, rfl, rfl, rfl⟩ rfl rfl rfl rfl rfl (by kernel_rfl) Try.func4 (by kernel_rfl)
    (of_decide_eq_true (by kernel_rfl)) (by unfold Func.isWrapper; first | (rw [if_pos (by decide +kernel)]; kernel_rfl) | (rw [if_neg (by decide +kernel)]; exact ⟨rfl, rfl⟩))
    (fun os started H enc _ => lifted os started H enc)
theorem proved : Rows.RingPartsSaid := over
#print axioms proved
end Go.Proofs.Ytbplfoanhfmheaa.ringParts
namespace Go.Proofs.Ytbplfoanhfmheaa
/-- The row, under a short name, for the claim. -/
theorem ringParts_holds : Rows.RingPartsSaid := ringParts.proved
end Go.Proofs.Ytbplfoanhfmheaa
