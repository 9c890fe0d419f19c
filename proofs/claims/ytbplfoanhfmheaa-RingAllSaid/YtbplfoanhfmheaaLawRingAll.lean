/- The statement RingAllSaid: the law tells true for every input; no condition. -/
import Derived.Test.YtbplfoanhfmheaaRows
import Derived.Test.YtbplfoanhfmheaaRing14
import Derived.Test.YtbplfoanhfmheaaRing18
import Derived.WalkKit
import Derived.ProofKit
import Derived.OpenShut
import Derived.ShutString
import Derived.ChangeOld
import Derived.Below
import Derived.SizedLaws
import Derived.Test.YtbplfoanhfmheaaWSized
namespace Go.Proofs.Ytbplfoanhfmheaa.ringAll
open Go.ChangeShapes Go.WideShapes Go.ChangeAt Go.RowKit
open Go.ChangeMaps (open_string shut_string)
set_option linter.unusedVariables false
theorem own : ownKnob Try.prog.godebug = none := by kernel_rfl
theorem laidOut : laidOutB Try.prog = true := by kernel_rfl
open Go.Proofs.YtbplfoanhfmheaaW.PrintWords in
theorem walk (w : World) (a0 : Int) (A1 : Option Addr) (c1 : Nat) (l1 : List PRingKeeps.S30) (w0 : (Lit.int .i64 a0).wf = true) (w1 : Go.Proofs.YtbplfoanhfmheaaW.PrintWords.Kd.C PRingKeeps.k30 w A1 l1.length l1) (y1 : l1.length ≤ c1) (z1 : ∀ o ∈ l1, o.f2.size ≤ 140737488355328) :
    Calls Try.prog 8 #[.int .i64 a0, .slice A1 l1.length c1] w fun e w' => e = .returned (.bool true) ∧ Below w.heap.size w w' := by
  cases hf : Hand.fewB l1 with
  | false => exact Hand.all_many a0 A1 c1 l1 w w1 y1 z1 hf
  | true =>
    by_cases h : a0 < 0 ∨ 4096 < a0
    · exact Hand.all_bad a0 A1 c1 l1 w h w1 y1 z1 hf
    · obtain ⟨rm, rfl⟩ : ∃ rm : Nat, a0 = rm := ⟨a0.toNat, by omega⟩
      exact Hand.all_few rm (by omega) A1 c1 l1 w w1 y1 z1 hf
set_option maxRecDepth 100000 in
theorem lifted (os : Os) (started : os.Started) (H : Type) (enc : TypeId × Value → H) :
    ReturnsInHanded {} Try.checked os 8 .any (Rows.ringAllSpec.pre6 enc Try.prog Try.f8 Rows.ringAllRow.domain false) (Rows.ringAllSpec.post enc Try.prog Try.f8 false true false false) := by
  refine returnsInHanded_of_change_sized (C := Try.checked) own started (by kernel_rfl) Try.func8
    (ChangeSpec.witness6 (enc := enc) (C := Try.checked) false ⟨#[], #[.int .i64 0, .slice none 0 0], []⟩ 8 (by kernel_rfl) (by kernel_rfl) (by kernel_rfl) (by kernel_rfl)) ?_
  intro W base args ds gs before hval0 hW hcnd hsz0 _
  have hsz : (DataW.weightsEach Try.prog (Try.f8.params.toList ++ Rows.ringAllSpec.plain.varTypes Try.prog) (ds ++ gs)).all (· ≤ reachBytes) = true := hsz0
  have hval : ∀ (j : Nat) t v, Try.f8.params[j]? = some t → args[j]? = some v → Value.okWide Try.prog W .any base t v := hval0
  have hW' := hW
  obtain ⟨p, q, hA0, hV, rfl, hfz, hnd⟩ := hW
  have hA : DataW.TrodAll enc Try.prog W 0 (fun _ => true) true Try.f8.params.toList args.toList ds p := hA0
  rw [Try.params8] at hA hval hsz
  obtain ⟨v0, vs0, d0, ds0, p0, q0, hargs, rfl, rfl, h0, r0⟩ := trodAll_cons hA
  obtain ⟨v1, vs1, d1, ds1, p1, q1, rfl, rfl, rfl, h1, r1⟩ := trodAll_cons r0
  obtain ⟨rfl, rfl, rfl⟩ := trodAll_nil r1
  obtain rfl : args = #[v0, v1] := by cases args; simp_all
  obtain ⟨rfl, rfl⟩ := trodVars_none hV
  obtain ⟨a0, rfl, rfl, rfl, w0⟩ := open_int Try.underlying3 (hval 0 3 v0 rfl rfl) h0
  obtain ⟨A1, len1, c1, rfl⟩ := okWide_slice Try.underlying22 (hval 1 22 v1 rfl rfl)
  have k1 := h1
  have lt1 : ∀ x ∈ p1, x.block < W.heap.size := by obtain ⟨m, hm⟩ := k1; exact DataW.trod_lt m _ _ _ hm
  obtain ⟨l1, hl1, y1, w1, hx1⟩ : ∃ l : List PRingKeeps.S30, l.length = len1 ∧ len1 ≤ c1 ∧ Go.Proofs.YtbplfoanhfmheaaW.PrintWords.Kd.C PRingKeeps.k30 W A1 len1 l ∧ (len1 = 0 ∨ ∃ sp : List (DataW H), d1 = .slice (l.map Hand.opD) sp) := by
    obtain ⟨fuel, hf⟩ := h1
    exact Hand.open_ops hf
  have z1 : ∀ o ∈ l1, o.f2.size ≤ 140737488355328 := by
    rcases hx1 with h0 | ⟨sp, hd⟩
    · intro o ho
      rw [List.eq_nil_of_length_eq_zero (hl1.trans h0)] at ho
      cases ho
    · exact fun o ho => Hand.sized_op hsz (j := 1) rfl (congrArg some hd) o ho
  subst hl1
  clear hA0 hval0 hsz0 hsz
  refine (walk W a0 A1 c1 l1 w0 w1 y1 z1).mono fun e W' ⟨he, bel⟩ => ?_
  subst he
  exact ⟨_, rfl, _, _, _, [], _, [], hW', trodAll_mk1 (shut_bool Try.underlying4 _), (trodAll_cons_mk (shut_int Try.underlying3 w0) (trodAll_cons_mk (Below.trod laidOut (by kernel_rfl) (of_decide_eq_true (by kernel_rfl)) k1 bel lt1) trodAll_mk0)), rfl, bel.frame _, fun h => by cases h⟩
theorem over : Rows.ringAllRow.holds Try.pinned (OpenSpec.ofChange Rows.ringAllSpec) :=
  OpenClaim.holds_of_wide 8 Try.f8 rfl rfl rfl rfl rfl rfl rfl ⟨rfl, rfl, rfl, rfl, rfl⟩ rfl rfl rfl rfl rfl (by kernel_rfl) Try.func8 (by kernel_rfl)
    (of_decide_eq_true (by kernel_rfl)) (by unfold Func.isWrapper; first | (rw [if_pos (by decide +kernel)]; kernel_rfl) | (rw [if_neg (by decide +kernel)]; exact ⟨rfl, rfl⟩))
    (fun os started H enc _ => lifted os started H enc)
theorem proved : Rows.RingAllSaid := over
#print axioms proved
end Go.Proofs.Ytbplfoanhfmheaa.ringAll
namespace Go.Proofs.Ytbplfoanhfmheaa
/-- The row, under a short name, for the claim. -/
theorem ringAll_holds : Rows.RingAllSaid := ringAll.proved
end Go.Proofs.Ytbplfoanhfmheaa
