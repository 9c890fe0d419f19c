/- The statement RingCopiesSaid: the law tells true for every input; no condition. -/
import Derived.Test.YtbplfoanhfmheaaRows
import Derived.Test.YtbplfoanhfmheaaRing14
import Derived.Test.YtbplfoanhfmheaaRing20
import Derived.WalkKit
import Derived.ProofKit
import Derived.OpenShut
import Derived.ShutString
import Derived.ChangeOld
import Derived.Below
import Derived.SizedLaws
import Derived.Test.YtbplfoanhfmheaaWSized
namespace Go.Proofs.Ytbplfoanhfmheaa.ringCopies
open Go.ChangeShapes Go.WideShapes Go.ChangeAt Go.RowKit
open Go.ChangeMaps (open_string shut_string)
set_option linter.unusedVariables false
theorem own : ownKnob Try.prog.godebug = none := by kernel_rfl
theorem laidOut : laidOutB Try.prog = true := by kernel_rfl
open Go.Proofs.YtbplfoanhfmheaaW.PrintWords in
theorem walk (w : World) (a0 : Int) (A1 : Option Addr) (c1 : Nat) (l1 : List PRingKeeps.S30) (A2 : Option Addr) (c2 : Nat) (l2 : List PRingKeeps.S30) (w0 : (Lit.int .i64 a0).wf = true) (w1 : Go.Proofs.YtbplfoanhfmheaaW.PrintWords.Kd.C PRingKeeps.k30 w A1 l1.length l1) (y1 : l1.length ≤ c1) (z1 : ∀ o ∈ l1, o.f2.size ≤ 140737488355328) (w2 : Go.Proofs.YtbplfoanhfmheaaW.PrintWords.Kd.C PRingKeeps.k30 w A2 l2.length l2) (y2 : l2.length ≤ c2) (z2 : ∀ o ∈ l2, o.f2.size ≤ 140737488355328) :
    Calls Try.prog 9 #[.int .i64 a0, .slice A1 l1.length c1, .slice A2 l2.length c2] w fun e w' => e = .returned (.bool true) ∧ Below w.heap.size w w' := by
  by_cases h : a0 < 0 ∨ 4096 < a0
  · exact Hand.copies_bad A1 A2 w a0 _ c1 _ c2 h
  · obtain ⟨rm, rfl⟩ : ∃ rm : Nat, a0 = rm := ⟨a0.toNat, by omega⟩
    cases hf : Hand.fewB l1 with
    | false => exact Hand.copies_many A1 c1 l1 A2 c2 w rm (by omega) _ w1 y1 z1 hf
    | true =>
      cases hf2 : Hand.fewB l2 with
      | false => exact Hand.copies_more A1 c1 l1 A2 c2 l2 w rm (by omega) w1 y1 z1 hf w2 y2 z2 hf2
      | true => exact Hand.copies_few A1 c1 l1 A2 c2 l2 w rm (by omega) w1 y1 z1 hf w2 y2 z2 hf2
set_option maxRecDepth 100000 in
theorem lifted (os : Os) (started : os.Started) (H : Type) (enc : TypeId × Value → H) :
    ReturnsInHanded {} Try.checked os 9 .any (Rows.ringCopiesSpec.pre6 enc Try.prog Try.f9 Rows.ringCopiesRow.domain false) (Rows.ringCopiesSpec.post enc Try.prog Try.f9 false true false false) := by
  refine returnsInHanded_of_change_sized (C := Try.checked) own started (by kernel_rfl) Try.func9
    (ChangeSpec.witness6 (enc := enc) (C := Try.checked) false ⟨#[], #[.int .i64 0, .slice none 0 0, .slice none 0 0], []⟩ 8 (by kernel_rfl) (by kernel_rfl) (by kernel_rfl) (by kernel_rfl)) ?_
  intro W base args ds gs before hval0 hW hcnd hsz0 _
  have hsz : (DataW.weightsEach Try.prog (Try.f9.params.toList ++ Rows.ringCopiesSpec.plain.varTypes Try.prog) (ds ++ gs)).all (· ≤ reachBytes) = true := hsz0
  have hval : ∀ (j : Nat) t v, Try.f9.params[j]? = some t → args[j]? = some v → Value.okWide Try.prog W .any base t v := hval0
  have hW' := hW
  obtain ⟨p, q, hA0, hV, rfl, hfz, hnd⟩ := hW
  have hA : DataW.TrodAll enc Try.prog W 0 (fun _ => true) true Try.f9.params.toList args.toList ds p := hA0
  rw [Try.params9] at hA hval hsz
  obtain ⟨v0, vs0, d0, ds0, p0, q0, hargs, rfl, rfl, h0, r0⟩ := trodAll_cons hA
  obtain ⟨v1, vs1, d1, ds1, p1, q1, rfl, rfl, rfl, h1, r1⟩ := trodAll_cons r0
  obtain ⟨v2, vs2, d2, ds2, p2, q2, rfl, rfl, rfl, h2, r2⟩ := trodAll_cons r1
  obtain ⟨rfl, rfl, rfl⟩ := trodAll_nil r2
  obtain rfl : args = #[v0, v1, v2] := by cases args; simp_all
  obtain ⟨rfl, rfl⟩ := trodVars_none hV
  obtain ⟨a0, rfl, rfl, rfl, w0⟩ := open_int Try.underlying3 (hval 0 3 v0 rfl rfl) h0
  obtain ⟨A1, len1, c1, rfl⟩ := okWide_slice Try.underlying22 (hval 1 22 v1 rfl rfl)
  have k1 := h1
  have lt1 : ∀ x ∈ p1, x.block < W.heap.size := by obtain ⟨m, hm⟩ := k1; exact DataW.trod_lt m _ _ _ hm
  obtain ⟨l1, hl1, y1, w1, hx1⟩ : ∃ l : List PRingKeeps.S30, l.length = len1 ∧ len1 ≤ c1 ∧ Go.Proofs.YtbplfoanhfmheaaW.PrintWords.Kd.C PRingKeeps.k30 W A1 len1 l ∧ (len1 = 0 ∨ ∃ sp : List (DataW H), d1 = .slice (l.map Hand.opD) sp) := by
    obtain ⟨fuel, hf⟩ := h1
    exact Hand.open_ops hf
  have z1 : ∀ o ∈ l1, o.f2.size ≤ 140737488355328 := by
    rcases hx1 with h0 | ⟨sp, hd⟩
    · intro o ho
      rw [List.eq_nil_of_length_eq_zero (hl1.trans h0)] at ho
      cases ho
    · exact fun o ho => Hand.sized_op hsz (j := 1) rfl (congrArg some hd) o ho
  subst hl1
  obtain ⟨A2, len2, c2, rfl⟩ := okWide_slice Try.underlying22 (hval 2 22 v2 rfl rfl)
  have k2 := h2
  have lt2 : ∀ x ∈ p2, x.block < W.heap.size := by obtain ⟨m, hm⟩ := k2; exact DataW.trod_lt m _ _ _ hm
  obtain ⟨l2, hl2, y2, w2, hx2⟩ : ∃ l : List PRingKeeps.S30, l.length = len2 ∧ len2 ≤ c2 ∧ Go.Proofs.YtbplfoanhfmheaaW.PrintWords.Kd.C PRingKeeps.k30 W A2 len2 l ∧ (len2 = 0 ∨ ∃ sp : List (DataW H), d2 = .slice (l.map Hand.opD) sp) := by
    obtain ⟨fuel, hf⟩ := h2
    exact Hand.open_ops hf
  have z2 : ∀ o ∈ l2, o.f2.size ≤ 140737488355328 := by
    rcases hx2 with h0 | ⟨sp, hd⟩
    · intro o ho
      rw [List.eq_nil_of_length_eq_zero (hl2.trans h0)] at ho
      cases ho
    · exact fun o ho => Hand.sized_op hsz (j := 2) rfl (congrArg some hd) o ho
  subst hl2
  clear hA0 hval0 hsz0 hsz
  refine (walk W a0 A1 c1 l1 A2 c2 l2 w0 w1 y1 z1 w2 y2 z2).mono fun e W' ⟨he, bel⟩ => ?_
  subst he
  exact ⟨_, rfl, _, _, _, [], _, [], hW', trodAll_mk1 (shut_bool Try.underlying4 _), (trodAll_cons_mk (shut_int Try.underlying3 w0) (trodAll_cons_mk (Below.trod laidOut (by kernel_rfl) (of_decide_eq_true (by kernel_rfl)) k1 bel lt1) (trodAll_cons_mk (Below.trod laidOut (by kernel_rfl) (of_decide_eq_true (by kernel_rfl)) k2 bel lt2) trodAll_mk0))), rfl, bel.frame _, fun h => by cases h⟩
theorem over : Rows.ringCopiesRow.holds Try.pinned (OpenSpec.ofChange Rows.ringCopiesSpec) :=
  OpenClaim.holds_of_wide 9 Try.f9 rfl rfl rfl rfl rfl rfl rfl ⟨rfl, rfl, rfl, rfl, rfl⟩ rfl rfl rfl rfl rfl (by kernel_rfl) Try.func9 (by kernel_rfl)
    (of_decide_eq_true (by kernel_rfl)) (by unfold Func.isWrapper; first | (rw [if_pos (by decide +kernel)]; kernel_rfl) | (rw [if_neg (by decide +kernel)]; exact ⟨rfl, rfl⟩))
    (fun os started H enc _ => lifted os started H enc)
theorem proved : Rows.RingCopiesSaid := over
#print axioms proved
end Go.Proofs.Ytbplfoanhfmheaa.ringCopies
namespace Go.Proofs.Ytbplfoanhfmheaa
/-- The row, under a short name, for the claim. -/
theorem ringCopies_holds : Rows.RingCopiesSaid := ringCopies.proved
end Go.Proofs.Ytbplfoanhfmheaa
