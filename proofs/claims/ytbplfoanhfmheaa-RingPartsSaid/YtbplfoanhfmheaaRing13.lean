/- few: a script of few calls, and bytes. -/
import Derived.Test.YtbplfoanhfmheaaRing12
import Derived.Test.YtbplfoanhfmheaaPRingKeepsx1
namespace Go.Proofs.Ytbplfoanhfmheaa.Hand
open Go.RowKit Go.Proofs.YtbplfoanhfmheaaW.PrintWords Go.Proofs.YtbplfoanhfmheaaW.PrintLast Go.Proofs.YtbplfoanhfmheaaW.PrintMore Go.Proofs.Ytbplfoanhfmheaa.PRingKeeps
set_option linter.unusedVariables false
set_option linter.unusedSimpArgs false
/-- So many bytes are in the texts of a script. -/
def sumS : List S30 → Nat
  | [] => 0
  | o :: l => o.f2.size + sumS l
/-- The same, as the machine counts. -/
def wsum : Int → List S30 → Int
  | x, [] => x
  | x, o :: l => wsum (wrap64 (x + (o.f2.size : Int))) l
theorem wsum_is : ∀ (l : List S30) (x : Int), 0 ≤ x → (∀ o ∈ l, o.f2.size ≤ 140737488355328) → x + l.length * 140737488355328 ≤ 4611686018427387904 → wsum x l = x + sumS l
  | [], x, _, _, _ => by simp [wsum, sumS]
  | o :: l, x, hx, ho, hl => by
    have h1 := ho o (List.mem_cons_self ..)
    have e : wrap64 (x + (o.f2.size : Int)) = x + (o.f2.size : Int) := by
      rw [List.length_cons] at hl
      unfold wrap64
      omega
    unfold wsum sumS
    rw [e, wsum_is l _ (by omega) (fun p hp => ho p (List.mem_cons_of_mem _ hp)) (by rw [List.length_cons] at hl; omega)]
    push_cast
    omega
theorem few_loop (l : List S30) (hl : l.length ≤ 9223372036854775807) : ∀ (d i k : Nat) (x : Int), i + d = l.length → d < k → chicanelaw05_few.l0 k l x l (l.length : Int) (i : Int) = some (if (l.length : Int) ≤ 200 then decide (wsum x (l.drop i) ≤ 20000) else false)
  | 0, i, k, x, hi, hk => by
    obtain ⟨k, rfl⟩ : ∃ m, k = m + 1 := ⟨k - 1, by omega⟩
    rw [chicanelaw05_few.l0, if_neg (by omega), List.drop_eq_nil_of_le (by omega)]
    split <;> rfl
  | d + 1, i, k, x, hi, hk => by
    obtain ⟨k, rfl⟩ : ∃ m, k = m + 1 := ⟨k - 1, by omega⟩
    rw [chicanelaw05_few.l0, if_pos (by omega), if_pos (by omega), if_pos (by omega)]
    have e : wrap64 ((i : Int) + 1) = ((i + 1 : Nat) : Int) := by unfold wrap64; omega
    rw [e, few_loop l hl d (i + 1) k _ (by omega) (by omega), List.drop_eq_getElem_cons (by omega : i < l.length)]
    have e2 : rd_T30 l (i : Int) = l[i]'(by omega) := by
      unfold rd_T30
      rw [Int.toNat_natCast, List.getD_eq_getElem?_getD, List.getElem?_eq_getElem (by omega)]
      rfl
    rw [e2]
    rfl
/-- Is a script so small? -/
def fewB (l : List S30) : Bool := decide (l.length ≤ 200 ∧ sumS l ≤ 20000)
theorem few_is (l : List S30) (hl : l.length ≤ 9223372036854775807) (ho : ∀ o ∈ l, o.f2.size ≤ 140737488355328) : chicanelaw05_few.f (l.length + 1) l = some (fewB l) := by
  unfold chicanelaw05_few.f
  rw [show (0 : Int) = ((0 : Nat) : Int) from rfl, few_loop l hl l.length 0 _ _ (by omega) (by omega), List.drop_zero]
  unfold fewB
  by_cases h : (l.length : Int) ≤ 200
  · rw [if_pos h, wsum_is l _ (by omega) ho (by omega)]
    congr 1
    exact decide_eq_decide.mpr ⟨fun h2 => ⟨by omega, by omega⟩, fun h2 => by omega⟩
  · rw [if_neg h]
    congr 1
    exact (decide_eq_false (by omega)).symm
theorem few_calls {w : World} {A : Option Addr} {c : Nat} {l : List S30} (hr : Kd.C k30 w A l.length l) (hc : l.length ≤ c) (hl : l.length ≤ 9223372036854775807) (ho : ∀ o ∈ l, o.f2.size ≤ 140737488355328) :
    Calls Try.prog 11 #[.slice A l.length c] w fun e w' => e = .returned (.bool (fewB l)) ∧ Below w.heap.size w w' :=
  chicanelaw05_few.calls _ A c l _ w hr hc (few_is l hl ho)
theorem wrap_inc (a : Nat) (h : a ≤ 1000000) : wrap64 ((a : Int) + 1) = ((a + 1 : Nat) : Int) := by
  unfold wrap64
  omega
/-- The i-th call of a script, in memory. -/
structure OpAt (w : World) (A : Option Addr) (i : Nat) (o : S30) : Prop where
  ex : ∃ ad, A = some ad ∧ w.cell? (ad.add (i * 3)) = some (.int .i64 o.f0) ∧ w.cell? ⟨(ad.add (i * 3)).block, (ad.add (i * 3)).off + 1, none⟩ = some (.int .i64 o.f1) ∧ w.cell? ⟨(ad.add (i * 3)).block, (ad.add (i * 3)).off + 2, none⟩ = some (.string o.f2)
end Go.Proofs.Ytbplfoanhfmheaa.Hand
