/- Slices of bytes, numbers, texts, calls that come in: their cells. -/
import Derived.Test.YteencbkopkpelaaWMore
import Derived.Test.YteencbkopkpelaaWNEv
import Derived.Test.YteencbkopkpelaaProg
import Derived.Test.YteencbkopkpelaaWSized
import Derived.Deep.Slices
import Derived.Deep.Fields
import Derived.Deep.Strs
import Derived.ChangeSame
import Derived.SizedLaws
namespace Go.Proofs.Yteencbkopkpelaa.Hand
open Go.RowKit Go.Proofs.YteencbkopkpelaaW.PrintWords Go.ChangeShapes Go.WideShapes Go.Deep
set_option linter.unusedVariables false
section
variable {H : Type} {enc : TypeId × Value → H} {w : World} {base : Nat} {spare : Nat → Bool} {held : Bool}
theorem open_intsC {k : IntKind} {t e : TypeId} (ht : Try.prog.underlying t = some (.slice e)) (he : Try.prog.underlying e = some (.int k)) (hc : Try.prog.cellsOf e = 1) {A : Option Addr} {n c : Nat} {d : DataW H} {p : List MemPlace} (h : DataW.Trod enc Try.prog w base spare held t (.slice A n c) d p) :
    ∃ l : List Int, l.length = n ∧ n ≤ c ∧ Kd.C (Kd.int k) w A n l ∧ ∀ x ∈ l, (Lit.int k x).wf = true := by
  have hw : ∃ zs : List Int, (A = none ∧ n = 0 ∧ c = 0 ∧ zs = []) ∨ ∃ x, A = some x ∧ n ≤ c ∧ c ≤ maxLen ∧ zs.length = (if spare x.block then c else n) ∧ (∀ i, i < zs.length → w.cell? (x.add i) = some (.int k (zs.getD i 0))) ∧ ∀ v ∈ zs, (Lit.int k v).wf = true := by
    obtain ⟨fuel, hf⟩ := h
    rcases open_ints ht he hc hf with ⟨hcs, _⟩ | ⟨x, l, c', zs, hcs, _, hl, hm, hz, _, hcell, hwz⟩
    · simp [Value.cells] at hcs
      obtain ⟨rfl, rfl, rfl⟩ := hcs
      exact ⟨[], .inl ⟨rfl, rfl, rfl, rfl⟩⟩
    · simp [Value.cells] at hcs
      obtain ⟨rfl, rfl, rfl⟩ := hcs
      exact ⟨zs, .inr ⟨_, rfl, hl, hm, hz, hcell, hwz⟩⟩
  obtain ⟨zs, hw⟩ := hw
  rcases hw with ⟨rfl, rfl, rfl, rfl⟩ | ⟨x, rfl, hl, hm, hz, hcell, hwf⟩
  · exact ⟨[], rfl, Nat.le_refl _, Kd.C_nil _ w, fun x hx => by cases hx⟩
  · have hlz : n ≤ zs.length := by rw [hz]; split <;> omega
    have hmx : c ≤ 9223372036854775807 := by unfold maxLen at hm; omega
    refine ⟨zs.take n, by rw [List.length_take]; omega, hl, ⟨by rw [List.length_take]; omega, by omega, fun hn => ⟨x, rfl, fun j p hj => ⟨[.int k p], rfl, rfl, fun i u hu => ?_⟩⟩⟩, fun v hv => hwf v (List.mem_of_mem_take hv)⟩
    have hjn : j < n := by have := (List.getElem?_eq_some_iff.1 hj).1; rw [List.length_take] at this; omega
    cases i with
    | zero =>
      simp at hu
      subst hu
      show w.cell? (x.add (j * 1 + 0)) = _
      rw [Nat.mul_one, Nat.add_zero, hcell j (by omega)]
      rw [List.getElem?_take, if_pos hjn] at hj
      rw [List.getD_eq_getElem?_getD, hj]
      rfl
    | succ i => simp at hu
theorem open_strsC {t e : TypeId} (ht : Try.prog.underlying t = some (.slice e)) (he : Try.prog.underlying e = some .string) (hc : Try.prog.cellsOf e = 1) {A : Option Addr} {n c : Nat} {d : DataW H} {p : List MemPlace} (h : DataW.Trod enc Try.prog w base spare held t (.slice A n c) d p) :
    ∃ l : List ByteArray, l.length = n ∧ n ≤ c ∧ Kd.C Kd.string w A n l ∧ ∀ x ∈ l, x.size ≤ maxLen := by
  obtain ⟨fuel, hf⟩ := h
  rcases open_strs ht he hc hf with ⟨hcs, _⟩ | ⟨x, l, c', m, Sx, hcs, _, hl, hm, hmm, _, hcell⟩
  · simp [Value.cells] at hcs
    obtain ⟨rfl, rfl, rfl⟩ := hcs
    exact ⟨[], rfl, Nat.le_refl _, Kd.C_nil _ w, fun x hx => by cases hx⟩
  · simp [Value.cells] at hcs
    obtain ⟨rfl, rfl, rfl⟩ := hcs
    have hlm : n ≤ m := by rw [hmm]; split <;> omega
    have hmx : c ≤ 9223372036854775807 := by unfold maxLen at hm; omega
    refine ⟨(List.range n).map Sx, by simp, hl, ⟨by simp, by omega, fun hn => ⟨x, rfl, fun j p hj => ⟨[.string p], rfl, rfl, fun i u hu => ?_⟩⟩⟩, fun v hv => ?_⟩
    · have hjn : j < n := by have := (List.getElem?_eq_some_iff.1 hj).1; simpa using this
      have hp : Sx j = p := by simpa [hjn] using hj
      cases i with
      | zero =>
        simp at hu
        subst hu
        show w.cell? (x.add (j * 1 + 0)) = _
        rw [Nat.mul_one, Nat.add_zero, (hcell j (by omega)).1, hp]
      | succ i => simp at hu
    · obtain ⟨i, hi, rfl⟩ := List.mem_map.1 hv
      exact (hcell i (by have := List.mem_range.1 hi; omega)).2
/-- A slice of texts is no longer than its weight allows. -/
theorem sized_strsC {t e : TypeId} {ts : List TypeId} {ds : List (DataW H)} {j : Nat} {A : Option Addr} {n c : Nat} {d : DataW H} {p : List MemPlace} (hsz : (DataW.weightsEach Try.prog ts ds).all (· ≤ reachBytes) = true) (hj : ts[j]? = some t) (hd : ds[j]? = some d) (ht : Try.prog.underlying t = some (.slice e)) (he : Try.prog.underlying e = some .string) (hc : Try.prog.cellsOf e = 1) {B : Nat} (hB : Try.prog.bytesOf e = B) (h : DataW.Trod enc Try.prog w base spare held t (.slice A n c) d p) : n * B ≤ 140737488351232 := by
  obtain ⟨fuel, hf⟩ := h
  rcases open_strs ht he hc hf with ⟨hcs, _⟩ | ⟨x, l, c', m, Sx, hcs, _, hl, hm, hmm, hx, hcell⟩
  · simp [Value.cells] at hcs
    obtain ⟨rfl, rfl, rfl⟩ := hcs
    simp
  · simp [Value.cells] at hcs
    obtain ⟨rfl, rfl, rfl⟩ := hcs
    obtain ⟨hx, _⟩ := Prod.mk.inj hx
    subst hx
    have z := sized_slice hsz hj hd ht
    rw [hB] at z
    have hlm : n ≤ m := by rw [hmm]; split <;> omega
    simp only [List.length_map, List.length_range] at z
    have : n + (m - n) = m := by omega
    rw [this] at z
    exact Nat.le_trans (Nat.mul_le_mul_right _ hlm) z
theorem wf_byte {x : Int} (h : (Lit.int .u8 x).wf = true) : 0 ≤ x ∧ x < 256 := by
  simp [Lit.wf, IntKind.min, IntKind.max, IntKind.signed, IntKind.bits] at h
  omega
theorem wf_int {x : Int} (h : (Lit.int .i64 x).wf = true) : -9223372036854775808 ≤ x ∧ x < 9223372036854775808 := by
  simp [Lit.wf, IntKind.min, IntKind.max, IntKind.signed, IntKind.bits] at h
  omega
end
end Go.Proofs.Yteencbkopkpelaa.Hand
