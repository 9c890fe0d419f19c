/- A new slice of rows of numbers reads as the rows. No condition beyond the hypotheses. -/
import Derived.Test.YtocfkbiojgbloaaKit
namespace Go.Proofs.Ytocfkbiojgbloaa.Hand
open Go.RowKit Go.Proofs.YtocfkbiojgbloaaW.PrintWords Go.Proofs.YtocfkbiojgbloaaW.PrintLast Go.Proofs.YtocfkbiojgbloaaW.PrintMore
theorem C_rows {w : World} {g e e' : Nat} {k : IntKind} {rr : Nat × Nat} (hg : g = w.heap.size) (rows : List (Option Addr × List Int × Nat)) (hm : rows.length ≤ 9223372036854775807) (h : ∀ r ∈ rows, (Kd.int k).C w r.1 r.2.1.length r.2.1 ∧ r.2.1.length ≤ r.2.2) :
    (Kd.slice e (Kd.int k)).C (w.alloc (.cells (rows.map fun r => Value.slice r.1 r.2.1.length r.2.2).toArray e' rr)) (some ⟨g, 0, none⟩) (rows.map fun r => r.2.1).length (rows.map fun r => r.2.1) := by
  subst hg
  have hb : (w.alloc (Obj.cells (rows.map fun r => Value.slice r.1 r.2.1.length r.2.2).toArray e' rr)).heap[w.heap.size]? = some (.cells (rows.map fun r => Value.slice r.1 r.2.1.length r.2.2).toArray e' rr) := by
    show (w.heap.push _)[w.heap.size]? = _
    simp
  refine ⟨rfl, by simpa using hm, fun hp => ⟨_, rfl, fun j p hj => ?_⟩⟩
  rw [List.getElem?_map] at hj
  cases hr : rows[j]? with
  | none => rw [hr] at hj; simp at hj
  | some r =>
    rw [hr] at hj
    simp at hj
    subst hj
    have hmem := h r (List.mem_of_getElem? hr)
    refine ⟨[.slice r.1 r.2.1.length r.2.2], rfl, ⟨_, _, rfl, hmem.2, Kd.C_alloc hmem.1 _⟩, fun i u hi => ?_⟩
    rcases i with _ | i
    · simp at hi
      subst hi
      show (w.alloc _).cell? ((⟨w.heap.size, 0, none⟩ : Addr).add (j * 1 + 0)) = some _
      rw [Nat.add_zero, Nat.mul_one, add_plain, cell_of_row _ _ _ _ _ _ hb]
      rw [← Array.getElem?_toList]
      simp [hr]
    · simp at hi
end Go.Proofs.Ytocfkbiojgbloaa.Hand
