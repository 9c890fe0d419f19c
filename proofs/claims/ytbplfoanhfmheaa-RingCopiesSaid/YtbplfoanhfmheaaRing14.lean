/- A script that comes in: its cells, and how long its texts are. -/
import Derived.Test.YtbplfoanhfmheaaRing13
import Derived.Deep.Slices
import Derived.Deep.Fields
import Derived.ChangeSame
import Derived.SizedLaws
namespace Go.Proofs.Ytbplfoanhfmheaa.Hand
open Go.RowKit Go.Proofs.YtbplfoanhfmheaaW.PrintWords Go.Proofs.Ytbplfoanhfmheaa.PRingKeeps Go.ChangeShapes Go.WideShapes Go.Deep
set_option linter.unusedVariables false
section
variable {H : Type} {enc : TypeId × Value → H} {w : World} {base : Nat} {spare : Nat → Bool} {held : Bool}
theorem cells_op : Try.prog.cellsOf 30 = 3 := by kernel_rfl
def opD {H : Type} (o : S30) : DataW H := .agg [.lit (.int .i64 o.f0), .lit (.int .i64 o.f1), .lit (.string o.f2.data.toList)]
theorem open_op {fuel : Nat} {cs : List Value} {y : DataW H × List MemPlace} (hl : cs.length = 3) (h : DataW.trod enc Try.prog w base spare held fuel 30 cs = some y) :
    ∃ o : S30, cs = [.int .i64 o.f0, .int .i64 o.f1, .string o.f2] ∧ y.1 = opD o := by
  obtain ⟨ys, n, hn, hy, hlen, hyl, hf⟩ := DataW.trod_struct Try.underlying30 h
  match cs, hl, ys, hyl with
  | [c0, c1, c2], _, [y0, y1, y2], _ =>
    have e3 : Try.prog.cellsOf 3 = 1 := by kernel_rfl
    have e9 : Try.prog.cellsOf 9 = 1 := by kernel_rfl
    have h0 := hf 0 _ rfl
    have h1 := hf 1 _ rfl
    have h2 := hf 2 _ rfl
    simp [e3] at h0
    simp [e3] at h1
    simp [e9] at h2
    obtain ⟨n0, q0, x0, _⟩ := DataW.trod_int Try.underlying3 h0
    obtain ⟨n1, q1, x1, _⟩ := DataW.trod_int Try.underlying3 h1
    obtain ⟨n2, q2, x2, _⟩ := DataW.trod_string Try.underlying9 h2
    simp at q0 q1 q2
    subst q0 q1 q2 x0 x1 x2 hy
    exact ⟨⟨n0, n1, n2⟩, rfl, rfl⟩
theorem open_ops {fuel : Nat} {A : Option Addr} {n c : Nat} {x : DataW H × List MemPlace} (h : DataW.trod enc Try.prog w base spare held fuel 22 [.slice A n c] = some x) :
    ∃ l : List S30, l.length = n ∧ n ≤ c ∧ Kd.C k30 w A n l ∧ (n = 0 ∨ ∃ sp : List (DataW H), x.1 = .slice (l.map opD) sp) := by
  rcases open_slice Try.underlying22 h with ⟨hcs, hx⟩ | ⟨a, len, cap, m, n', D, Pl, hcs, hb, hl, hm, hmm, hx, hi⟩
  · simp at hcs
    obtain ⟨rfl, rfl, rfl⟩ := hcs
    exact ⟨[], rfl, Nat.le_refl _, Kd.C_nil k30 w, .inl rfl⟩
  · simp at hcs
    obtain ⟨rfl, rfl, rfl⟩ := hcs
    have hlm : n ≤ m := by rw [hmm]; split <;> omega
    rw [cells_op] at hi
    have key : ∀ i, i < n → ∃ o : S30, (∀ j u, [Value.int .i64 o.f0, .int .i64 o.f1, .string o.f2][j]? = some u → w.cell? (a.add (i * 3 + j)) = some u) ∧ D i = opD o := by
      intro i hin
      obtain ⟨cs', hc, ht'⟩ := hi i (by omega)
      obtain ⟨_, hcl, hat⟩ := World.cells?_some hc
      obtain ⟨o, rfl, hD⟩ := open_op hcl ht'
      refine ⟨o, fun j u hu => ?_, hD⟩
      have hj : j < 3 := (List.getElem?_eq_some_iff.1 hu).1
      rw [← Go.Deep.add_add, hat j hj, hu]
    have hex : ∃ f : Nat → S30, ∀ i, i < n → (∀ j u, [Value.int .i64 (f i).f0, .int .i64 (f i).f1, .string (f i).f2][j]? = some u → w.cell? (a.add (i * 3 + j)) = some u) ∧ D i = opD (f i) :=
      ⟨fun i => if hin : i < n then (key i hin).choose else ⟨0, 0, ⟨#[]⟩⟩, fun i hin => by
        simp only [dif_pos hin]
        exact (key i hin).choose_spec⟩
    obtain ⟨f, hf⟩ := hex
    refine ⟨(List.range n).map f, by simp, hl, ⟨by simp, by unfold maxLen at hm; omega, fun h0 => ⟨a, rfl, fun j p hp => ?_⟩⟩, .inr ⟨(List.range (m - n)).map fun j => D (n + j), ?_⟩⟩
    · have hj : j < n := by have := (List.getElem?_eq_some_iff.1 hp).1; simpa using this
      have hpf : f j = p := by simpa [hj] using hp
      subst hpf
      exact ⟨_, rfl, k30_mk w (f j), fun i u hu => (hf j hj).1 i u hu⟩
    · rw [hx]
      rw [List.map_map, show (List.range n).map D = (List.range n).map (opD ∘ f) from List.map_congr_left fun i hi => (hf i (by simpa using hi)).2]
theorem weights_all {P : Program} {e : TypeId} {d : DataW H} : ∀ {l : List (DataW H)}, d ∈ l → ∀ n ∈ d.weights P e, n ∈ DataW.weightsAll P e l
  | x :: l, hd, n, hn => by
    simp only [DataW.weightsAll, List.mem_append]
    rcases List.mem_cons.1 hd with rfl | h
    · exact .inl hn
    · exact .inr (weights_all h n hn)
/-- Each text of a script is within the form's reach. -/
theorem sized_op {ts : List TypeId} {ds : List (DataW H)} {j : Nat} {l : List S30} {sp : List (DataW H)} (h : (DataW.weightsEach Try.prog ts ds).all (· ≤ reachBytes) = true) (ht : ts[j]? = some 22) (hd : ds[j]? = some (.slice (l.map opD) sp)) (o : S30) (ho : o ∈ l) : o.f2.size ≤ 140737488355328 := by
  have hm := weights_all (P := Try.prog) (e := 30) (List.mem_map_of_mem (f := opD (H := H)) ho) o.f2.data.toList.length (by simp [opD, DataW.weights, DataW.weightsEach, Try.underlying30])
  have := of_decide_eq_true (List.all_eq_true.1 h _ (DataW.weights_mem_each ht hd o.f2.data.toList.length (by
    simp only [DataW.weights, Try.underlying22, List.mem_cons, List.mem_append]
    exact .inr (.inl hm))))
  have hr : reachBytes ≤ 140737488355328 := by decide
  rw [Array.length_toList] at this
  exact Nat.le_trans this hr
end
end Go.Proofs.Ytbplfoanhfmheaa.Hand
