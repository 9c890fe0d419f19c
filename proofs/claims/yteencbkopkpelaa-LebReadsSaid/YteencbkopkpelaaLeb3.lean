/- Int, Byte, Str of a reader. -/
import Derived.Test.YteencbkopkpelaaLeb2
namespace Go.Proofs.Yteencbkopkpelaa.Hand
open Go.RowKit Go.Proofs.YteencbkopkpelaaW.PrintWords Go.Proofs.YteencbkopkpelaaW.PrintLast Go.Proofs.YteencbkopkpelaaW.PrintMore Go.Proofs.Yteencbkopkpelaa.PLebReads
set_option linter.unusedVariables false
set_option linter.unusedSimpArgs false
theorem alloc_size (w : World) (o : Obj) : w.heap.size + 1 = (w.alloc o).heap.size := by rw [World.size_alloc]
/-- One read: k bytes were there (0: none), and may be (ok). -/
def rI (l : List Int) (at_ : Nat) (bad : Bool) (most : Int) : Int × Nat × Bool :=
  if bad = true ∨ (getP (l.drop at_)).2 = 0 ∨ decide ((getP (l.drop at_)).1 ≤ most) = false then (0, at_, true) else ((getP (l.drop at_)).1, at_ + (getP (l.drop at_)).2, false)
def rB (l : List Int) (at_ : Nat) (bad : Bool) (most : Int) : Int × Nat × Bool :=
  if bad = true ∨ (getB (l.drop at_)).2 = 0 ∨ decide ((getB (l.drop at_)).1 ≤ most) = false then (0, at_, true) else ((getB (l.drop at_)).1, at_ + (getB (l.drop at_)).2, false)
def rS (l : List Int) (at_ : Nat) (bad : Bool) (most : Int) : List Int × Nat × Bool :=
  if bad = true ∨ (getS (l.drop at_) most).2 = 0 ∨ true = false then ([], at_, true) else ((getS (l.drop at_) most).1, at_ + (getS (l.drop at_) most).2, false)
theorem getB_facts {l : List Int} {n : Int} {k : Nat} (h : getB l = (n, k)) : k ≤ l.length := by
  cases l with
  | nil => simp only [getB, Prod.mk.injEq] at h; omega
  | cons c t => simp only [getB, Prod.mk.injEq] at h; simp; omega
section
variable {w : World} {g base : Nat} {l : List Int} {at_ : Nat} {bad : Bool}
theorem int_calls (h : Rdr w g base l at_ bad) (hb : Bytes l) (most : Int) : Calls Try.prog 11 #[.pointer (some ⟨g, 0, none⟩), .int .i64 most] w fun e w' => e = .returned (.int .i64 (rI l at_ bad most).1) ∧ Rdr w' g base l (rI l at_ bad most).2.1 (rI l at_ bad most).2.2 ∧ Fr (fun i => i = g) w w' := by
  have hmf : ∀ (fn : Fn) (first cap : Array Value) (w : World), (Instr.makeFunc fn first cap).run Try.prog w = .ok (.func fn first cap) w := fun _ _ _ _ => rfl
  have hlt := h.lt
  have H := Lib.hid h
  clear h
  obtain ⟨q, hq⟩ : ∃ q, w.heap.size = q := ⟨_, rfl⟩
  go_enter Try.func11, Try.ntmps11
  go_wp2_with fail
  have hba := below_alloc (Below.refl w.heap.size w) (.cells #[.int .i64 most] 3)
  have hcells : (w.alloc (.cells #[.int .i64 most] 3)).heap[q]? = some (.cells #[.int .i64 most] 3 (0, 0)) := by rw [← hq]; exact blk_new _ _
  have HA := Lib.hid (H.out.below hba)
  have HBA := Lib.hid hba
  try rw [hq]
  generalize w.alloc _ = wa at hcells HA HBA ⊢
  clear hba
  cases bad with
  | true =>
    refine (int_bad HA.out _ _).mono ?_
    rintro e w1 ⟨rfl, rfl⟩
    have e1 : rI l at_ true most = (0, at_, true) := if_pos (.inl rfl)
    have E1 := Lib.hid e1
    clear e1
    go_wp2_with fail
    go_ret
    rw [E1.out]
    exact ⟨rfl, HA.out, Fr.of_below HBA.out⟩
  | false =>
    obtain ⟨n, k, hg⟩ : ∃ n k, getP (l.drop at_) = (n, k) := ⟨_, _, rfl⟩
    have hf := getP_facts hg
    rw [List.length_drop] at hf
    have hgi := get_is (l.drop at_) (hb.drop at_) (by rw [List.length_drop]; omega)
    rw [hg] at hgi
    refine (int_good HA.out q n k (by omega) (decide (n ≤ most)) (fun W A' c' hW hC hc => leb_Get.calls 50 A' c' (l.drop at_) n (k : Int) W hC hc hgi) (fun W hW => may_calls W q n most (pw_cell_below hW ((blk_cell hcells 0).trans rfl)))).mono ?_
    rintro e w1 ht
    have e1 : rI l at_ false most = if k = 0 ∨ decide (n ≤ most) = false then (0, at_, true) else (n, at_ + k, false) := by
      unfold rI
      rw [hg]
      simp
    unfold Took at ht
    obtain ⟨rfl, hr, hf2⟩ := ht
    have HF := Lib.hid (Fr.trans (X := fun i => i = g) (Y := fun i => i = g) (Z := fun i => i = g) (Fr.of_below HBA.out) hf2 (fun i h => h) (fun i _ h => h))
    by_cases hk : k = 0 ∨ decide (n ≤ most) = false
    · rw [if_pos hk] at hr ⊢
      rw [decide_eq_true hk] at hr
      have HR := Lib.hid hr
      have e2 : rI l at_ false most = (0, at_, true) := by rw [e1, if_pos hk]
      have E2 := Lib.hid e2
      clear hr hf2 hgi hcells hg e1 e2 hk
      go_wp2_with fail
      go_ret
      rw [E2.out]
      exact ⟨rfl, HR.out, HF.out⟩
    · rw [if_neg hk] at hr ⊢
      rw [decide_eq_false hk] at hr
      have HR := Lib.hid hr
      have e2 : rI l at_ false most = (n, at_ + k, false) := by rw [e1, if_neg hk]
      have E2 := Lib.hid e2
      clear hr hf2 hgi hcells hg e1 e2 hk
      go_wp2_with fail
      go_ret
      rw [E2.out]
      exact ⟨rfl, HR.out, HF.out⟩
theorem byte_calls (h : Rdr w g base l at_ bad) (hb : Bytes l) (most : Int) : Calls Try.prog 12 #[.pointer (some ⟨g, 0, none⟩), .int .i64 most] w fun e w' => e = .returned (.int .i64 (rB l at_ bad most).1) ∧ Rdr w' g base l (rB l at_ bad most).2.1 (rB l at_ bad most).2.2 ∧ Fr (fun i => i = g) w w' := by
  have hmf : ∀ (fn : Fn) (first cap : Array Value) (w : World), (Instr.makeFunc fn first cap).run Try.prog w = .ok (.func fn first cap) w := fun _ _ _ _ => rfl
  have hlt := h.lt
  have H := Lib.hid h
  clear h
  obtain ⟨q, hq⟩ : ∃ q, w.heap.size = q := ⟨_, rfl⟩
  go_enter Try.func12, Try.ntmps12
  go_wp2_with fail
  have hba := below_alloc (Below.refl w.heap.size w) (.cells #[.int .i64 most] 3)
  have hcells : (w.alloc (.cells #[.int .i64 most] 3)).heap[q]? = some (.cells #[.int .i64 most] 3 (0, 0)) := by rw [← hq]; exact blk_new _ _
  have HA := Lib.hid (H.out.below hba)
  have HBA := Lib.hid hba
  try rw [hq]
  generalize w.alloc _ = wa at hcells HA HBA ⊢
  clear hba
  cases bad with
  | true =>
    refine (int_bad HA.out _ _).mono ?_
    rintro e w1 ⟨rfl, rfl⟩
    have e1 : rB l at_ true most = (0, at_, true) := if_pos (.inl rfl)
    have E1 := Lib.hid e1
    clear e1
    go_wp2_with fail
    go_ret
    rw [E1.out]
    exact ⟨rfl, HA.out, Fr.of_below HBA.out⟩
  | false =>
    obtain ⟨n, k, hg⟩ : ∃ n k, getB (l.drop at_) = (n, k) := ⟨_, _, rfl⟩
    have hf := getB_facts hg
    rw [List.length_drop] at hf
    refine (byte_good HA.out q n k (by omega) (decide (n ≤ most)) (fun W A' c' hW hC hc => by have := getb_calls A' c' (l.drop at_) W hC hc (hb.drop at_) (by rw [List.length_drop]; omega); rw [hg] at this; exact this) (fun W hW => mayb_calls W q n most (pw_cell_below hW ((blk_cell hcells 0).trans rfl)))).mono ?_
    rintro e w1 ht
    have e1 : rB l at_ false most = if k = 0 ∨ decide (n ≤ most) = false then (0, at_, true) else (n, at_ + k, false) := by
      unfold rB
      rw [hg]
      simp
    unfold Took at ht
    obtain ⟨rfl, hr, hf2⟩ := ht
    have HF := Lib.hid (Fr.trans (X := fun i => i = g) (Y := fun i => i = g) (Z := fun i => i = g) (Fr.of_below HBA.out) hf2 (fun i h => h) (fun i _ h => h))
    by_cases hk : k = 0 ∨ decide (n ≤ most) = false
    · rw [if_pos hk] at hr ⊢
      rw [decide_eq_true hk] at hr
      have HR := Lib.hid hr
      have e2 : rB l at_ false most = (0, at_, true) := by rw [e1, if_pos hk]
      have E2 := Lib.hid e2
      clear hr hf2 hcells hg e1 e2 hk
      go_wp2_with fail
      go_ret
      rw [E2.out]
      exact ⟨rfl, HR.out, HF.out⟩
    · rw [if_neg hk] at hr ⊢
      rw [decide_eq_false hk] at hr
      have HR := Lib.hid hr
      have e2 : rB l at_ false most = (n, at_ + k, false) := by rw [e1, if_neg hk]
      have E2 := Lib.hid e2
      clear hr hf2 hcells hg e1 e2 hk
      go_wp2_with fail
      go_ret
      rw [E2.out]
      exact ⟨rfl, HR.out, HF.out⟩
theorem str_calls (h : Rdr w g base l at_ bad) (hb : Bytes l) (most : Int) : Calls Try.prog 13 #[.pointer (some ⟨g, 0, none⟩), .int .i64 most] w fun e w' => e = .returned (.string (strOfNums (rS l at_ bad most).1)) ∧ Rdr w' g base l (rS l at_ bad most).2.1 (rS l at_ bad most).2.2 ∧ Fr (fun i => i = g) w w' := by
  have hmf : ∀ (fn : Fn) (first cap : Array Value) (w : World), (Instr.makeFunc fn first cap).run Try.prog w = .ok (.func fn first cap) w := fun _ _ _ _ => rfl
  have hlt := h.lt
  have H := Lib.hid h
  clear h
  obtain ⟨q, hq⟩ : ∃ q, w.heap.size = q := ⟨_, rfl⟩
  go_enter Try.func13, Try.ntmps13
  go_wp2_with fail
  have hba := below_alloc (Below.refl w.heap.size w) (.cells #[.int .i64 most] 3)
  have hcells : (w.alloc (.cells #[.int .i64 most] 3)).heap[q]? = some (.cells #[.int .i64 most] 3 (0, 0)) := by rw [← hq]; exact blk_new _ _
  have HA := Lib.hid (H.out.below hba)
  have HBA := Lib.hid hba
  try rw [hq]
  generalize w.alloc _ = wa at hcells HA HBA ⊢
  clear hba
  cases bad with
  | true =>
    refine (str_bad HA.out _ _).mono ?_
    rintro e w1 ⟨rfl, rfl⟩
    have e1 : rS l at_ true most = ([], at_, true) := if_pos (.inl rfl)
    have E1 := Lib.hid e1
    clear e1
    go_wp2_with fail
    go_ret
    rw [E1.out]
    exact ⟨rfl, HA.out, Fr.of_below HBA.out⟩
  | false =>
    obtain ⟨n, k, hg⟩ : ∃ n k, getS (l.drop at_) most = (n, k) := ⟨_, _, rfl⟩
    have hf := getS_facts hg
    rw [List.length_drop] at hf
    refine (str_good HA.out q (strOfNums n) k (by omega) true (fun W A' c' hW hC hc => by have := gets_calls A' c' (l.drop at_) q most W (pw_cell_below hW ((blk_cell hcells 0).trans rfl)) hC hc (hb.drop at_) (by rw [List.length_drop]; omega); rw [hg] at this; exact this) (fun W hW => mays_calls W (strOfNums n))).mono ?_
    rintro e w1 ht
    have e1 : rS l at_ false most = if k = 0 ∨ true = false then ([], at_, true) else (n, at_ + k, false) := by
      unfold rS
      rw [hg]
      simp
    unfold Took at ht
    obtain ⟨rfl, hr, hf2⟩ := ht
    have HF := Lib.hid (Fr.trans (X := fun i => i = g) (Y := fun i => i = g) (Z := fun i => i = g) (Fr.of_below HBA.out) hf2 (fun i h => h) (fun i _ h => h))
    by_cases hk : k = 0 ∨ true = false
    · rw [if_pos hk] at hr ⊢
      rw [decide_eq_true hk] at hr
      have HR := Lib.hid hr
      have e2 : rS l at_ false most = ([], at_, true) := by rw [e1, if_pos hk]
      have E2 := Lib.hid e2
      clear hr hf2 hcells hg e1 e2 hk
      go_wp2_with fail
      go_ret
      rw [E2.out]
      exact ⟨rfl, HR.out, HF.out⟩
    · rw [if_neg hk] at hr ⊢
      rw [decide_eq_false hk] at hr
      have HR := Lib.hid hr
      have e2 : rS l at_ false most = (n, at_ + k, false) := by rw [e1, if_neg hk]
      have E2 := Lib.hid e2
      clear hr hf2 hcells hg e1 e2 hk
      go_wp2_with fail
      go_ret
      rw [E2.out]
      exact ⟨rfl, HR.out, HF.out⟩
end
end Go.Proofs.Yteencbkopkpelaa.Hand
