/- A reader in memory: its struct block, its bytes; Clone, New, At, Bad, Left, End. -/
import Derived.Test.YteencbkopkpelaaPLebReadsx1
import Derived.Test.YteencbkopkpelaaPLebReadsx2
import Derived.Test.YteencbkopkpelaaKit
import Derived.Lib.Hide
import Derived.WalkSpells
namespace Go.Proofs.Yteencbkopkpelaa.Hand
open Go.RowKit Go.Proofs.YteencbkopkpelaaW.PrintWords Go.Proofs.YteencbkopkpelaaW.PrintLast Go.Proofs.YteencbkopkpelaaW.PrintMore Go.Proofs.Yteencbkopkpelaa.PLebReads
set_option linter.unusedVariables false
set_option linter.unusedSimpArgs false
theorem clone_nil (A0 : Option Addr) (c0 : Nat) (l0 : List Int) (w : World) (hr0 : Kd.C (Kd.int .u8) w A0 l0.length l0) (hA : A0 = none) :
    Calls Try.prog 21 #[.slice A0 l0.length c0] w fun e w' => ∃ v0_ : Value, e = .returned (v0_) ∧ Kd.R (Kd.int .u8) 5 w' w.heap.size (fun _ => True) v0_ l0 ∧ Below w.heap.size w w' := by
  subst hA
  have hl : l0 = [] := by
    cases l0 with
    | nil => rfl
    | cons a l => obtain ⟨ad, e, _⟩ := hr0.2.2 (by simp); cases e
  subst hl
  clear hr0
  have heq := fun (w : World) => Go.Lib.run_eql_slice_nil (P := Try.prog) w 22 5 none 0 c0 0 0 Try.underlying22
  simp only [Option.isNone_none] at heq
  change Calls Try.prog 21 #[.slice none 0 c0] w _
  go_enter Try.func21, Try.ntmps21
  go_wp2
  go_ret
  exact ⟨_, rfl, Kd.R_nil _ _ _ _ _, Below.refl _ _⟩
set_option maxHeartbeats 8000000 in
set_option maxRecDepth 100000 in
theorem clone_calls (A0 : Option Addr) (c0 : Nat) (l0 : List Int) (w : World) (hr0 : Kd.C (Kd.int .u8) w A0 l0.length l0) (hc0 : l0.length ≤ c0) (hlen : l0.length < 140737488355328) :
    Calls Try.prog 21 #[.slice A0 l0.length c0] w fun e w' => ∃ v0_ : Value, e = .returned (v0_) ∧ Kd.R (Kd.int .u8) 5 w' w.heap.size (fun _ => True) v0_ l0 ∧ Below w.heap.size w w' := by
  cases hA : A0 with
  | none => rw [← hA]; exact clone_nil A0 c0 l0 w hr0 hA
  | some ad =>
  rw [hA] at hr0
  clear hA
  have HR0 := Aside0.mk hr0
  have HC0 := Aside0.mk hc0
  have LMc2 := Aside0.mk hlen
  clear hr0 hc0 hlen
  have HB := Aside0.mk (Below.refl w.heap.size w)
  obtain ⟨y106, hy106⟩ : ∃ y_ : List Int, y_ = (([] : List Int)) := ⟨_, rfl⟩
  have Ny106 := Aside0.mk hy106
  clear hy106
  have heq := fun (w : World) => Go.Lib.run_eql_slice_nil (P := Try.prog) w 22 5 (some ad) l0.length c0 0 0 Try.underlying22
  simp only [Option.isNone_some] at heq
  go_enter Try.func21, Try.ntmps21
  go_wp2_with (first | ((with_reducible refine gate_dst (N := 5) rfl ?_); refine Kd.R_lit (Kd.int .u8) _ 5 ?hg (N := 5) ?hd (xs := ([] : List Int)) (inner := []) (ok := fun _ => True) (okp := fun _ => True) ?hr ?hp (fun _ hk => hk) trivial (Below.refl _ _) (Nat.le_refl _) (by simp) ?_; (case hd => rfl); (case hg => rfl); (case hr => first | (go_simp; done) | (go_simp; rfl)); (case hp => exact (Reps.none _ _)); intro v107 w3 ho4 hb hg_ hnew_; clear hg_ hnew_; (first | rw [← Ny106.out] at ho4 | (simp only [Int.reduceToNat] at ho4; rw [← Ny106.out] at ho4)); have n0_ := Aside0.mk (Kd.R_lower ho4 (below_size (by repeat (first | (with_reducible first | exact HB.out | apply below_alloc | apply pw_below_drewN | apply below_drew1) | exact HB.out)))); have n1_ := Aside0.mk (below_step (by repeat (first | (with_reducible first | exact HB.out | apply below_alloc | apply pw_below_drewN | apply below_drew1) | exact HB.out)) hb); clear HB; have HO108 := n0_; have HB := n1_; clear n0_ n1_; clear hb ho4) | ((with_reducible refine gate_builtin (b := .append) (xs := #[.tmp 5, .tmp 6]) rfl ?_); at_builtin; refine Kd.R_append_rows (Kd.int .u8) (w0 := w) w.heap.size rfl (.tmp 5) (.tmp 6) 22 5 (.int .u8 0) 1 rfl Try.underlying22 info5 rfl (by decide) (by omega) v107 y106 l0 _ _ _ (fun _ => True) (fun _ => False) rfl rfl ?aO ?aR (fun _ _ h => h) (fun _ h => h.elim) ?aF ?aB ?aS ?aL ?_; (case aR => repeat (first | exact (Kd.C_below HR0.out HB.out) | (with_reducible refine Kd.C_alloc ?_ _) | (with_reducible refine Kd.C_drewN ?_ _) | (with_reducible refine Kd.C_drew ?_))); (case aB => exact (by repeat (first | (with_reducible first | exact HB.out | apply below_alloc | apply pw_below_drewN | apply below_drew1) | exact HB.out))); (case aF => exact (fun _ _ => trivial)); (case aO => exact (by (with_reducible repeat (first | apply Kd.R_alloc | apply Kd.R_drewN | apply Kd.R_drew)); exact HO108.out)); (case aS => exact (below_size (by repeat (first | (with_reducible first | exact HB.out | apply below_alloc | apply pw_below_drewN | apply below_drew1) | exact HB.out)))); (case aL => have := LMc2.out; rw [Ny106.out]; simp only [List.length_nil]; omega); intro v110 w5 ho hb hg hat; have n0_ := Aside0.mk (hb); have n1_ := Aside0.mk (ho); clear HB; clear HO108; have HB := n0_; have HO111 := n1_; clear n0_ n1_; clear ho hb hg hat))
  go_ret
  have HO := HO111.out
  rw [Ny106.out, List.nil_append] at HO
  exact ⟨_, rfl, HO, by repeat (first | (with_reducible first | exact HB.out | apply below_alloc | apply pw_below_drewN | apply below_drew1) | exact HB.out)⟩
/-- All blocks but those of X stay. -/
structure Fr (X : Nat → Prop) (w w' : World) : Prop where
  os : w'.os = w.os
  tape : w'.tape = w.tape
  output : w'.output = w.output
  size : w.heap.size ≤ w'.heap.size
  block : ∀ k, k < w.heap.size → ¬ X k → w'.heap[k]? = w.heap[k]?
theorem Fr.refl (X : Nat → Prop) (w : World) : Fr X w w := ⟨rfl, rfl, rfl, Nat.le_refl _, fun _ _ _ => rfl⟩
theorem Fr.trans {X Y Z : Nat → Prop} {a b c : World} (h : Fr X a b) (k : Fr Y b c) (hx : ∀ i, X i → Z i) (hy : ∀ i, i < a.heap.size → Y i → Z i) : Fr Z a c :=
  ⟨k.os.trans h.os, k.tape.trans h.tape, k.output.trans h.output, Nat.le_trans h.size k.size, fun i hi hz => (k.block i (Nat.lt_of_lt_of_le hi h.size) (fun e => hz (hy i hi e))).trans (h.block i hi (fun e => hz (hx i e)))⟩
theorem Fr.mono {X Y : Nat → Prop} {a b : World} (h : Fr X a b) (hx : ∀ i, X i → Y i) : Fr Y a b := ⟨h.os, h.tape, h.output, h.size, fun i hi hy => h.block i hi (fun e => hy (hx i e))⟩
theorem Fr.of_below {X : Nat → Prop} {a b : World} (h : Below a.heap.size a b) : Fr X a b := ⟨h.os, h.tape, h.output, h.size, fun i hi _ => h.block i hi⟩
theorem Fr.set {X : Nat → Prop} {a b : World} (h : Fr X a b) {p : Addr} (hp : X p.block) (v : Value) : Fr X a (b.setCell p v) := by
  have hs := Below.setCell (Below.refl 0 b) (Nat.zero_le p.block) v
  exact ⟨hs.os.trans h.os, hs.tape.trans h.tape, hs.output.trans h.output, Nat.le_trans h.size hs.size, fun i hi hx => (Below.heap_setCell b p v i (fun e => hx (e ▸ hp))).trans (h.block i hi hx)⟩
theorem Fr.below {X : Nat → Prop} {B : Nat} {w0 a b : World} (hB : Below B w0 a) (h : Fr X a b) (hl : B ≤ a.heap.size) (hx : ∀ i, X i → B ≤ i) : Below B w0 b :=
  ⟨h.os.trans hB.os, h.tape.trans hB.tape, h.output.trans hB.output, Nat.le_trans hB.size h.size, fun i hi => (h.block i (Nat.lt_of_lt_of_le hi hl) (fun e => by have := hx i e; omega)).trans (hB.block i hi)⟩
/-- The struct lies in block g; its bytes are l, in a block of their own (not below base); it stands at at_. -/
def Rdr (w : World) (g base : Nat) (l : List Int) (at_ : Nat) (bad : Bool) : Prop :=
  ∃ A c, w.heap[g]? = some (.cells #[.slice A l.length c, .int .i64 at_, .bool bad] 50 (0, 0)) ∧ (Kd.int .u8).R 5 w base (fun k => k ≠ g) (.slice A l.length c) l ∧ at_ ≤ l.length ∧ l.length ≤ 1000000 ∧ base ≤ g
section
variable {w : World} {g base : Nat} {l : List Int} {at_ : Nat} {bad : Bool}
theorem Rdr.lt (h : Rdr w g base l at_ bad) : g < w.heap.size ∧ at_ ≤ l.length ∧ l.length ≤ 1000000 ∧ base ≤ g := by
  obtain ⟨A, c, hg, _, h1, h2, h3⟩ := h
  exact ⟨blk_lt hg, h1, h2, h3⟩
theorem Rdr.keep {X : Nat → Prop} {w' : World} (h : Rdr w g base l at_ bad) (hf : Fr X w w') (hg : ¬ X g) (hx : ∀ k, base ≤ k → k ≠ g → ¬ X k) : Rdr w' g base l at_ bad := by
  obtain ⟨A, c, h0, h1, h2⟩ := h
  refine ⟨A, c, (hf.block g (blk_lt h0) hg).trans h0, ?_, h2⟩
  have := Kd.R_bound h1
  refine Kd.R_mono (Kd.R_move this (fun k hk => hf.block k hk.2.2.1 (hx k hk.2.1 hk.1))) (fun k hk => hk.1)
theorem Rdr.below {w' : World} (h : Rdr w g base l at_ bad) (hb : Below w.heap.size w w') : Rdr w' g base l at_ bad :=
  h.keep (X := fun _ => False) (Fr.of_below hb) (fun h => h) (fun _ _ _ h => h)
theorem new_calls (A0 : Option Addr) (c0 : Nat) (l0 : List Int) (w : World) (hr0 : Kd.C (Kd.int .u8) w A0 l0.length l0) (hc0 : l0.length ≤ c0) (hlen : l0.length ≤ 1000000) :
    Calls Try.prog 9 #[.slice A0 l0.length c0] w fun e w' => ∃ g, e = .returned (.pointer (some ⟨g, 0, none⟩)) ∧ w.heap.size ≤ g ∧ Rdr w' g w.heap.size l0 0 false ∧ Below w.heap.size w w' := by
  have HR0 := Aside0.mk hr0
  clear hr0
  go_enter Try.func9, Try.ntmps9
  go_wp2_with fail
  refine (clone_calls A0 c0 l0 w HR0.out hc0 (by omega)).mono ?_
  rintro e w1 ⟨v, rfl, hv, hb1⟩
  obtain ⟨A, c, rfl, hlc, hC⟩ := Kd.R_reads hv
  have HV := Aside0.mk hv
  have HB := Aside0.mk hb1
  have hs := hb1.size
  clear hv hb1 hC
  go_wp2_with fail
  go_ret
  refine ⟨w1.heap.size, rfl, hs, ⟨A, c, blk_new _ _, ?_, Nat.zero_le _, hlen, hs⟩, below_alloc HB.out _⟩
  refine Kd.R_mono (Kd.R_bound (Kd.R_alloc HV.out _)) ?_
  rintro k hk rfl
  obtain ⟨_, _, _, q, hq, cells, hc⟩ := hk
  rw [blk_new] at hc
  injection hc with hc
  injection hc with _ hc
  rcases List.mem_cons.1 hq with rfl | hq
  · cases hc
  · simp [Kd.int, Kd.scalar] at hq
end
end Go.Proofs.Yteencbkopkpelaa.Hand
