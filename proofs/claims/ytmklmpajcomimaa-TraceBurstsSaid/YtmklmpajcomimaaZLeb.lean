import Derived.Test.YtmklmpajcomimaaYWMore
import Derived.Test.YtmklmpajcomimaaYWNEv
import Derived.Lib.SlBytesConst
import Derived.WalkSpells
import Derived.Test.YtmklmpajcomimaaProg
import Derived.Below
import Derived.Deep.Draws
import Derived.OwnWalk
import Derived.Tactics
import Derived.WalkKit
import Derived.KernelRfl
import Derived.RowKit3
import Derived.Deep.LoopGhost
import Derived.Deep.QuietTactic
import Derived.BigQuiet
import Derived.Laws.BitsLemmas
import Derived.RowKit
import Derived.WalkMore
import Derived.ScopeJumps
import Derived.Outline
import Derived.Lib.Hide
import Derived.Test.YtmklmpajcomimaaYTrP3
import Derived.Laws.BytesArg
import Derived.Laws.Strings
section
/- Small lemmas on rows of bytes in memory, over the words of the print. No condition beyond the hypotheses. -/
namespace Go.Proofs.Ytmklmpajcomimaa.Hand
open Go.RowKit Go.Proofs.YtmklmpajcomimaaW.PrintWords Go.Proofs.YtmklmpajcomimaaW.PrintLast Go.Proofs.YtmklmpajcomimaaW.PrintMore
set_option linter.unusedVariables false
set_option linter.unusedSimpArgs false

/-- A block that was just made (whatever its mark) reads as what was put in. -/
theorem C_new {w : World} {g : Nat} (hg : g = w.heap.size) (cs : Array Value) (e : TypeId) (r : Nat × Nat) {k : IntKind} (xs : List Int) (h : cs.toList = xs.map (Value.int k)) (hl : xs.length ≤ 9223372036854775807) :
    (Kd.int k).C (w.alloc (.cells cs e r)) (some ⟨g, 0, none⟩) xs.length xs := by
  subst hg
  refine ⟨rfl, hl, fun hp => ⟨_, rfl, fun j p hj => ⟨[.int k p], rfl, rfl, fun i u hi => ?_⟩⟩⟩
  have h1 : cs[j]? = some (.int k p) := by
    rw [← Array.getElem?_toList, h, List.getElem?_map, hj]; rfl
  cases i with
  | zero =>
    simp at hi
    subst hi
    show (w.alloc (Obj.cells cs e r)).cell? ((⟨w.heap.size, 0, none⟩ : Addr).add (j * 1 + 0)) = some (Value.int k p)
    rw [Nat.add_zero, Nat.mul_one, add_plain]
    have hb : (w.alloc (Obj.cells cs e r)).heap[w.heap.size]? = some (.cells cs e r) := by
      show (w.heap.push _)[w.heap.size]? = _
      simp
    rw [cell_of_row _ _ _ _ _ _ hb, h1]
  | succ i => simp at hi
/-- The same behind another new block. -/
theorem conv_const_next {P : Program} (w : World) (o : Obj) (t e : TypeId) (C : Array Value) (n c : Nat) (ht : P.underlying t = some (.slice e)) (he : P.underlying e = some (.int .u8)) :
    (convert t t (.slice (some ⟨w.heap.size + 1, 0, none⟩) n c)).run P ((w.alloc o).alloc (.cells C e)) = .ok (.slice (some ⟨w.heap.size + 1, 0, none⟩) n c) ((w.alloc o).alloc (.cells C e (C.size, C.size + 1))) := by
  have h := Lib.run_convert_bytes_const (P := P) (w.alloc o) t e C n c ht he
  have hs : (w.alloc o).heap.size = w.heap.size + 1 := by show (w.heap.push o).size = _; simp
  rw [hs] at h
  exact h
theorem size_alloc (w : World) (o : Obj) : (w.alloc o).heap.size = w.heap.size + 1 := by show (w.heap.push o).size = _; simp
/-- Two rows of a new slice of rows. -/
theorem C_two {w : World} {g e e' : Nat} {k : IntKind} {a b : Addr} {xs ys : List Int} {c d : Nat} {r : Nat × Nat} (hg : g = w.heap.size) (hx : (Kd.int k).C w (some a) xs.length xs) (hy : (Kd.int k).C w (some b) ys.length ys) (hc : xs.length ≤ c) (hd : ys.length ≤ d) :
    (Kd.slice e (Kd.int k)).C (w.alloc (.cells #[.slice (some a) xs.length c, .slice (some b) ys.length d] e' r)) (some ⟨g, 0, none⟩) [xs, ys].length [xs, ys] := by
  subst hg
  have hb : (w.alloc (Obj.cells #[.slice (some a) xs.length c, .slice (some b) ys.length d] e' r)).heap[w.heap.size]? = some (.cells #[.slice (some a) xs.length c, .slice (some b) ys.length d] e' r) := by
    show (w.heap.push _)[w.heap.size]? = _
    simp
  have hx' := Kd.C_alloc hx (Obj.cells #[.slice (some a) xs.length c, .slice (some b) ys.length d] e' r)
  have hy' := Kd.C_alloc hy (Obj.cells #[.slice (some a) xs.length c, .slice (some b) ys.length d] e' r)
  refine ⟨rfl, by simp, fun hp => ⟨_, rfl, fun j p hj => ?_⟩⟩
  have key : ∀ j v, (#[Value.slice (some a) xs.length c, .slice (some b) ys.length d])[j]? = some v → (w.alloc (Obj.cells #[.slice (some a) xs.length c, .slice (some b) ys.length d] e' r)).cell? ((⟨w.heap.size, 0, none⟩ : Addr).add (j * 1 + 0)) = some v := by
    intro j v hv
    rw [Nat.add_zero, Nat.mul_one, add_plain, cell_of_row _ _ _ _ _ _ hb, hv]
  rcases j with _ | _ | j
  · simp at hj
    subst hj
    refine ⟨[.slice (some a) xs.length c], rfl, ⟨_, _, rfl, hc, hx'⟩, fun i u hi => ?_⟩
    rcases i with _ | i
    · simp at hi
      subst hi
      exact key 0 _ rfl
    · simp at hi
  · simp at hj
    subst hj
    refine ⟨[.slice (some b) ys.length d], rfl, ⟨_, _, rfl, hd, hy'⟩, fun i u hi => ?_⟩
    rcases i with _ | i
    · simp at hi
      subst hi
      exact key 1 _ rfl
    · simp at hi
  · simp at hj
end Go.Proofs.Ytmklmpajcomimaa.Hand
end

section
/- What crc.one tells: eight steps of the register. No condition. -/
namespace Go.Proofs.Ytmklmpajcomimaa.Hand
open Go.RowKit
set_option linter.unusedVariables false
set_option linter.unusedSimpArgs false

/-- One step of the register. -/
def stp (x : Int) : Int := Go.bits .xor .u32 (x / 2) (Go.bits .and .u32 3988292384 (-Go.bits .and .u32 x 1 % 4294967296))
def stpN : Nat → Int → Int
  | 0, x => x
  | n + 1, x => stpN n (stp x)
theorem bits_nonneg (op : BinOp) (x y : Int) : 0 ≤ Go.bits op .u32 x y ∧ Go.bits op .u32 x y ≤ 4294967295 := by
  cases op <;> simp only [Go.bits, IntKind.wrap_u32] <;> omega
theorem stp_range (x : Int) : 0 ≤ stp x ∧ stp x ≤ 4294967295 := bits_nonneg _ _ _
def one (a0 a1 : Int) : Int := stpN 8 (Go.bits .xor .u32 a0 (a1 % 4294967296))

set_option maxRecDepth 1000000 in
set_option maxHeartbeats 1000000 in
theorem one_calls (a0 a1 : Int) (w : World) :
    Calls Try.prog 78 #[.int .u32 a0, .int .u8 a1] w fun e w' => e = .returned (.int .u32 (one a0 a1)) ∧ w = w' := by
  have hx := bits_nonneg .xor a0 (a1 % 4294967296)
  obtain ⟨x0, hx0⟩ : ∃ x0, x0 = Go.bits .xor .u32 a0 (a1 % 4294967296) := ⟨_, rfl⟩
  have H0 : one a0 a1 = stpN 8 x0 := by rw [hx0]; rfl
  rw [H0]
  rw [← hx0] at hx
  go_enter Try.func78, Try.ntmps78
  go_wp2
  refine wp_scope_jumps 0 (fun a' w' => w' = w ∧ ∃ (m : Nat) (x : Int) (u2 u3 u6 u7 u8 u9 u10 u11 u12 u13 u14 u15 u16 u17 u18 u19 u20 u21 u22 u23 u24 : Value), a' = { tmps := #[.int .u32 x, .int .u8 a1, u2, u3, .int .u32 0, .int .i64 m, u6, u7, u8, u9, u10, u11, u12, u13, u14, u15, u16, u17, u18, u19, u20, u21, u22, u23, u24], defers := [] } ∧ m < 8 ∧ 0 ≤ x ∧ x ≤ 4294967295 ∧ stpN (8 - m) x = stpN 8 x0) (fun a' _ => 8 - (intOf (a'.tmps.getD 5 undef)).toNat) rfl ?_ ?_
  · go_wp2
    go_step3
    go_wp2
    go_step3
    rw [← hx0]
    exact ⟨rfl, rfl, 1, stp x0, _, _, _, _, _, _, _, _, _, _, _, _, _, _, _, _, _, _, _, _, _, rfl, by omega, (stp_range x0).1, (stp_range x0).2, rfl⟩
  · rintro a' w' ⟨rfl, m, x, u2, u3, u6, u7, u8, u9, u10, u11, u12, u13, u14, u15, u16, u17, u18, u19, u20, u21, u22, u23, u24, rfl, hm, hx1, hx2, hs⟩
    clear hx0 H0
    have HS := Go.Lib.hid hs
    clear hs
    by_cases h7 : m < 7
    · go_wp2
      go_step3
      have e1 : ((m : Int) + 1) = ((m + 1 : Nat) : Int) := by omega
      rw [e1]
      refine ⟨rfl, ⟨rfl, m + 1, stp x, _, _, _, _, _, _, _, _, _, _, _, _, _, _, _, _, _, _, _, _, _, rfl, by omega, (stp_range x).1, (stp_range x).2, ?_⟩, ?_⟩
      · rw [← HS.out]
        obtain ⟨j, hj⟩ : ∃ j, 8 - m = j + 1 := ⟨7 - m, by omega⟩
        have : 8 - (m + 1) = j := by omega
        rw [hj, this]; rfl
      · simp [intOf]; omega
    · obtain rfl : m = 7 := by omega
      go_wp2
      simp only [Exit.jump]
      go_ret
      rw [← HS.out]
      exact ⟨rfl, rfl⟩
end Go.Proofs.Ytmklmpajcomimaa.Hand
end

section
/- A reader in memory: its struct block, its bytes; Clone, New, At, Bad, Left, End. -/
namespace Go.Proofs.Ytmklmpajcomimaa.Hand
open Go.RowKit Go.Proofs.YtmklmpajcomimaaW.PrintWords Go.Proofs.YtmklmpajcomimaaW.PrintLast Go.Proofs.YtmklmpajcomimaaW.PrintMore Go.Proofs.Ytmklmpajcomimaa.PTraceWrites
set_option linter.unusedVariables false
set_option linter.unusedSimpArgs false
theorem clone_nil (A0 : Option Addr) (c0 : Nat) (l0 : List Int) (w : World) (hr0 : Kd.C (Kd.int .u8) w A0 l0.length l0) (hA : A0 = none) :
    Calls Try.prog 50 #[.slice A0 l0.length c0] w fun e w' => ∃ v0_ : Value, e = .returned (v0_) ∧ Kd.R (Kd.int .u8) 5 w' w.heap.size (fun _ => True) v0_ l0 ∧ Below w.heap.size w w' := by
  subst hA
  have hl : l0 = [] := by
    cases l0 with
    | nil => rfl
    | cons a l => obtain ⟨ad, e, _⟩ := hr0.2.2 (by simp); cases e
  subst hl
  clear hr0
  have heq := fun (w : World) => Go.Lib.run_eql_slice_nil (P := Try.prog) w 29 5 none 0 c0 0 0 Try.underlying29
  simp only [Option.isNone_none] at heq
  change Calls Try.prog 50 #[.slice none 0 c0] w _
  go_enter Try.func50, Try.ntmps50
  go_wp2
  go_ret
  exact ⟨_, rfl, Kd.R_nil _ _ _ _ _, Below.refl _ _⟩
set_option maxHeartbeats 8000000 in
set_option maxRecDepth 100000 in
theorem clone_calls (A0 : Option Addr) (c0 : Nat) (l0 : List Int) (w : World) (hr0 : Kd.C (Kd.int .u8) w A0 l0.length l0) (hc0 : l0.length ≤ c0) (hlen : l0.length < 140737488355328) :
    Calls Try.prog 50 #[.slice A0 l0.length c0] w fun e w' => ∃ v0_ : Value, e = .returned (v0_) ∧ Kd.R (Kd.int .u8) 5 w' w.heap.size (fun _ => True) v0_ l0 ∧ Below w.heap.size w w' := by
  cases hA : A0 with
  | none => rw [← hA]; exact clone_nil A0 c0 l0 w hr0 hA
  | some ad =>
  rw [hA] at hr0
  clear hA
  have HR0 := Aside0.mk hr0
  have HC0 := Aside0.mk hc0
  have LMc2 := Aside0.mk hlen
  clear hr0 hc0 hlen
  have HB := Aside0.mk (Below.refl w.heap.size w)
  obtain ⟨y106, hy106⟩ : ∃ y_ : List Int, y_ = (([] : List Int)) := ⟨_, rfl⟩
  have Ny106 := Aside0.mk hy106
  clear hy106
  have heq := fun (w : World) => Go.Lib.run_eql_slice_nil (P := Try.prog) w 29 5 (some ad) l0.length c0 0 0 Try.underlying29
  simp only [Option.isNone_some] at heq
  go_enter Try.func50, Try.ntmps50
  go_wp2_with (first | ((with_reducible refine gate_dst (N := 5) rfl ?_); refine Kd.R_lit (Kd.int .u8) _ 5 ?hg (N := 5) ?hd (xs := ([] : List Int)) (inner := []) (ok := fun _ => True) (okp := fun _ => True) ?hr ?hp (fun _ hk => hk) trivial (Below.refl _ _) (Nat.le_refl _) (by simp) ?_; (case hd => rfl); (case hg => rfl); (case hr => first | (go_simp; done) | (go_simp; rfl)); (case hp => exact (Reps.none _ _)); intro v107 w3 ho4 hb hg_ hnew_; clear hg_ hnew_; (first | rw [← Ny106.out] at ho4 | (simp only [Int.reduceToNat] at ho4; rw [← Ny106.out] at ho4)); have n0_ := Aside0.mk (Kd.R_lower ho4 (below_size (by repeat (first | (with_reducible first | exact HB.out | apply below_alloc | apply pw_below_drewN | apply below_drew1) | exact HB.out)))); have n1_ := Aside0.mk (below_step (by repeat (first | (with_reducible first | exact HB.out | apply below_alloc | apply pw_below_drewN | apply below_drew1) | exact HB.out)) hb); clear HB; have HO108 := n0_; have HB := n1_; clear n0_ n1_; clear hb ho4) | ((with_reducible refine gate_builtin (b := .append) (xs := #[.tmp 5, .tmp 6]) rfl ?_); at_builtin; refine Kd.R_append_rows (Kd.int .u8) (w0 := w) w.heap.size rfl (.tmp 5) (.tmp 6) 29 5 (.int .u8 0) 1 rfl Try.underlying29 info5 rfl (by decide) (by omega) v107 y106 l0 _ _ _ (fun _ => True) (fun _ => False) rfl rfl ?aO ?aR (fun _ _ h => h) (fun _ h => h.elim) ?aF ?aB ?aS ?aL ?_; (case aR => repeat (first | exact (Kd.C_below HR0.out HB.out) | (with_reducible refine Kd.C_alloc ?_ _) | (with_reducible refine Kd.C_drewN ?_ _) | (with_reducible refine Kd.C_drew ?_))); (case aB => exact (by repeat (first | (with_reducible first | exact HB.out | apply below_alloc | apply pw_below_drewN | apply below_drew1) | exact HB.out))); (case aF => exact (fun _ _ => trivial)); (case aO => exact (by (with_reducible repeat (first | apply Kd.R_alloc | apply Kd.R_drewN | apply Kd.R_drew)); exact HO108.out)); (case aS => exact (below_size (by repeat (first | (with_reducible first | exact HB.out | apply below_alloc | apply pw_below_drewN | apply below_drew1) | exact HB.out)))); (case aL => have := LMc2.out; rw [Ny106.out]; simp only [List.length_nil]; omega); intro v110 w5 ho hb hg hat; have n0_ := Aside0.mk (hb); have n1_ := Aside0.mk (ho); clear HB; clear HO108; have HB := n0_; have HO111 := n1_; clear n0_ n1_; clear ho hb hg hat))
  go_ret
  have HO := HO111.out
  rw [Ny106.out, List.nil_append] at HO
  exact ⟨_, rfl, HO, by repeat (first | (with_reducible first | exact HB.out | apply below_alloc | apply pw_below_drewN | apply below_drew1) | exact HB.out)⟩
/-- All blocks but those of X stay. -/
structure Fr (X : Nat → Prop) (w w' : World) : Prop where
  os : w'.os = w.os
  tape : w'.tape = w.tape
  output : w'.output = w.output
  size : w.heap.size ≤ w'.heap.size
  block : ∀ k, k < w.heap.size → ¬ X k → w'.heap[k]? = w.heap[k]?
theorem Fr.refl (X : Nat → Prop) (w : World) : Fr X w w := ⟨rfl, rfl, rfl, Nat.le_refl _, fun _ _ _ => rfl⟩
theorem Fr.trans {X Y Z : Nat → Prop} {a b c : World} (h : Fr X a b) (k : Fr Y b c) (hx : ∀ i, X i → Z i) (hy : ∀ i, i < a.heap.size → Y i → Z i) : Fr Z a c :=
  ⟨k.os.trans h.os, k.tape.trans h.tape, k.output.trans h.output, Nat.le_trans h.size k.size, fun i hi hz => (k.block i (Nat.lt_of_lt_of_le hi h.size) (fun e => hz (hy i hi e))).trans (h.block i hi (fun e => hz (hx i e)))⟩
theorem Fr.mono {X Y : Nat → Prop} {a b : World} (h : Fr X a b) (hx : ∀ i, X i → Y i) : Fr Y a b := ⟨h.os, h.tape, h.output, h.size, fun i hi hy => h.block i hi (fun e => hy (hx i e))⟩
theorem Fr.of_below {X : Nat → Prop} {a b : World} (h : Below a.heap.size a b) : Fr X a b := ⟨h.os, h.tape, h.output, h.size, fun i hi _ => h.block i hi⟩
theorem Fr.set {X : Nat → Prop} {a b : World} (h : Fr X a b) {p : Addr} (hp : X p.block) (v : Value) : Fr X a (b.setCell p v) := by
  have hs := Below.setCell (Below.refl 0 b) (Nat.zero_le p.block) v
  exact ⟨hs.os.trans h.os, hs.tape.trans h.tape, hs.output.trans h.output, Nat.le_trans h.size hs.size, fun i hi hx => (Below.heap_setCell b p v i (fun e => hx (e ▸ hp))).trans (h.block i hi hx)⟩
theorem Fr.below {X : Nat → Prop} {B : Nat} {w0 a b : World} (hB : Below B w0 a) (h : Fr X a b) (hl : B ≤ a.heap.size) (hx : ∀ i, X i → B ≤ i) : Below B w0 b :=
  ⟨h.os.trans hB.os, h.tape.trans hB.tape, h.output.trans hB.output, Nat.le_trans hB.size h.size, fun i hi => (h.block i (Nat.lt_of_lt_of_le hi hl) (fun e => by have := hx i e; omega)).trans (hB.block i hi)⟩
/-- The struct lies in block g; its bytes are l, in a block of their own (not below base); it stands at at_. -/
def Rdr (w : World) (g base : Nat) (l : List Int) (at_ : Nat) (bad : Bool) : Prop :=
  ∃ A c, w.heap[g]? = some (.cells #[.slice A l.length c, .int .i64 at_, .bool bad] 106 (0, 0)) ∧ (Kd.int .u8).R 5 w base (fun k => k ≠ g) (.slice A l.length c) l ∧ at_ ≤ l.length ∧ l.length ≤ 1000000 ∧ base ≤ g
section
variable {w : World} {g base : Nat} {l : List Int} {at_ : Nat} {bad : Bool}
theorem Rdr.lt (h : Rdr w g base l at_ bad) : g < w.heap.size ∧ at_ ≤ l.length ∧ l.length ≤ 1000000 ∧ base ≤ g := by
  obtain ⟨A, c, hg, _, h1, h2, h3⟩ := h
  exact ⟨blk_lt hg, h1, h2, h3⟩
theorem Rdr.keep {X : Nat → Prop} {w' : World} (h : Rdr w g base l at_ bad) (hf : Fr X w w') (hg : ¬ X g) (hx : ∀ k, base ≤ k → k ≠ g → ¬ X k) : Rdr w' g base l at_ bad := by
  obtain ⟨A, c, h0, h1, h2⟩ := h
  refine ⟨A, c, (hf.block g (blk_lt h0) hg).trans h0, ?_, h2⟩
  have := Kd.R_bound h1
  refine Kd.R_mono (Kd.R_move this (fun k hk => hf.block k hk.2.2.1 (hx k hk.2.1 hk.1))) (fun k hk => hk.1)
theorem Rdr.below {w' : World} (h : Rdr w g base l at_ bad) (hb : Below w.heap.size w w') : Rdr w' g base l at_ bad :=
  h.keep (X := fun _ => False) (Fr.of_below hb) (fun h => h) (fun _ _ _ h => h)
theorem new_calls (A0 : Option Addr) (c0 : Nat) (l0 : List Int) (w : World) (hr0 : Kd.C (Kd.int .u8) w A0 l0.length l0) (hc0 : l0.length ≤ c0) (hlen : l0.length ≤ 1000000) :
    Calls Try.prog 59 #[.slice A0 l0.length c0] w fun e w' => ∃ g, e = .returned (.pointer (some ⟨g, 0, none⟩)) ∧ w.heap.size ≤ g ∧ Rdr w' g w.heap.size l0 0 false ∧ Below w.heap.size w w' := by
  have HR0 := Aside0.mk hr0
  clear hr0
  go_enter Try.func59, Try.ntmps59
  go_wp2_with fail
  refine (clone_calls A0 c0 l0 w HR0.out hc0 (by omega)).mono ?_
  rintro e w1 ⟨v, rfl, hv, hb1⟩
  obtain ⟨A, c, rfl, hlc, hC⟩ := Kd.R_reads hv
  have HV := Aside0.mk hv
  have HB := Aside0.mk hb1
  have hs := hb1.size
  clear hv hb1 hC
  go_wp2_with fail
  go_ret
  refine ⟨w1.heap.size, rfl, hs, ⟨A, c, blk_new _ _, ?_, Nat.zero_le _, hlen, hs⟩, below_alloc HB.out _⟩
  refine Kd.R_mono (Kd.R_bound (Kd.R_alloc HV.out _)) ?_
  rintro k hk rfl
  obtain ⟨_, _, _, q, hq, cells, hc⟩ := hk
  rw [blk_new] at hc
  injection hc with hc
  injection hc with _ hc
  rcases List.mem_cons.1 hq with rfl | hq
  · cases hc
  · simp [Kd.int, Kd.scalar] at hq
end
end Go.Proofs.Ytmklmpajcomimaa.Hand
end

section
/- Numbers as bytes, seven bits each: what Put writes, what Get reads, in plain lists. -/
namespace Go.Proofs.Ytmklmpajcomimaa.Hand
open Go Go.RowKit Go.Proofs.YtmklmpajcomimaaW.PrintWords Go.Proofs.YtmklmpajcomimaaW.PrintLast Go.Proofs.YtmklmpajcomimaaW.PrintMore Go.Proofs.Ytmklmpajcomimaa.PTraceWrites
set_option linter.unusedVariables false
theorem pow_le {i j : Nat} (h : i ≤ j) : (128 : Int) ^ i ≤ 128 ^ j := by
  have := Nat.pow_le_pow_right (n := 128) (by decide) h
  exact_mod_cast this
/-- All are bytes. -/
def Bytes (l : List Int) : Prop := ∀ c ∈ l, 0 ≤ c ∧ c < 256
def numL : Nat → Int → List Int
  | 0, n => [n]
  | k + 1, n => if n < 128 then [n] else (n % 128 + 128) :: numL k (n / 128)
/-- A number's bytes; none of one below 0. -/
def num (n : Int) : List Int := if n < 0 then [] else numL 8 n
def scan : Nat → List Int → Int → Int → Nat → Option (Int × Nat)
  | 0, _, _, _, _ => none
  | _ + 1, [], _, _, _ => none
  | k + 1, c :: t, acc, p, i => if c < 128 then some (acc + c % 128 * p, i + 1) else scan k t (acc + c % 128 * p) (p * 128) (i + 1)
/-- The number with which bytes begin, and how many bytes it has; (0, 0): there is none. -/
def getP (l : List Int) : Int × Nat :=
  match scan 9 l 0 1 0 with
  | none => (0, 0)
  | some (n, k) => if num n = l.take k then (n, k) else (0, 0)
theorem wrap_of {n : Int} (h0 : -9223372036854775808 ≤ n) (h1 : n < 9223372036854775808) : wrap64 n = n := by
  unfold wrap64
  omega
theorem numL_len : ∀ (k : Nat) (n : Int), 1 ≤ (numL k n).length ∧ (numL k n).length ≤ k + 1
  | 0, n => by simp [numL]
  | k + 1, n => by
    have := numL_len k (n / 128)
    unfold numL
    split <;> simp <;> omega
theorem num_len (n : Int) : (num n).length ≤ 9 := by
  unfold num
  split
  · simp
  · exact (numL_len 8 n).2
theorem numL_bytes : ∀ (k : Nat) (n : Int), 0 ≤ n → n < 128 ^ (k + 1) → Bytes (numL k n)
  | 0, n, h0, h1 => by
    intro c hc
    simp [numL] at hc h1
    omega
  | k + 1, n, h0, h1 => by
    unfold numL
    have hp : (128 : Int) ^ (k + 1 + 1) = 128 ^ (k + 1) * 128 := Int.pow_succ ..
    split
    · intro c hc
      simp at hc
      omega
    · intro c hc
      rcases List.mem_cons.1 hc with rfl | hc
      · omega
      · exact numL_bytes k (n / 128) (by omega) (by rw [hp] at h1; omega) c hc
theorem put_l0 : ∀ (j k : Nat) (x : List Int) (n : Int), 0 ≤ n → n < 128 ^ (j + 1) → j ≤ 8 → j < k → x.length + j < 140737488355328 → leb_Put.l0 k x n = some (x ++ numL j n)
  | 0, k, x, n, h0, h1, hj, hk, hx => by
    obtain ⟨k, rfl⟩ : ∃ m, k = m + 1 := ⟨k - 1, by omega⟩
    have h1' : n < 128 := h1
    rw [leb_Put.l0, if_neg (by omega), if_pos (by omega), show n % 256 = n by omega]
    rfl
  | j + 1, k, x, n, h0, h1, hj, hk, hx => by
    obtain ⟨k, rfl⟩ : ∃ m, k = m + 1 := ⟨k - 1, by omega⟩
    have hp : (128 : Int) ^ (j + 1 + 1) = 128 ^ (j + 1) * 128 := Int.pow_succ ..
    have hb : (128 : Int) ^ (j + 1 + 1) ≤ 128 ^ 9 := pow_le (by omega)
    have hb' : (128 : Int) ^ 9 = 9223372036854775808 := by decide
    rw [leb_Put.l0]
    unfold numL
    by_cases hn : n < 128
    · rw [if_neg (by omega), if_pos (by omega), if_pos hn, show n % 256 = n by omega]
    · rw [if_pos (by omega), if_pos (by omega), if_neg hn, Int.tmod_eq_emod_of_nonneg h0, Int.tdiv_eq_ediv_of_nonneg h0, wrap_of (n := n % 128 + 128) (by omega) (by omega), wrap_of (n := n / 128) (by omega) (by omega), show (n % 128 + 128) % 256 = n % 128 + 128 by omega]
      rw [put_l0 j k _ (n / 128) (by omega) (by rw [hp] at h1; omega) (by omega) (by omega) (by rw [List.length_append]; simp; omega), List.append_assoc]
      rfl
/-- What Put writes. -/
theorem put_is (x : List Int) (n : Int) (hn : n < 9223372036854775808) (hx : x.length ≤ 140737488355000) : leb_Put.f 20 x n = some (x ++ num n) := by
  unfold leb_Put.f num
  by_cases h : n < 0
  · rw [if_pos h, if_pos h, List.append_nil]
  · rw [if_neg h, if_neg h]
    exact put_l0 8 20 x n (by omega) hn (by omega) (by omega) (by omega)
theorem put_more {k : Nat} {x : List Int} {n : Int} {r : List Int} (h : leb_Put.f k x n = some r) : ∀ d, leb_Put.f (k + d) x n = some r
  | 0 => h
  | d + 1 => leb_Put.mono x n (k + d) r (put_more h d)
theorem or_join (i : Nat) (x y : Int) (hx0 : 0 ≤ x) (hx : x < 2 ^ i) (hy0 : 0 ≤ y) (hy : y % 2 ^ i = 0) (hx1 : x < 9223372036854775808) (hy1 : y < 9223372036854775808) : Go.bits .or .i64 x y = x + y := by
  have hw : ∀ n : Int, 0 ≤ n → n < 2 ^ 63 → IntKind.i64.wrap n = n := fun n h0 h1 => by rw [IntKind.wrap_i64]; omega
  have h := bits_join .i64 63 (by decide) hw i y x hy0 hy hy1 hx0 hx hx1
  obtain ⟨a, rfl⟩ := Int.eq_ofNat_of_zero_le hx0
  obtain ⟨b, rfl⟩ := Int.eq_ofNat_of_zero_le hy0
  have ha : a < 2 ^ 63 := by omega
  have hb : b < 2 ^ 63 := by omega
  rw [(bits_nat .i64 63 (by decide) hw a b ha hb).2]
  rw [(bits_nat .i64 63 (by decide) hw b a hb ha).2] at h
  rw [Nat.or_comm, h]
  omega
theorem pow7 (i : Nat) : (2 : Int) ^ (7 * i) = 128 ^ i := by rw [Int.pow_mul]; rfl
theorem shl7 (i : Nat) (v : Int) (hi : i ≤ 8) (h0 : 0 ≤ v) (h1 : v < 128) : shl .i64 v (wrap64 (7 * (i : Int))) = v * 128 ^ i := by
  have hb : (128 : Int) ^ i ≤ 128 ^ 8 := pow_le hi
  have hp : (0 : Int) < 128 ^ i := Int.pow_pos (by decide)
  have hb' : (128 : Int) ^ 8 = 72057594037927936 := by decide
  rw [wrap_of (by omega) (by omega)]
  unfold shl
  have e : min (7 * (i : Int)).toNat IntKind.i64.bits = 7 * i := by
    have : IntKind.i64.bits = 64 := by decide
    rw [this]
    omega
  rw [e, pow7, i64_w]
  have h2 : v * 128 ^ i ≤ 127 * 128 ^ i := Int.mul_le_mul_of_nonneg_right (by omega) (by omega)
  have h3 : 0 ≤ v * 128 ^ i := Int.mul_nonneg h0 (by omega)
  exact wrap_of (by omega) (by omega)
theorem scan_facts : ∀ (k : Nat) (l : List Int) (acc p : Int) (i : Nat) (n : Int) (j : Nat), 0 ≤ acc → acc < p → 0 ≤ p → scan k l acc p i = some (n, j) → i < j ∧ j ≤ i + k ∧ j ≤ i + l.length ∧ 0 ≤ n ∧ n < p * 128 ^ k
  | 0, l, acc, p, i, n, j, h0, h1, hp, h => by simp [scan] at h
  | k + 1, [], acc, p, i, n, j, h0, h1, hp, h => by simp [scan] at h
  | k + 1, c :: t, acc, p, i, n, j, h0, h1, hp, h => by
    have hc0 : 0 ≤ c % 128 := by omega
    have hc1 : c % 128 ≤ 127 := by omega
    have hm0 : 0 ≤ c % 128 * p := Int.mul_nonneg hc0 hp
    have hm1 : c % 128 * p ≤ 127 * p := Int.mul_le_mul_of_nonneg_right hc1 hp
    have hpk : p * 128 ^ (k + 1) = p * 128 * 128 ^ k := by rw [Int.pow_succ, Int.mul_comm (128 ^ k) 128, Int.mul_assoc]
    unfold scan at h
    split at h
    · simp only [Option.some.injEq, Prod.mk.injEq] at h
      obtain ⟨rfl, rfl⟩ := h
      have h1k : (1 : Int) ≤ 128 ^ k := by have := pow_le (Nat.zero_le k); simpa using this
      have h2 : p * 128 * 1 ≤ p * 128 * 128 ^ k := Int.mul_le_mul_of_nonneg_left h1k (by omega)
      refine ⟨by omega, by omega, by simp, by omega, ?_⟩
      rw [hpk]
      omega
    · obtain ⟨h2, h3, h4, h5, h6⟩ := scan_facts k t _ _ _ n j (by omega) (by omega) (by omega) h
      refine ⟨by omega, by omega, by simp; omega, h5, ?_⟩
      rw [hpk]
      exact h6
/-- What is known of a number that was read. -/
theorem getP_facts {l : List Int} {n : Int} {k : Nat} (h : getP l = (n, k)) : k ≤ l.length ∧ k ≤ 9 ∧ 0 ≤ n ∧ n < 9223372036854775808 ∧ (k ≠ 0 → num n = l.take k) ∧ (k = 0 → n = 0) := by
  unfold getP at h
  split at h
  · simp only [Prod.mk.injEq] at h
    obtain ⟨rfl, rfl⟩ := h
    refine ⟨by omega, by omega, by omega, by omega, fun h => absurd rfl h, fun _ => rfl⟩
  · rename_i m j hs
    obtain ⟨h2, h3, h4, h5, h6⟩ := scan_facts _ _ _ _ _ _ _ (by omega) (by omega) (by omega) hs
    have hb' : (128 : Int) ^ 9 = 9223372036854775808 := by decide
    split at h
    · simp only [Prod.mk.injEq] at h
      obtain ⟨rfl, rfl⟩ := h
      refine ⟨by omega, by omega, by omega, by omega, fun _ => by assumption, fun h => by omega⟩
    · simp only [Prod.mk.injEq] at h
      obtain ⟨rfl, rfl⟩ := h
      refine ⟨by omega, by omega, by omega, by omega, fun h => absurd rfl h, fun _ => rfl⟩
theorem scan_numL : ∀ (j : Nat) (n : Int) (t : List Int) (acc p : Int) (i : Nat), 0 ≤ n → n < 128 ^ (j + 1) → scan (j + 1) (numL j n ++ t) acc p i = some (acc + n * p, i + (numL j n).length)
  | 0, n, t, acc, p, i, h0, h1 => by
    have h1' : n < 128 := h1
    show scan 1 (n :: t) acc p i = _
    rw [scan, if_pos h1', show n % 128 = n by omega]
    rfl
  | j + 1, n, t, acc, p, i, h0, h1 => by
    have hp : (128 : Int) ^ (j + 1 + 1) = 128 ^ (j + 1) * 128 := Int.pow_succ ..
    unfold numL
    by_cases hn : n < 128
    · rw [if_pos hn]
      show scan (j + 1 + 1) (n :: t) acc p i = _
      rw [scan, if_pos hn, show n % 128 = n by omega]
      rfl
    · rw [if_neg hn]
      show scan (j + 1 + 1) ((n % 128 + 128) :: (numL j (n / 128) ++ t)) acc p i = _
      rw [scan, if_neg (by omega), scan_numL j (n / 128) t _ _ _ (by omega) (by rw [hp] at h1; omega)]
      congr 2
      · have e1 : (n % 128 + 128) % 128 = n % 128 := by omega
        have e2 : n = n % 128 + 128 * (n / 128) := by omega
        rw [e1]
        have e3 : n * p = n % 128 * p + n / 128 * (p * 128) := by
          have e4 : n / 128 * (p * 128) = 128 * (n / 128) * p := by rw [Int.mul_comm p 128, ← Int.mul_assoc, Int.mul_comm (n / 128) 128]
          rw [e4, ← Int.add_mul, ← e2]
        omega
      · simp only [List.length_cons]
        omega
/-- What was written is read, whatever stands behind. -/
theorem getP_num (n : Int) (t : List Int) (h0 : 0 ≤ n) (h1 : n < 9223372036854775808) : getP (num n ++ t) = (n, (num n).length) := by
  have hb' : (128 : Int) ^ 9 = 9223372036854775808 := by decide
  have e : num n = numL 8 n := if_neg (by omega)
  unfold getP
  rw [e, scan_numL 8 n t 0 1 0 h0 (by rw [hb']; exact h1)]
  simp only [Int.zero_add, Int.mul_one, Nat.zero_add]
  rw [List.take_left' rfl, if_pos e]
theorem str_data (a : List Int) : (strOfNums a).toList = a.map fun n => UInt8.ofNat n.toNat := by
  rw [ByteArray.toList_eq]
  rfl
theorem map_inj : ∀ {a b : List Int}, Bytes a → Bytes b → (a.map fun n => UInt8.ofNat n.toNat) = (b.map fun n => UInt8.ofNat n.toNat) → a = b
  | [], [], _, _, _ => rfl
  | [], _ :: _, _, _, h => by simp at h
  | _ :: _, [], _, _, h => by simp at h
  | x :: a, y :: b, ha, hb, h => by
    simp only [List.map_cons, List.cons.injEq] at h
    have hx := ha x (List.mem_cons_self ..)
    have hy := hb y (List.mem_cons_self ..)
    have e : x = y := by
      have := congrArg UInt8.toNat h.1
      simp only [UInt8.toNat_ofNat'] at this
      omega
    rw [e, map_inj (fun c hc => ha c (List.mem_cons_of_mem _ hc)) (fun c hc => hb c (List.mem_cons_of_mem _ hc)) h.2]
theorem nums_eq {a b : List Int} (ha : Bytes a) (hb : Bytes b) : ((strOfNums a).toList == (strOfNums b).toList) = decide (a = b) := by
  rw [str_data, str_data]
  by_cases h : a = b
  · subst h; simp
  · rw [decide_eq_false h]
    exact beq_eq_false_iff_ne.mpr (fun e => h (map_inj ha hb e))
theorem equal_is {a b : List Int} (ha : Bytes a) (hb : Bytes b) : bytes_Equal.f a b = some (decide (a = b)) := by
  unfold bytes_Equal.f
  rw [nums_eq ha hb]
theorem Bytes.take {l : List Int} (h : Bytes l) (k : Nat) : Bytes (l.take k) := fun c hc => h c (List.mem_of_mem_take hc)
theorem Bytes.drop {l : List Int} (h : Bytes l) (k : Nat) : Bytes (l.drop k) := fun c hc => h c (List.mem_of_mem_drop hc)
theorem num_bytes (n : Int) (h1 : n < 9223372036854775808) : Bytes (num n) := by
  have hb' : (128 : Int) ^ 9 = 9223372036854775808 := by decide
  unfold num
  split
  · intro c hc; cases hc
  · exact numL_bytes 8 n (by omega) (by rw [hb']; exact h1)
/-- What a number that was found tells: whether it is written so. -/
def outc (l : List Int) : Option (Int × Nat) → Int × Int
  | none => (0, 0)
  | some (n, k) => if num n = l.take k then (n, (k : Int)) else (0, 0)
theorem outc_getP (l : List Int) : outc l (scan 9 l 0 1 0) = ((getP l).1, ((getP l).2 : Int)) := by
  unfold getP outc
  split
  · rfl
  · split <;> rfl
theorem get_l0 (l : List Int) (hb : Bytes l) (hl : l.length ≤ 140737488355000) : ∀ (d i k : Nat) (acc : Int), i + d = 9 → 0 ≤ acc → acc < 128 ^ i → 2 * d + 24 ≤ k → leb_Get.l0 k l acc (i : Int) = some (outc l (scan d (l.drop i) acc (128 ^ i) i))
  | 0, i, k, acc, hi, h0, h1, hk => by
    obtain ⟨k, rfl⟩ : ∃ m, k = m + 2 := ⟨k - 2, by omega⟩
    obtain rfl : i = 9 := by omega
    have e : decide (((9 : Nat) : Int) < 9) = false := by decide
    rw [leb_Get.l0, e]
    split <;> rw [leb_Get.j1, if_neg (by decide)] <;> rfl
  | d + 1, i, k, acc, hi, h0, h1, hk => by
    obtain ⟨k, rfl⟩ : ∃ m, k = m + 2 := ⟨k - 2, by omega⟩
    have hpi : (128 : Int) ^ i ≤ 128 ^ 8 := pow_le (by omega)
    have hp8 : (128 : Int) ^ 8 = 72057594037927936 := by decide
    have hpp : (0 : Int) < 128 ^ i := Int.pow_pos (by decide)
    have hps : (128 : Int) ^ (i + 1) = 128 ^ i * 128 := Int.pow_succ ..
    rw [leb_Get.l0]
    by_cases hlt : i < l.length
    · have e9 : decide ((i : Int) < 9) = true := decide_eq_true (by omega)
      have ec : rd l (i : Int) = l[i] := by
        unfold rd
        rw [Int.toNat_natCast, List.getD_eq_getElem?_getD, List.getElem?_eq_getElem hlt]
        rfl
      have hc := hb l[i] (List.getElem_mem hlt)
      have hdr : l.drop i = l[i] :: l.drop (i + 1) := List.drop_eq_getElem_cons hlt
      have w1 : wrap64 (7 * (i : Int)) = 7 * (i : Int) := wrap_of (by omega) (by omega)
      have w2 : wrap64 ((i : Int) + 1) = ((i + 1 : Nat) : Int) := by rw [wrap_of (by omega) (by omega)]; omega
      rw [if_pos (by omega), leb_Get.j1, if_pos e9, if_pos (by omega), if_pos (by omega), ec, hdr]
      generalize l[i] = c at hc ⊢
      have hv : wrap64 (Int.tmod c 128) = c % 128 := by rw [Int.tmod_eq_emod_of_nonneg hc.1]; exact wrap_of (by omega) (by omega)
      rw [hv, shl7 i (c % 128) (by omega) (by omega) (by omega)]
      have hm0 : 0 ≤ c % 128 * 128 ^ i := Int.mul_nonneg (by omega) (by omega)
      have hm1 : c % 128 * 128 ^ i ≤ 127 * 128 ^ i := Int.mul_le_mul_of_nonneg_right (by omega) (by omega)
      have hor : Go.bits .or .i64 acc (c % 128 * 128 ^ i) = acc + c % 128 * 128 ^ i := or_join (7 * i) _ _ h0 (by rw [pow7]; exact h1) hm0 (by rw [pow7]; exact Int.mul_emod_left _ _) (by omega) (by omega)
      rw [hor, w2, if_pos (by omega), scan]
      by_cases hc8 : c < 128
      · rw [if_neg (by omega), if_pos hc8, show k = 20 + (k - 20) by omega, put_more (put_is [] _ (by omega) (by simp)) (k - 20)]
        simp only [Option.bind_some, List.nil_append]
        rw [if_pos (by omega), if_pos (by omega), Int.toNat_natCast, equal_is (num_bytes _ (by omega)) (hb.take _)]
        simp only [Option.bind_some, outc]
        split <;> rename_i hd
        · rw [if_pos (of_decide_eq_true hd)]
        · rw [if_neg (fun e => hd (decide_eq_true e))]
      · rw [if_pos (by omega), if_neg hc8, get_l0 l hb hl d (i + 1) k _ (by omega) (by omega) (by rw [hps]; omega) (by omega), hps]
    · rw [if_neg (by omega), leb_Get.j1, if_neg (by decide), List.drop_eq_nil_of_le (by omega)]
      rfl
/-- What Get reads. -/
theorem get_is (l : List Int) (hb : Bytes l) (hl : l.length ≤ 140737488355000) : leb_Get.f 50 l = some ((getP l).1, ((getP l).2 : Int)) := by
  unfold leb_Get.f
  have h := get_l0 l hb hl 9 0 50 0 (by omega) (by omega) (by decide) (by omega)
  rw [List.drop_zero] at h
  exact h.trans (congrArg some (outc_getP l))
abbrev bs (t : ByteArray) : List Int := Go.Proofs.YtmklmpajcomimaaW.PrintWords.bytesOf t
theorem bs_bytes (s : ByteArray) : Bytes (bs s) := by
  intro c hc
  simp only [bs, Go.Proofs.YtmklmpajcomimaaW.PrintWords.bytesOf, List.mem_map] at hc
  obtain ⟨b, _, rfl⟩ := hc
  have := b.toNat_lt
  omega
theorem bs_len (s : ByteArray) : (bs s).length = s.size := bytesOf_length s
theorem bs_str {l : List Int} (h : Bytes l) : bs (strOfNums l) = l := by
  simp only [bs, Go.Proofs.YtmklmpajcomimaaW.PrintWords.bytesOf, strOfNums_data, List.map_map]
  refine (List.map_congr_left fun c hc => ?_).trans (List.map_id l)
  have := h c hc
  simp only [Function.comp, UInt8.toNat_ofNat', id]
  omega
theorem bs_inj {s t : ByteArray} (h : bs s = bs t) : s = t := by
  have e1 : strOfNums (bs s) = s := by
    simp only [strOfNums, bs, Go.Proofs.YtmklmpajcomimaaW.PrintWords.bytesOf, List.map_map]
    have : ((fun n : Int => UInt8.ofNat n.toNat) ∘ fun b : UInt8 => (b.toNat : Int)) = id := by
      funext b
      simp
    rw [this, List.map_id]
  have e2 : strOfNums (bs t) = t := by
    simp only [strOfNums, bs, Go.Proofs.YtmklmpajcomimaaW.PrintWords.bytesOf, List.map_map]
    have : ((fun n : Int => UInt8.ofNat n.toNat) ∘ fun b : UInt8 => (b.toNat : Int)) = id := by
      funext b
      simp
    rw [this, List.map_id]
  rw [← e1, h, e2]
theorem str_bs (s : ByteArray) : strOfNums (bs s) = s := bs_inj (bs_str (bs_bytes s))
theorem bs_append (s t : ByteArray) : bs (s ++ t) = bs s ++ bs t := by
  simp [bs, Go.Proofs.YtmklmpajcomimaaW.PrintWords.bytesOf, ByteArray.data_append]
theorem bs_take (t : ByteArray) (n : Nat) : (bs t).take n = bs (t.extract 0 n) := by
  simp [bs, Go.Proofs.YtmklmpajcomimaaW.PrintWords.bytesOf, ByteArray.data_extract, List.map_take]
theorem bs_drop (t : ByteArray) (n : Nat) : (bs t).drop n = bs (t.extract n t.size) := by
  simp only [bs, Go.Proofs.YtmklmpajcomimaaW.PrintWords.bytesOf, ByteArray.data_extract, Array.toList_extract, List.extract_eq_take_drop, ← List.map_drop]
  congr 1
  rw [List.take_of_length_le]
  rw [List.length_drop, Array.length_toList]
  show t.data.size - n ≤ t.data.size - n
  omega
theorem strOf_append (a b : List Int) : strOfNums (a ++ b) = strOfNums a ++ strOfNums b := by
  simp [strOfNums]
  rfl
theorem bt_bs {s : ByteArray} {i : Nat} (h : i < s.size) : bt s (i : Int) = (bs s)[i]'(by rw [bs_len]; exact h) := by
  unfold bt
  rw [dif_pos (by rw [Int.toNat_natCast]; exact h)]
  simp [bs, Go.Proofs.YtmklmpajcomimaaW.PrintWords.bytesOf]
  rfl
/-- The text with which bytes begin, if it may be so long, and how many bytes it has. -/
def getS (l : List Int) (most : Int) : List Int × Nat :=
  if (getP l).2 = 0 ∨ (getP l).1 > most ∨ (getP l).1 > (l.length : Int) - (getP l).2 then ([], 0)
  else ((l.drop (getP l).2).take (getP l).1.toNat, (getP l).2 + (getP l).1.toNat)
theorem getS_facts {l : List Int} {most : Int} {t : List Int} {k : Nat} (h : getS l most = (t, k)) : k ≤ l.length ∧ t.length ≤ k := by
  obtain ⟨n, j, hg⟩ : ∃ n j, getP l = (n, j) := ⟨_, _, rfl⟩
  have hf := getP_facts hg
  unfold getS at h
  rw [hg] at h
  simp only at h
  split at h <;> simp only [Prod.mk.injEq] at h <;> obtain ⟨rfl, rfl⟩ := h
  · exact ⟨Nat.zero_le _, Nat.le_refl _⟩
  · rename_i hn
    have := List.length_take_le n.toNat (l.drop j)
    omega
end Go.Proofs.Ytmklmpajcomimaa.Hand
end

section
/- What a reader tells: At, Bad, Left, End; what it reads: Int, Byte, Str. -/
namespace Go.Proofs.Ytmklmpajcomimaa.Hand
open Go.RowKit Go.Proofs.YtmklmpajcomimaaW.PrintWords Go.Proofs.YtmklmpajcomimaaW.PrintLast Go.Proofs.YtmklmpajcomimaaW.PrintMore Go.Proofs.Ytmklmpajcomimaa.PTraceWrites
set_option linter.unusedVariables false
set_option linter.unusedSimpArgs false
theorem Drawn0.below {w w' : World} (h : Drawn0 w w') : Below w.heap.size w w' := by
  obtain ⟨n, rfl⟩ := h.out
  exact pw_below_drewN (Below.refl _ _) _
section
variable {w : World} {g base : Nat} {l : List Int} {at_ : Nat} {bad : Bool}
theorem Rdr.cells (h : Rdr w g base l at_ bad) : ∃ A c, w.cell? ⟨g, 0, none⟩ = some (.slice A l.length c) ∧ w.cell? ⟨g, 1, none⟩ = some (.int .i64 at_) ∧ w.cell? ⟨g, 2, none⟩ = some (.bool bad) ∧ (∀ i, w.frozen? ⟨g, i, none⟩ = false) ∧ Kd.C (Kd.int .u8) w A l.length l ∧ l.length ≤ c := by
  obtain ⟨A, c, hg, hr, _⟩ := h
  obtain ⟨A', c', he, hl, hC⟩ := Kd.R_reads hr
  injection he with e1 e2 e3
  subst e1 e3
  exact ⟨A, c, (blk_cell hg 0).trans rfl, (blk_cell hg 1).trans rfl, (blk_cell hg 2).trans rfl, fun i => blk_frozen hg i, hC, hl⟩
theorem left_calls (h : Rdr w g base l at_ bad) : Calls Try.prog 77 #[.pointer (some ⟨g, 0, none⟩)] w fun e w' => e = .returned (.int .i64 ((l.length : Int) - at_)) ∧ Drawn0 w w' := by
  obtain ⟨A, c, h0, h1, h2, hf, hC, hl⟩ := h.cells
  have hlt := h.lt
  clear hC h hf
  go_enter Try.func77, Try.ntmps77
  go_wp2_with fail
  go_quiet (fail)
  go_wp2
  go_ret
  exact ⟨rfl, ⟨_, rfl⟩⟩
theorem end_calls (h : Rdr w g base l at_ bad) : Calls Try.prog 63 #[.pointer (some ⟨g, 0, none⟩)] w fun e w' => e = .returned (.bool (!bad && decide (at_ = l.length))) ∧ Drawn0 w w' := by
  obtain ⟨A, c, h0, h1, h2, hf, hC, hl⟩ := h.cells
  have hlt := h.lt
  have H := Lib.hid h
  clear hC h hf
  cases bad
  · by_cases hz : at_ = l.length
    · have hz' : ((l.length : Int) - at_ == 0) = true := beq_iff_eq.mpr (by omega)
      have e : decide (at_ = l.length) = true := decide_eq_true hz
      have E := Lib.hid e
      clear hz e
      go_enter Try.func63, Try.ntmps63
      go_wp2_with fail
      refine (left_calls H.out).mono ?_
      rintro e w1 ⟨rfl, hd⟩
      have HD := Lib.hid hd
      clear hd
      go_wp2_with fail
      go_ret
      rw [E.out]
      exact ⟨rfl, HD.out⟩
    · have hz' : ((l.length : Int) - at_ == 0) = false := beq_eq_false_iff_ne.mpr (by omega)
      have e : decide (at_ = l.length) = false := decide_eq_false hz
      have E := Lib.hid e
      clear hz e
      go_enter Try.func63, Try.ntmps63
      go_wp2_with fail
      refine (left_calls H.out).mono ?_
      rintro e w1 ⟨rfl, hd⟩
      have HD := Lib.hid hd
      clear hd
      go_wp2_with fail
      go_ret
      rw [E.out]
      exact ⟨rfl, HD.out⟩
  · go_enter Try.func63, Try.ntmps63
    go_wp2_with fail
    go_ret
    exact ⟨rfl, ⟨0, rfl⟩⟩
end
theorem getstr_none (A : Option Addr) (c : Nat) (l : List Int) (most : Int) (w : World) (hr : Kd.C (Kd.int .u8) w A l.length l) (hc : l.length ≤ c) (hb : Bytes l) (hl : l.length ≤ 1000000) (n : Int) (k : Nat) (hg : getP l = (n, k)) (hn : k = 0 ∨ n > most ∨ n > (l.length : Int) - k) :
    Calls Try.prog 74 #[.slice A l.length c, .int .i64 most] w fun e w' => e = .returned (.tuple #[.string ⟨#[]⟩, .int .i64 0]) ∧ Below w.heap.size w w' := by
  have HR := Lib.hid hr
  have hf := getP_facts hg
  have hgi := get_is l hb (by omega)
  rw [hg] at hgi
  have HG := Lib.hid hgi
  clear hr hgi
  rcases (show k = 0 ∨ (k ≠ 0 ∧ most < n) ∨ (k ≠ 0 ∧ ¬ most < n ∧ (l.length : Int) - k < n) by omega) with h | ⟨h1, h⟩ | ⟨h1, h2, h⟩
  · subst h
    go_enter Try.func74, Try.ntmps74
    go_wp2_with fail
    refine (leb_Get.calls 50 A c l n ((0 : Nat) : Int) w HR.out hc HG.out).mono ?_
    rintro e w1 ⟨rfl, hb1⟩
    go_wp2_with fail
    go_ret2
    exact ⟨rfl, hb1⟩
  · have hk : ((k : Int) == 0) = false := beq_eq_false_iff_ne.mpr (by omega)
    go_enter Try.func74, Try.ntmps74
    go_wp2_with fail
    refine (leb_Get.calls 50 A c l n (k : Int) w HR.out hc HG.out).mono ?_
    rintro e w1 ⟨rfl, hb1⟩
    go_wp2_with fail
    go_ret2
    exact ⟨rfl, hb1⟩
  · have hk : ((k : Int) == 0) = false := beq_eq_false_iff_ne.mpr (by omega)
    go_enter Try.func74, Try.ntmps74
    go_wp2_with fail
    refine (leb_Get.calls 50 A c l n (k : Int) w HR.out hc HG.out).mono ?_
    rintro e w1 ⟨rfl, hb1⟩
    go_wp2_with fail
    go_ret2
    exact ⟨rfl, hb1⟩
theorem getstr_some (A : Option Addr) (c : Nat) (l : List Int) (most : Int) (w : World) (hr : Kd.C (Kd.int .u8) w A l.length l) (hc : l.length ≤ c) (hb : Bytes l) (hl : l.length ≤ 1000000) (n : Nat) (k : Nat) (hg : getP l = ((n : Int), k)) (h1 : k ≠ 0) (h2 : ¬ most < (n : Int)) (h3 : k + n ≤ l.length) :
    Calls Try.prog 74 #[.slice A l.length c, .int .i64 most] w fun e w' => e = .returned (.tuple #[.string (strOfNums ((l.drop k).take n)), .int .i64 ((k + n : Nat) : Int)]) ∧ Below w.heap.size w w' := by
  have HR := Lib.hid hr
  have hf := getP_facts hg
  have hgi := get_is l hb (by omega)
  rw [hg] at hgi
  have HG := Lib.hid hgi
  clear hr hgi
  have hk : ((k : Int) == 0) = false := beq_eq_false_iff_ne.mpr (by omega)
  have h4 : ¬ (l.length : Int) - k < n := by omega
  go_enter Try.func74, Try.ntmps74
  go_wp2_with fail
  refine (leb_Get.calls 50 A c l n (k : Int) w HR.out hc HG.out).mono ?_
  rintro e w1 ⟨rfl, hb1⟩
  have hm := Kd.C_mid (lo := k) (hi := k + n) (Kd.C_below HR.out hb1) (by omega) h3 hc
  have hlen : ((l.take (k + n)).drop k).length = n := by rw [List.length_drop, List.length_take]; omega
  have hdt : (l.take (k + n)).drop k = (l.drop k).take n := by rw [List.drop_take]; congr 1; omega
  have hsum : ((k : Int) + n) = ((k + n : Nat) : Int) := by omega
  by_cases hck : c = k
  · rw [if_pos hck] at hm
    have hcv : ∀ cc, (convert 29 9 (.slice A n cc)).run Try.prog w1 = .ok (.string (strOfNums ((l.drop k).take n))) w1 := fun cc => by
      have := Kd.C_string (P := Try.prog) (src := 29) (dst := 9) (c := cc) Try.underlying29 Try.underlying5 Try.underlying9 hm
      rw [hlen, hdt] at this
      exact this
    have HB := Lib.hid hb1
    have HS := Lib.hid hsum
    clear hm hlen hdt hb1 hsum
    subst hck
    go_wp2_with fail
    go_ret2
    rw [HS.out]
    exact ⟨rfl, HB.out⟩
  · rw [if_neg hck] at hm
    have hcv : ∀ cc, (convert 29 9 (.slice (A.map (fun x => x.add k)) n cc)).run Try.prog w1 = .ok (.string (strOfNums ((l.drop k).take n))) w1 := fun cc => by
      have := Kd.C_string (P := Try.prog) (src := 29) (dst := 9) (c := cc) Try.underlying29 Try.underlying5 Try.underlying9 hm
      rw [hlen, hdt, show k * (Kd.int IntKind.u8).sz = k from Nat.mul_one k] at this
      exact this
    have HB := Lib.hid hb1
    have HS := Lib.hid hsum
    clear hm hlen hdt hb1 hsum
    go_wp2_with fail
    go_ret2
    rw [HS.out]
    exact ⟨rfl, HB.out⟩
theorem getstr_calls (A : Option Addr) (c : Nat) (l : List Int) (most : Int) (w : World) (hr : Kd.C (Kd.int .u8) w A l.length l) (hc : l.length ≤ c) (hb : Bytes l) (hl : l.length ≤ 1000000) :
    Calls Try.prog 74 #[.slice A l.length c, .int .i64 most] w fun e w' => e = .returned (.tuple #[.string (strOfNums (getS l most).1), .int .i64 ((getS l most).2 : Int)]) ∧ Below w.heap.size w w' := by
  obtain ⟨n, k, hg⟩ : ∃ n k, getP l = (n, k) := ⟨_, _, rfl⟩
  unfold getS
  rw [hg]
  by_cases h : k = 0 ∨ n > most ∨ n > (l.length : Int) - k
  · simp only
    rw [if_pos h]
    exact getstr_none A c l most w hr hc hb hl n k hg h
  · simp only
    rw [if_neg h]
    have hf := getP_facts hg
    obtain ⟨m, rfl⟩ : ∃ m : Nat, n = m := ⟨n.toNat, by omega⟩
    rw [Int.toNat_natCast]
    exact getstr_some A c l most w hr hc hb hl m k hg (by omega) (by omega) (by omega)
theorem may_calls (W : World) (q : Nat) (n most : Int) (hq : W.cell? ⟨q, 0, none⟩ = some (.int .i64 most)) : Calls Try.prog 72 #[.int .i64 n, .pointer (some ⟨q, 0, none⟩)] W fun e w' => e = .returned (.bool (decide (n ≤ most))) ∧ W = w' := by
  go_enter Try.func72, Try.ntmps72
  go_wp2_with fail
  go_ret
  exact ⟨rfl, rfl⟩
theorem mayb_calls (W : World) (q : Nat) (n most : Int) (hq : W.cell? ⟨q, 0, none⟩ = some (.int .i64 most)) : Calls Try.prog 71 #[.int .i64 n, .pointer (some ⟨q, 0, none⟩)] W fun e w' => e = .returned (.bool (decide (n ≤ most))) ∧ W = w' := by
  go_enter Try.func71, Try.ntmps71
  go_wp2_with fail
  go_ret
  exact ⟨rfl, rfl⟩
theorem mays_calls (W : World) (s : ByteArray) : Calls Try.prog 76 #[.string s] W fun e w' => e = .returned (.bool true) ∧ W = w' := by
  go_enter Try.func76, Try.ntmps76
  go_wp2_with fail
  go_ret
  exact ⟨rfl, rfl⟩
theorem gets_calls (A : Option Addr) (c : Nat) (l : List Int) (q : Nat) (most : Int) (w : World) (hq : w.cell? ⟨q, 0, none⟩ = some (.int .i64 most)) (hr : Kd.C (Kd.int .u8) w A l.length l) (hc : l.length ≤ c) (hb : Bytes l) (hl : l.length ≤ 1000000) :
    Calls Try.prog 73 #[.slice A l.length c, .pointer (some ⟨q, 0, none⟩)] w fun e w' => e = .returned (.tuple #[.string (strOfNums (getS l most).1), .int .i64 ((getS l most).2 : Int)]) ∧ Below w.heap.size w w' := by
  have HR := Lib.hid hr
  clear hr
  go_enter Try.func73, Try.ntmps73
  go_wp2_with fail
  refine (getstr_calls A c l most w HR.out hc hb hl).mono ?_
  rintro e w1 ⟨rfl, hb1⟩
  go_wp2_with fail
  go_ret2
  exact ⟨rfl, hb1⟩
/-- The first byte. -/
def getB (l : List Int) : Int × Nat := match l with
  | [] => (0, 0)
  | c :: _ => (c, 1)
theorem getb_calls (A : Option Addr) (c : Nat) (l : List Int) (w : World) (hr : Kd.C (Kd.int .u8) w A l.length l) (hc : l.length ≤ c) (hb : Bytes l) (hl : l.length ≤ 1000000) :
    Calls Try.prog 69 #[.slice A l.length c] w fun e w' => e = .returned (.tuple #[.int .i64 (getB l).1, .int .i64 ((getB l).2 : Int)]) ∧ Below w.heap.size w w' := by
  cases l with
  | nil =>
    clear hr
    go_enter Try.func69, Try.ntmps69
    go_wp2_with fail
    go_ret2
    exact ⟨rfl, Below.refl _ _⟩
  | cons x t =>
    obtain ⟨ad, rfl, hx⟩ := Kd.at_int hr 0 (by omega) (by simp)
    have hx' : w.cell? (ad.add 0) = some (.int .u8 x) := hx
    have hxb := hb x (List.mem_cons_self ..)
    have hn : 0 < t.length + 1 := by omega
    rw [List.length_cons] at hc hl ⊢
    have hx2 : w.cell? ad = some (.int .u8 x) := by rw [show ad.add 0 = ad from rfl] at hx'; exact hx'
    clear hr hx
    go_enter Try.func69, Try.ntmps69
    go_wp2_with fail
    go_ret2
    exact ⟨rfl, Below.refl _ _⟩
section
variable {w : World} {g base : Nat} {l : List Int} {at_ : Nat}
theorem int_bad (h : Rdr w g base l at_ true) (fv mv : Value) : Calls Try.prog 70 #[.pointer (some ⟨g, 0, none⟩), fv, mv] w fun e w' => e = .returned (.int .i64 0) ∧ w = w' := by
  obtain ⟨A, c, h0, h1, h2, hf, hC, hl⟩ := h.cells
  clear hC h hf
  go_enter Try.func70, Try.ntmps70
  go_wp2_with fail
  go_ret
  exact ⟨rfl, rfl⟩
theorem str_bad (h : Rdr w g base l at_ true) (fv mv : Value) : Calls Try.prog 75 #[.pointer (some ⟨g, 0, none⟩), fv, mv] w fun e w' => e = .returned (.string ⟨#[]⟩) ∧ w = w' := by
  obtain ⟨A, c, h0, h1, h2, hf, hC, hl⟩ := h.cells
  clear hC h hf
  go_enter Try.func75, Try.ntmps75
  go_wp2_with fail
  go_ret
  exact ⟨rfl, rfl⟩
end
end Go.Proofs.Ytmklmpajcomimaa.Hand
end
