import Derived.Defers
import Derived.Recover
import Derived.Laws.Pointers
import Derived.Test.YtmklmpajcomimaaZRecd
section
/- A trace, read: the reader's read (it recovers), Decode. -/
namespace Go.Proofs.Ytmklmpajcomimaa.Hand
open Go.RowKit Go.Proofs.YtmklmpajcomimaaW.PrintWords Go.Proofs.YtmklmpajcomimaaW.PrintLast Go.Proofs.YtmklmpajcomimaaW.PrintMore Go.Proofs.Ytmklmpajcomimaa.PTraceWrites Go.Proofs.Ytmklmpajcomimaa.CrcMath
set_option linter.unusedVariables false
set_option linter.unusedSimpArgs false
attribute [local go_sem ↓] Go.wp_at_zero Go.wp_at_succ
theorem assert_errno (n : Int) (w : World) : (Instr.typeAssert (.iface 30 (.int .i64 n)) 20 30 false).run Try.prog w = .ok (.int .i64 n) w := by kernel_rfl
theorem rcatch_panicking (p : Addr) (x n : Int) (older : List PanicEntry) (w : World) (hc : w.cell? p = some (.int .i64 x)) (hz : w.frozen? p = false) :
    CallsD Try.prog 43 #[.pointer (some p)] (.panicking ({ v := .iface 30 (.int .i64 n), recovered := false } :: older)) w fun e u' w' =>
      e = .returned (.tuple #[]) ∧ u' = .panicking ({ v := .iface 30 (.int .i64 n), recovered := true } :: older) ∧ w' = w.setCell p (.int .i64 n) := by
  refine callsD_of_wpS Try.func43 rfl fun c₀ cs hu => ?_
  apply wpS_seq
  apply wpS_region
  simp [wpOpsS, go_sem, recoverD, hu, Try.ntmps43, Exit.thenS]
  apply wpS_seq
  apply wpS_region
  simp [wpOpsS, go_sem, Exit.thenS]
  refine wpS_cond (t := true) (by simp [Act.eval, Array.replicate]) ?_
  simp only [if_true]
  apply wpS_region
  simp [wpOpsS, go_sem, hc, hz, bodyPostS, results, Try.results43, assert_errno]
theorem rcatch_idle (p : Addr) (w : World) :
    CallsD Try.prog 43 #[.pointer (some p)] .returning w fun e u' w' => e = .returned (.tuple #[]) ∧ u' = .returning ∧ w' = w := by
  refine callsD_of_wpS Try.func43 rfl fun c₀ cs hu => ?_
  apply wpS_seq
  apply wpS_region
  simp [wpOpsS, go_sem, recoverD, hu, Try.ntmps43, Exit.thenS]
  apply wpS_seq
  apply wpS_region
  simp [wpOpsS, go_sem, Exit.thenS]
  refine wpS_cond (t := false) (by simp [Act.eval, Array.replicate]) ?_
  simp only [Bool.false_eq_true, if_false]
  refine wpS_of_wp (wp_skip ?_)
  cases c₀
  simp_all [bodyPostS, results, Try.results43]
/-- What a frame's bytes tell: the last frame's, or a record. -/
def decB (len at_ m : Nat) (l : List S39) (x : List Int) (f : Nat → List S39 → List S39 × Nat × Int) : Except Int Bool → List S39 × Nat × Int
  | .error n => (l, at_, n)
  | .ok true => (l, m, if m = len then 0 else 212)
  | .ok false => if l.length < 4096 then match recordE x with
      | .error n => (l, at_, n)
      | .ok r => f m (l ++ [r])
    else (l, at_, 212)
def decO (len at_ : Nat) (l : List S39) (f : Nat → List S39 → List S39 × Nat × Int) : Except Int (List Int × Nat) → List S39 × Nat × Int
  | .error n => (l, at_, n)
  | .ok (x, m) => decB len at_ m l x f (endsE x l.length)
/-- The records from a place on: those that are read, where what is amiss begins, what it is. -/
def decL (b : List Int) : Nat → Nat → List S39 → List S39 × Nat × Int
  | 0, at_, l => (l, at_, 212)
  | k + 1, at_, l => decO b.length at_ l (decL b k) (openE b at_)
theorem decB_congr {len at_ m : Nat} {l : List S39} {x : List Int} {f g : Nat → List S39 → List S39 × Nat × Int} {e : Except Int Bool} (h : ∀ l', f m l' = g m l') : decB len at_ m l x f e = decB len at_ m l x g e := by
  cases e with
  | error n => rfl
  | ok q =>
    cases q with
    | true => rfl
    | false =>
      unfold decB
      cases recordE x with
      | error n => rfl
      | ok r =>
        simp only
        rw [h]
theorem decL_fuel (b : List Int) : ∀ (k at_ d : Nat) (l : List S39), b.length < at_ + k → at_ ≤ b.length → decL b (k + d) at_ l = decL b k at_ l
  | 0, at_, d, l, h, h2 => by omega
  | k + 1, at_, d, l, h, h2 => by
    rw [show k + 1 + d = (k + d) + 1 by omega]
    show decO b.length at_ l (decL b (k + d)) (openE b at_) = decO b.length at_ l (decL b k) (openE b at_)
    cases ho : openE b at_ with
    | error n => rfl
    | ok r =>
      obtain ⟨x, m⟩ := r
      have := openE_at ho
      exact decB_congr (fun l' => decL_fuel b k m d l' (by omega) (by omega))
def decF (b : List Int) (at_ : Nat) (l : List S39) : List S39 × Nat × Int := decL b (b.length - at_ + 1) at_ l
theorem decF_is (b : List Int) (at_ : Nat) (l : List S39) (hat : at_ ≤ b.length) : decF b at_ l = decO b.length at_ l (decF b) (openE b at_) := by
  show decO b.length at_ l (decL b (b.length - at_)) (openE b at_) = _
  cases ho : openE b at_ with
  | error n => rfl
  | ok r =>
    obtain ⟨x, m⟩ := r
    have := openE_at ho
    refine decB_congr (fun l' => ?_)
    show decL b (b.length - at_) m l' = decL b (b.length - m + 1) m l'
    rw [show b.length - at_ = (b.length - m + 1) + (m - at_ - 1) by omega, decL_fuel b _ m _ _ (by omega) (by omega)]
/-- A trace, read: its header, its records, where it ends, what is amiss. -/
def readE (b : List Int) : (Int × Int × Int) × List S39 × Nat × Int := match openE b 0 with
  | .error n => ((0, 0, 0), [], 0, n)
  | .ok (x, m) => match headerE x with
    | .error n => ((0, 0, 0), [], 0, n)
    | .ok h => (h, decF b m [])
theorem openE_bytes {b x : List Int} {at_ m : Nat} (hb : Bytes b) (h : openE b at_ = .ok (x, m)) : Bytes x := by
  obtain ⟨y, mid, _, _, h2⟩ := openE_ok h
  exact partE_bytes hb h2
theorem openE_len {b x : List Int} {at_ m : Nat} (h : openE b at_ = .ok (x, m)) : x.length ≤ b.length := by
  obtain ⟨y, mid, _, _, h2⟩ := openE_ok h
  have := partE_ok h2
  omega
/-- A reader's cells. -/
def rdC (h : Int × Int × Int) (v : Value) (at_ : Int) : Array Value := #[.int .u64 h.1, .int .i64 h.2.1, .int .u32 h.2.2, v, .int .i64 at_]
theorem Fr.set_new {X : Nat → Prop} {a b : World} (h : Fr X a b) {p : Addr} (hp : a.heap.size ≤ p.block) (v : Value) : Fr X a (b.setCell p v) := by
  have hs := Below.setCell (Below.refl 0 b) (Nat.zero_le p.block) v
  exact ⟨hs.os.trans h.os, hs.tape.trans h.tape, hs.output.trans h.output, Nat.le_trans h.size hs.size, fun i hi hx => (Below.heap_setCell b p v i (fun e => by omega)).trans (h.block i hi hx)⟩
theorem Fr.then_below {X : Nat → Prop} {a b c : World} (h : Fr X a b) (k : Below b.heap.size b c) : Fr X a c :=
  h.trans (Fr.of_below (X := X) k) (fun _ h => h) (fun _ _ h => h)
theorem Fr.then_grown {X : Nat → Prop} {a b c : World} (h : Fr X a b) {α : Type} {d : Kd α} {e base : Nat} {ok : Nat → Prop} {v : Value} {xs : List α} (hr : d.R e b base ok v xs) (hg : b.grownBy c v.ownBlock) (hl : a.heap.size ≤ base) : Fr X a c :=
  h.trans (Y := fun i => base ≤ i) (Z := X) ⟨hg.os, hg.tape, hg.output, hg.size, fun k hk hx => hg.block k hk (Kd.R_away (Kd.R_bound hr) (fun j hj e => hx (e ▸ hj.2.1)))⟩ (fun _ h => h) (fun i hi hy => by omega)
abbrev dfr (e0 : Nat) : List Deferred := [{ target := .fn (.func 43) #[.pointer (some ⟨e0, 0, none⟩)], args := #[] }]
theorem falls {R : Ending → World → Prop} {W : World} {e0 : Nat} (tmps : Array Value) (x n : Int) (h4 : tmps.getD 4 undef = .pointer (some ⟨e0, 0, none⟩)) (he : W.heap[e0]? = some (.cells #[.int .i64 x] 30 (0, 0))) (hR : R (.returned (.int .i64 n)) (W.setCell ⟨e0, 0, none⟩ (.int .i64 n))) :
    bodyPostD Try.prog Try.f34 R (Exit.panic [{ v := .iface 30 (.int .i64 n), recovered := false }]) { tmps := tmps, defers := dfr e0 } W := by
  have hc : W.cell? ⟨e0, 0, none⟩ = some (.int .i64 x) := (blk_cell he 0).trans rfl
  have hz := blk_frozen he 0
  refine leaves_cons (f := 43) (args := #[.pointer (some ⟨e0, 0, none⟩)]) (by simp) (by simp [go_sem, enters_ Try.func43 (by kernel_rfl) rfl]) ?_
  refine (rcatch_panicking ⟨e0, 0, none⟩ x n [] W hc hz).mono ?_
  rintro e u' w'' ⟨rfl, rfl, rfl⟩
  simp only [Leaves, settle, List.dropWhile_nil]
  have h4' : tmps[4]?.getD undef = .pointer (some ⟨e0, 0, none⟩) := by simpa using h4
  exact ⟨.int .i64 n, by simp [results, Try.f34, go_sem, hc, h4'], hR⟩
theorem lands {R : Ending → World → Prop} {W : World} {e0 : Nat} (tmps : Array Value) (n : Int) (h4 : tmps.getD 4 undef = .pointer (some ⟨e0, 0, none⟩)) (he : W.heap[e0]? = some (.cells #[.int .i64 n] 30 (0, 0))) (hR : R (.returned (.int .i64 n)) W) :
    bodyPostD Try.prog Try.f34 R Exit.ret { tmps := tmps, defers := dfr e0 } W := by
  have hc : W.cell? ⟨e0, 0, none⟩ = some (.int .i64 n) := (blk_cell he 0).trans rfl
  refine leaves_cons (f := 43) (args := #[.pointer (some ⟨e0, 0, none⟩)]) (by simp) (by simp [go_sem, enters_ Try.func43 (by kernel_rfl) rfl]) ?_
  refine (rcatch_idle ⟨e0, 0, none⟩ W).mono ?_
  rintro e u' w'' ⟨rfl, rfl, rfl⟩
  simp only [Leaves, settle]
  have h4' : tmps[4]?.getD undef = .pointer (some ⟨e0, 0, none⟩) := by simpa using h4
  exact ⟨.int .i64 n, by simp [results, Try.f34, go_sem, hc, h4'], hR⟩
def TRead : Bool × List (List Nat × List Nat) := (true, [([], []), ([], []), ([1], [1]), ([2], [2]), ([3], [3]), ([], []), ([5], [5]), ([6], [6]), ([4, 7, 6], [4, 7]), ([0, 0, 1, 2, 3, 4, 5, 6, 7, 8], [0]), ([9, 0, 1, 2, 3, 4, 5, 6, 7, 8], [9]), ([10, 8, 8, 0, 1, 2, 3, 4, 5, 6, 7, 8], [8, 10])])
def BRead : List Nat := [0, 0, 2, 6, 14, 0, 32, 96, 254, 511, 1023, 2047]
theorem tabRead : rtab .any (opsOf Try.f34 11) = TRead := by kernel_rfl
theorem bitsRead : waitsOk TRead.2 BRead = true := by kernel_rfl
/-- A region that falls: what holds there. -/
def PQ (e0 : Nat) (Qp : List PanicEntry → World → Prop) : Exit → Act → World → Prop
  | .panic c, a, w => (a.tmps.getD 4 undef = .pointer (some ⟨e0, 0, none⟩) ∧ a.defers = dfr e0) ∧ Qp c w
  | _, _, _ => False
theorem pq_put {e0 : Nat} {Qp : List PanicEntry → World → Prop} {c : List PanicEntry} {a : Act} {d : Nat} {v : Value} {w : World} (hd : d ≠ 4) (h : PQ e0 Qp (.panic c) (a.put (some d) v) w) : PQ e0 Qp (.panic c) a w := by
  obtain ⟨⟨h1, h2⟩, h3⟩ := h
  refine ⟨⟨?_, h2⟩, h3⟩
  have : (a.put (some d) v).tmps.getD 4 undef = a.tmps.getD 4 undef := by
    show (a.tmps.setIfInBounds d v).getD 4 undef = _
    simp only [Array.getD_eq_getD_getElem?, Array.getElem?_setIfInBounds]
    rw [if_neg hd]
  rw [← this]
  exact h1
theorem goesP_ {P : Program} {ops : Array Oper} {Q : Exit → Act → World → Prop} {oi : Oper} {N : Option Tmp} {a : Act} {w : World} {K : Act → World → Prop} {f : FuncId} {fn : Func} {opnds : Array Operand} {ts : Array TypeId} (hf : P.funcs[f]? = some fn) (hname : (fn.name == "runtime.NumGoroutine") = false) (hb : fn.body.isSome = true) (args : Array Value)
    (hw : Region.wanted oi (yielded ops a.tmps) = true) (hN : oi.dst = N) (hop : oi.op = .call { callee := .value (.func f), args := opnds, argTypes := ts }) (hargs : opnds.map a.eval = args)
    (h : Calls P f args w fun e w' => ∃ c, e = .panicked c ∧ Q (.panic c) a w') : if Region.wanted oi (yielded ops a.tmps) = true then Oper.wp P oi a w K Q else K (a.put N undef) w := by
  have he := enters_ hf hname hb args w
  have hrun : (execOp a.eval oi).run P w = .ok (.enter f args) w := by
    unfold execOp
    simp [hop, resolve, Deferred.ofValue, invoke, Act.eval, hargs, he]
  rw [if_pos hw]
  subst hN
  unfold Oper.wp
  rw [hrun, Oper.upon_enter]
  refine h.mono fun e w'' hh => ?_
  obtain ⟨c, rfl, hk⟩ := hh
  exact hk
/-- How a reading ends. -/
def ReadTo (rb base : Nat) (r : (Int × Int × Int) × List S39 × Nat × Int) (e : Ending) (w' : World) : Prop := ∃ v, e = .returned (.int .i64 r.2.2.2) ∧ w'.heap[rb]? = some (.cells (rdC r.1 v r.2.2.1) 70 (0, 0)) ∧ Kd.R k39 41 w' base (fun _ => True) v r.2.1
def ReadDone (rb : Nat) (w : World) (b : List Int) (e : Ending) (w' : World) : Prop := ReadTo rb w.heap.size (readE b) e w' ∧ Fr (fun i => i = rb) w w'
/-- A fall, from a state of the reader. -/
theorem fall_done {rb : Nat} {w W : World} {b : List Int} {e0 : Nat} {h : Int × Int × Int} {v : Value} {at_ : Nat} {l : List S39} {n : Int} (he0 : w.heap.size ≤ e0) (hrb : rb < w.heap.size) (hH : W.heap[rb]? = some (.cells (rdC h v at_) 70 (0, 0))) (hE : W.heap[e0]? = some (.cells #[.int .i64 0] 30 (0, 0))) (hO : Kd.R k39 41 W w.heap.size (fun _ => True) v l) (hF : Fr (fun i => i = rb) w W) (hr : readE b = (h, l, at_, n)) : ReadDone rb w b (.returned (.int .i64 n)) (W.setCell ⟨e0, 0, none⟩ (.int .i64 n)) := by
  refine ⟨⟨v, ?_, ?_, ?_⟩, hF.set_new (p := ⟨e0, 0, none⟩) he0 _⟩
  · rw [hr]
  · rw [hr]
    exact blk_far hH (p := ⟨e0, 0, none⟩) (show rb ≠ e0 by omega) _
  · rw [hr]
    refine Kd.R_set hO hE (fun q hq => ?_) 0 _
    rcases List.mem_cons.1 hq with rfl | hq
    · decide
    · simp [k39, Kd.iso, Kd.pair, Kd.int, Kd.string, Kd.scalar] at hq
set_option maxHeartbeats 16000000 in
set_option maxRecDepth 100000 in
theorem read_calls (rb : Nat) (A : Option Addr) (c : Nat) (b : List Int) (w : World) (hrb : w.heap[rb]? = some (.cells (rdC (0, 0, 0) (.slice none 0 0) 0) 70 (0, 0))) (hr : ∀ W, Fr (fun i => i = rb) w W → Kd.C (Kd.int .u8) W A b.length b) (hc : b.length ≤ c) (hb : Bytes b) (hl : b.length ≤ 1000000) :
    Calls Try.prog 34 #[.pointer (some ⟨rb, 0, none⟩), .slice A b.length c] w fun e w' => ReadDone rb w b e w' := by
  have hmf : ∀ (fn : Fn) (first cap : Array Value) (w : World), (Instr.makeFunc fn first cap).run Try.prog w = .ok (.func fn first cap) w := fun _ _ _ _ => rfl
  have hb1 := below_alloc (Below.refl w.heap.size w) (.cells #[.int .i64 0] 30 (0, 0))
  have hg1 := blk_new w (.cells #[.int .i64 0] 30 (0, 0))
  have hr1 := blk_alloc hrb (.cells #[.int .i64 0] 30 (0, 0))
  have hrbl := blk_lt hrb
  obtain ⟨w1, hw1⟩ : ∃ w1, w.alloc (.cells #[.int .i64 0] 30 (0, 0)) = w1 := ⟨_, rfl⟩
  rw [hw1] at hb1 hg1 hr1
  obtain ⟨e0, he0⟩ : ∃ e0, w.heap.size = e0 := ⟨_, rfl⟩
  rw [he0] at hg1 hrbl
  have hop := openf_calls A c b 0 w1 (hr w1 (Fr.of_below hb1)) hc hb (by omega) (by omega)
  have HOP := Lib.hid hop
  have HR := Lib.hid hr
  have HF1 := Lib.hid (Fr.of_below (X := fun i => i = rb) hb1)
  have HB1 := Lib.hid hb1
  have HE1 := Lib.hid hg1
  have HH1 := Lib.hid hr1
  have hat0 : w1.cell? ⟨rb, 4, none⟩ = some (.int .i64 0) := (blk_cell hr1 4).trans rfl
  have HBY := Lib.hid hb
  have HQ : ∀ (h : Int × Int × Int) (v : Value) (at_ : Nat) (l : List S39) (n : Int) (W : World), W.heap[rb]? = some (.cells (rdC h v at_) 70 (0, 0)) → W.heap[e0]? = some (.cells #[.int .i64 0] 30 (0, 0)) → Kd.R k39 41 W w.heap.size (fun _ => True) v l → Fr (fun i => i = rb) w W → readE b = (h, l, at_, n) → ReadDone rb w b (.returned (.int .i64 n)) (W.setCell ⟨e0, 0, none⟩ (.int .i64 n)) := fun h v at_ l n W h1 h2 h3 h4 h5 => fall_done (by omega) (by omega) h1 h2 h3 h4 h5
  have HFALL := Lib.hid HQ
  clear hop hb1 hg1 hr1 hr hb HQ hrb
  go_enter_defers Try.func34, Try.ntmps34
  go_wp2_with fail
  (try rw [hw1])
  (try rw [he0])
  refine HOP.out.mono ?_
  rintro e w2 ⟨hgv, hb2⟩
  have HE2 := Lib.hid ((hb2.block e0 (blk_lt HE1.out)).trans HE1.out)
  have HH2 := Lib.hid ((hb2.block rb (blk_lt HH1.out)).trans HH1.out)
  have HF2 := Lib.hid (HF1.out.then_below hb2)
  have HB2 := Lib.hid (below_step HB1.out hb2)
  clear hb2 HE1 HH1 HF1 HOP hat0
  cases hop : openE b 0 with
  | error n =>
    have hre : readE b = ((0, 0, 0), [], 0, n) := by unfold readE; rw [hop]
    rw [hop] at hgv
    simp only [Gave, fell] at hgv
    subst hgv
    exact falls _ 0 n rfl HE2.out (HFALL.out _ _ 0 _ n w2 HH2.out HE2.out (Kd.R_nil _ _ _ _ _) HF2.out hre)
  | ok r =>
    obtain ⟨x, m⟩ := r
    have hm := openE_at hop
    have hxb := openE_bytes HBY.out hop
    have hxl := openE_len hop
    have hre : readE b = match headerE x with
      | .error n => ((0, 0, 0), [], 0, n)
      | .ok h => (h, decF b m []) := by unfold readE; rw [hop]
    rw [hop] at hgv
    simp only [Gave] at hgv
    obtain ⟨v, rfl, hr2⟩ := hgv
    obtain ⟨A2, c2, rfl, hl2, hC2⟩ := Kd.R_reads hr2
    have hhd := header_calls A2 c2 x w2 hC2 hl2 hxb (by omega)
    have HHD := Lib.hid hhd
    clear hhd hr2 hC2 hop hxb
    go_wp2_with fail
    refine HHD.out.mono ?_
    rintro e w3 ⟨hgv, hb3⟩
    have HE3 := Lib.hid ((hb3.block e0 (blk_lt HE2.out)).trans HE2.out)
    have HH3 := Lib.hid ((hb3.block rb (blk_lt HH2.out)).trans HH2.out)
    have HF3 := Lib.hid (HF2.out.then_below hb3)
    have HB3 := Lib.hid (below_step HB2.out hb3)
    clear hb3 HE2 HH2 HF2 HB2 HHD
    cases hhe : headerE x with
    | error n =>
      rw [hhe] at hgv hre
      simp only [GaveH, fell] at hgv
      subst hgv
      exact falls _ 0 n rfl HE3.out (HFALL.out _ _ 0 _ n w3 HH3.out HE3.out (Kd.R_nil _ _ _ _ _) HF3.out hre)
    | ok h =>
      obtain ⟨sd, rm, dg⟩ := h
      rw [hhe] at hgv hre
      simp only [GaveH] at hgv
      subst hgv
      have HRE := Lib.hid hre
      have hc0 : w3.cell? ⟨rb, 0, none⟩ = some (.int .u64 0) := (blk_cell HH3.out 0).trans rfl
      have hc1 : w3.cell? ⟨rb, 1, none⟩ = some (.int .i64 0) := (blk_cell HH3.out 1).trans rfl
      have hc2 : w3.cell? ⟨rb, 2, none⟩ = some (.int .u32 0) := (blk_cell HH3.out 2).trans rfl
      have hc4 : w3.cell? ⟨rb, 4, none⟩ = some (.int .i64 0) := (blk_cell HH3.out 4).trans rfl
      have hzz := fun i => blk_frozen HH3.out i
      obtain ⟨W0, hW0⟩ : ∃ W0, (((w3.setCell ⟨rb, 0, none⟩ (.int .u64 sd)).setCell ⟨rb, 1, none⟩ (.int .i64 rm)).setCell ⟨rb, 2, none⟩ (.int .u32 dg)).setCell ⟨rb, 4, none⟩ (.int .i64 (m : Int)) = W0 := ⟨_, rfl⟩
      have hhW := blk_put (blk_put (blk_put (blk_put HH3.out 0 (.int .u64 sd) rfl) 1 (.int .i64 rm) rfl) 2 (.int .u32 dg) rfl) 4 (.int .i64 (m : Int)) (show _ = rdC (sd, rm, dg) (.slice none 0 0) (m : Int) from rfl)
      have heW := blk_far (blk_far (blk_far (blk_far HE3.out (p := ⟨rb, 0, none⟩) (show e0 ≠ rb by omega) (.int .u64 sd)) (p := ⟨rb, 1, none⟩) (show e0 ≠ rb by omega) (.int .i64 rm)) (p := ⟨rb, 2, none⟩) (show e0 ≠ rb by omega) (.int .u32 dg)) (p := ⟨rb, 4, none⟩) (show e0 ≠ rb by omega) (.int .i64 (m : Int))
      have hfW := (((HF3.out.set (p := ⟨rb, 0, none⟩) rfl (.int .u64 sd)).set (p := ⟨rb, 1, none⟩) rfl (.int .i64 rm)).set (p := ⟨rb, 2, none⟩) rfl (.int .u32 dg)).set (p := ⟨rb, 4, none⟩) rfl (.int .i64 (m : Int))
      rw [hW0] at hhW heW hfW
      have HIH := Aside0.mk hhW
      have HIE := Aside0.mk heW
      have HIF := Aside0.mk hfW
      have HIR : Aside0 (Kd.R k39 41 W0 w1.heap.size (fun _ => True) (.slice none 0 0) []) := Aside0.mk (Kd.R_nil _ _ _ _ _)
      have HID : Aside0 (readE b = ((sd, rm, dg), decF b m [])) := Aside0.mk hre
      have HS1 : Hid (w.heap.size < w1.heap.size ∧ w1.heap.size ≤ W0.heap.size ∧ w1.heap.size = w.heap.size + 1) := Lib.hid (by
        have h1 : w.heap.size + 1 = w1.heap.size := by rw [← hw1]; exact alloc_size w _
        have h2 := blk_lt heW
        omega)
      clear hhe hre hhW heW hfW HRE
      go_wp2_with fail
      (try rw [hW0])
      clear hc0 hc1 hc2 hc4 hzz HE3 HH3 HF3 hW0 HB3
      have hmb : m ≤ b.length := hm.2
      go_loopw [5, 6] (fun u5 u6 wr => ∃ (at_ : Nat) (l : List S39) (v : Value), at_ ≤ b.length ∧ u6 = .int .i64 (at_ : Int) ∧ Aside0 (wr.heap[rb]? = some (.cells (rdC (sd, rm, dg) v (at_ : Int)) 70 (0, 0))) ∧ Aside0 (wr.heap[e0]? = some (.cells #[.int .i64 0] 30 (0, 0))) ∧ Aside0 (Kd.R k39 41 wr w1.heap.size (fun _ => True) v l) ∧ Aside0 (Fr (fun i => i = rb) w wr) ∧ Aside0 (readE b = ((sd, rm, dg), decF b at_ l))) (fun _ u6 _ => b.length - (intOf u6).toNat)
      case atStart => exact ⟨m, [], _, hmb, rfl, HIH, HIE, HIR, HIF, HID⟩
      case round =>
        obtain ⟨at_, l, v, hat, rfl, HH, HE, HO, HF, HD⟩ := hrel
        clear HIH HIE HIR HIF HID
        obtain ⟨Av, cv, rfl⟩ := Kd.R_slice HO.out
        have hc3 : wr.cell? ⟨rb, 3, none⟩ = some (.slice Av l.length cv) := (blk_cell HH.out 3).trans rfl
        have hc4 : wr.cell? ⟨rb, 4, none⟩ = some (.int .i64 (at_ : Int)) := (blk_cell HH.out 4).trans rfl
        have hop := openf_calls A c b at_ wr (HR.out wr HF.out) hc HBY.out (by omega) hat
        have HOP := Lib.hid hop
        have hdf := HD.out
        rw [decF_is b at_ l hat] at hdf
        have HDF := Lib.hid hdf
        clear hop hdf HD
        go_wp2_with fail
        refine HOP.out.mono ?_
        rintro e w4 ⟨hgv, hb4⟩
        have HH4 := Lib.hid ((hb4.block rb (blk_lt HH.out)).trans HH.out)
        have HE4 := Lib.hid ((hb4.block e0 (blk_lt HE.out)).trans HE.out)
        have HO4 := Lib.hid (Kd.R_below HO.out hb4)
        have HF4 := Lib.hid (HF.out.then_below hb4)
        clear hb4 hc3 hc4 HH HE HO HF HOP
        cases hop : openE b at_ with
        | error n =>
          have hdf := HDF.out
          rw [hop] at hgv hdf
          simp only [Gave, fell] at hgv
          subst hgv
          exact falls _ 0 n rfl HE4.out (HFALL.out _ _ at_ l n w4 HH4.out HE4.out (Kd.R_lower HO4.out (by have := HS1.out; omega)) HF4.out hdf)
        | ok r =>
          obtain ⟨x, m'⟩ := r
          have hm' := openE_at hop
          have hxb := openE_bytes HBY.out hop
          have hxl := openE_len hop
          have hdf := HDF.out
          rw [hop] at hgv hdf
          have hdf2 : readE b = ((sd, rm, dg), decB b.length at_ m' l x (decF b) (endsE x l.length)) := hdf
          simp only [Gave] at hgv
          obtain ⟨v4, rfl, hr4⟩ := hgv
          obtain ⟨A4, c4, rfl, hl4, hC4⟩ := Kd.R_reads hr4
          have hen := ends_calls A4 c4 x (l.length : Int) w4 hC4 hl4 hxb (by omega)
          have HEN := Lib.hid hen
          have HDF2 := Lib.hid hdf2
          have HC4 := Lib.hid hC4
          have HXB := Lib.hid hxb
          have hc3 : w4.cell? ⟨rb, 3, none⟩ = some (.slice Av l.length cv) := (blk_cell HH4.out 3).trans rfl
          clear hen hdf hdf2 hC4 hr4 hxb HDF hop
          go_wp2_with fail
          refine HEN.out.mono ?_
          rintro e w5 ⟨hgv, hb5⟩
          have HH5 := Lib.hid ((hb5.block rb (blk_lt HH4.out)).trans HH4.out)
          have HE5 := Lib.hid ((hb5.block e0 (blk_lt HE4.out)).trans HE4.out)
          have HO5 := Lib.hid (Kd.R_below HO4.out hb5)
          have HF5 := Lib.hid (HF4.out.then_below hb5)
          have HC5 := Lib.hid (Kd.C_below HC4.out hb5)
          clear hb5 hc3 HH4 HE4 HO4 HF4 HC4 HEN
          cases hee : endsE x l.length with
          | error n =>
            have hdf := HDF2.out
            rw [hee] at hgv hdf
            simp only [GaveB, fell] at hgv
            subst hgv
            exact falls _ 0 n rfl HE5.out (HFALL.out _ _ at_ l n w5 HH5.out HE5.out (Kd.R_lower HO5.out (by have := HS1.out; omega)) HF5.out hdf)
          | ok q =>
            have hdf := HDF2.out
            rw [hee] at hgv hdf
            simp only [GaveB] at hgv
            subst hgv
            have hc4 : w5.cell? ⟨rb, 4, none⟩ = some (.int .i64 (at_ : Int)) := (blk_cell HH5.out 4).trans rfl
            have hc3 : w5.cell? ⟨rb, 3, none⟩ = some (.slice Av l.length cv) := (blk_cell HH5.out 3).trans rfl
            have hzz := fun i => blk_frozen HH5.out i
            cases q with
            | true =>
              have hhW := blk_put HH5.out 4 (.int .i64 (m' : Int)) (show _ = rdC (sd, rm, dg) (.slice Av l.length cv) (m' : Int) from rfl)
              have heW := blk_far HE5.out (p := ⟨rb, 4, none⟩) (show e0 ≠ rb by omega) (.int .i64 (m' : Int))
              have hfW := HF5.out.set (p := ⟨rb, 4, none⟩) rfl (.int .i64 (m' : Int))
              have hoW : Kd.R k39 41 (w5.setCell ⟨rb, 4, none⟩ (.int .i64 (m' : Int))) w.heap.size (fun _ => True) (.slice Av l.length cv) l := Kd.R_lower (Kd.R_mono (Kd.R_far (Kd.R_bound HO5.out) (p := ⟨rb, 4, none⟩) (fun k hk e => by have h1 := HS1.out; have h2 := hk.2.1; simp only at e; omega) _) (fun _ _ => trivial)) (by have := HS1.out; omega)
              have HHW := Lib.hid hhW
              have HEW := Lib.hid heW
              have HFW := Lib.hid hfW
              have HOW := Lib.hid hoW
              have HDF3 := Lib.hid (show readE b = ((sd, rm, dg), (l, m', if m' = b.length then 0 else 212)) from hdf)
              clear hhW heW hfW hoW hdf hee HDF2
              by_cases hmb : m' = b.length
              · have hq : ((m' : Int) == (b.length : Int)) = true := beq_iff_eq.mpr (by omega)
                have HDF4 := Lib.hid (show readE b = ((sd, rm, dg), (l, m', 0)) from by rw [HDF3.out, if_pos hmb])
                clear HDF3 hmb
                go_wp2_with fail
                generalize w5.setCell _ _ = w6 at HHW HEW HFW HOW ⊢
                refine (must_yes w6).mono ?_
                rintro e w7 ⟨rfl, rfl⟩
                have hce : w6.cell? ⟨e0, 0, none⟩ = some (.int .i64 0) := (blk_cell HEW.out 0).trans rfl
                have hze := fun i => blk_frozen HEW.out i
                clear hc3 hc4 hzz
                go_wp2_with fail
                have hd := HFALL.out _ _ m' l 0 w6 HHW.out HEW.out HOW.out HFW.out HDF4.out
                exact lands _ 0 rfl (blk_put HEW.out 0 (.int .i64 0) rfl) hd
              · have hq : ((m' : Int) == (b.length : Int)) = false := beq_eq_false_iff_ne.mpr (by omega)
                have HDF4 := Lib.hid (show readE b = ((sd, rm, dg), (l, m', 212)) from by rw [HDF3.out, if_neg hmb])
                clear HDF3 hmb
                go_wp2_with fail
                generalize w5.setCell _ _ = w6 at HHW HEW HFW HOW ⊢
                refine (must_no w6).mono ?_
                rintro e w7 ⟨he, rfl⟩
                simp only [fell] at he
                subst he
                exact falls _ 0 212 rfl HEW.out (HFALL.out _ _ m' l 212 w6 HHW.out HEW.out HOW.out HFW.out HDF4.out)
            | false =>
              have HDF3 := Lib.hid (show readE b = ((sd, rm, dg), if l.length < 4096 then match recordE x with
                  | .error n => (l, at_, n)
                  | .ok r => decF b m' (l ++ [r])
                else (l, at_, 212)) from hdf)
              clear hdf hee HDF2
              by_cases h4 : (l.length : Int) < 4096
              · have hdf := HDF3.out
                rw [if_pos (by omega)] at hdf
                have HDF4 := Lib.hid hdf
                clear HDF3 hdf
                go_wp2_with fail
                refine (must_yes w5).mono ?_
                rintro e w7 ⟨rfl, rfl⟩
                have hb5d := below_drew (Below.refl w5.heap.size w5)
                have hrc := record_calls A4 c4 x w5.drew (Kd.C_drew HC5.out) hl4 HXB.out (by omega)
                cases hre : recordE x with
                | error n =>
                  have hdf := HDF4.out
                  rw [hre] at hrc hdf
                  have HRC := Lib.hid hrc
                  have HDF5 := Lib.hid hdf
                  clear hrc hdf hre HDF4 hzz hc4
                  go_wp2_with fail
                  refine Code.wp_mono (Q := PQ e0 (fun ch W => ch = [{ v := .iface 30 (.int .i64 n), recovered := false }] ∧ Below w5.drew.heap.size w5.drew W)) ?_ ?_
                  · intro e a W hp
                    cases e with
                    | panic ch =>
                      obtain ⟨⟨hp1, hp2⟩, rfl, hpb⟩ := hp
                      obtain ⟨tm, ds⟩ := a
                      simp only at hp1 hp2
                      subst hp2
                      have hpb2 : Below w5.heap.size w5 W := below_step hb5d hpb
                      have hEW := (hpb2.block e0 (blk_lt HE5.out)).trans HE5.out
                      exact falls tm 0 n hp1 hEW (HFALL.out _ _ at_ l n W ((hpb2.block rb (blk_lt HH5.out)).trans HH5.out) hEW (Kd.R_lower (Kd.R_below HO5.out hpb2) (by have := HS1.out; omega)) (HF5.out.then_below hpb2) HDF5.out)
                    | _ => exact hp.elim
                  · have HC3 := Lib.hid hc3
                    clear hc3
                    refine start_ (n := 12) (S := fun w' => w'.cell? ⟨rb, 3, none⟩ = some (.slice Av l.length cv)) (ds := []) #[false, false, false, false, false, false, false, false, false, false, false, false] (by kernel_rfl) rfl rfl HC3.out (fun hHeld => ?_); refine with_tabW tabRead bitsRead (fun HT_ HW_ => ?_)
                    clear HC3
                    refine pure_ (i := 0) (N := some 58) (v := ?_) (a' := ?_) #[true, false, false, false, false, false, false, false, false, false, false, false] rfl rfl (any_of HT_.out (by kernel_rfl)) (fun _ _ _ h => pq_put (by decide) h) (Or.inl ⟨by rfl, ?_⟩) ?_ ?_
                    rotate_left
                    · intro w'
                      go_simp
                      with_reducible rfl
                    rotate_left
                    · simp only [Act.put, List.setIfInBounds_toArray, List.set_cons_zero, List.set_cons_succ, i64_w, i32_w]
                      rfl
                    refine pure_ (i := 1) (N := some 59) (v := ?_) (a' := ?_) #[true, true, false, false, false, false, false, false, false, false, false, false] rfl rfl (any_of HT_.out (by kernel_rfl)) (fun _ _ _ h => pq_put (by decide) h) (Or.inl ⟨by rfl, ?_⟩) ?_ ?_
                    rotate_left
                    · intro w'
                      go_simp
                      with_reducible rfl
                    rotate_left
                    · simp only [Act.put, List.setIfInBounds_toArray, List.set_cons_zero, List.set_cons_succ, i64_w, i32_w]
                      rfl
                    refine pure_ (i := 2) (N := some 60) (v := ?_) (a' := ?_) #[true, true, true, false, false, false, false, false, false, false, false, false] rfl rfl (any_of HT_.out (by kernel_rfl)) (fun _ _ _ h => pq_put (by decide) h) (Or.inl ⟨by rfl, ?_⟩) ?_ ?_
                    rotate_left
                    · intro w'
                      go_simp
                      with_reducible rfl
                    rotate_left
                    · simp only [Act.put, List.setIfInBounds_toArray, List.set_cons_zero, List.set_cons_succ, i64_w, i32_w]
                      rfl
                    refine pure_ (i := 3) (N := some 61) (v := ?_) (a' := ?_) #[true, true, true, true, false, false, false, false, false, false, false, false] rfl rfl (any_of HT_.out (by kernel_rfl)) (fun _ _ _ h => pq_put (by decide) h) (Or.inl ⟨by rfl, ?_⟩) ?_ ?_
                    rotate_left
                    · intro w'
                      go_simp
                      with_reducible rfl
                    rotate_left
                    · simp only [Act.put, List.setIfInBounds_toArray, List.set_cons_zero, List.set_cons_succ, i64_w, i32_w]
                      rfl
                    refine take_ (i := 4) (N := some 62) (v := ?_) (a' := ?_) #[true, true, true, true, true, false, false, false, false, false, false, false] rfl rfl (take_ofW HT_.out HW_.out (by kernel_rfl)) (fun _ _ _ h => pq_put (by decide) h) (Or.inl ⟨by rfl, ?_⟩) hHeld ?_ ?_
                    rotate_left
                    · rintro w' s0_
                      go_simp
                      with_reducible rfl
                    rotate_left
                    · simp only [Act.put, List.setIfInBounds_toArray, List.set_cons_zero, List.set_cons_succ, i64_w, i32_w]
                      rfl
                    refine pure_ (i := 5) (N := some 63) (v := ?_) (a' := ?_) #[true, true, true, true, true, true, false, false, false, false, false, false] rfl rfl (any_of HT_.out (by kernel_rfl)) (fun _ _ _ h => pq_put (by decide) h) (Or.inl ⟨by rfl, ?_⟩) ?_ ?_
                    rotate_left
                    · intro w'
                      go_simp
                      with_reducible rfl
                    rotate_left
                    · simp only [Act.put, List.setIfInBounds_toArray, List.set_cons_zero, List.set_cons_succ, i64_w, i32_w]
                      rfl
                    refine one_ (i := 6) (N := some 64) #[true, true, true, true, true, true, true, false, false, false, false, false] rfl rfl (one_of HT_.out (by kernel_rfl)) (by decide) (fun K hK => ?_)
                    refine goesP_ Try.func48 (by kernel_rfl) rfl #[.slice A4 x.length c4] (by rfl) rfl rfl (by (try simp only [List.map_toArray, List.map_cons, List.map_nil]); first | done | rfl) ?_
                    refine HRC.out.mono ?_
                    rintro e w6 ⟨hgr, hb6⟩
                    simp only [GaveR, fell] at hgr
                    exact ⟨_, hgr, ⟨rfl, rfl⟩, rfl, hb6⟩
                | ok r =>
                  have hdf := HDF4.out
                  rw [hre] at hrc hdf
                  simp only [GaveR] at hrc
                  unfold recV at hrc
                  have HRC := Lib.hid hrc
                  have HDF5 := Lib.hid (show readE b = ((sd, rm, dg), decF b m' (l ++ [r])) from hdf)
                  clear hrc hdf hre HDF4 hzz hc4
                  go_wp2_with fail
                  refine wp_region_noPanic ?_
                  have HC3 := Lib.hid hc3
                  clear hc3
                  refine start_ (n := 12) (S := fun w' => w'.cell? ⟨rb, 3, none⟩ = some (.slice Av l.length cv)) (ds := [11]) #[false, false, false, false, false, false, false, false, false, false, false, false] (by kernel_rfl) rfl rfl HC3.out (fun hHeld => ?_); refine with_tabW tabRead bitsRead (fun HT_ HW_ => ?_)
                  clear HC3
                  refine pure_ (i := 0) (N := some 58) (v := ?_) (a' := ?_) #[true, false, false, false, false, false, false, false, false, false, false, false] rfl rfl (any_of HT_.out (by kernel_rfl)) (fun _ _ _ h => h) (Or.inl ⟨by rfl, ?_⟩) ?_ ?_
                  rotate_left
                  · intro w'
                    go_simp
                    with_reducible rfl
                  rotate_left
                  · simp only [Act.put, List.setIfInBounds_toArray, List.set_cons_zero, List.set_cons_succ, i64_w, i32_w]
                    rfl
                  refine pure_ (i := 1) (N := some 59) (v := ?_) (a' := ?_) #[true, true, false, false, false, false, false, false, false, false, false, false] rfl rfl (any_of HT_.out (by kernel_rfl)) (fun _ _ _ h => h) (Or.inl ⟨by rfl, ?_⟩) ?_ ?_
                  rotate_left
                  · intro w'
                    go_simp
                    with_reducible rfl
                  rotate_left
                  · simp only [Act.put, List.setIfInBounds_toArray, List.set_cons_zero, List.set_cons_succ, i64_w, i32_w]
                    rfl
                  refine pure_ (i := 2) (N := some 60) (v := ?_) (a' := ?_) #[true, true, true, false, false, false, false, false, false, false, false, false] rfl rfl (any_of HT_.out (by kernel_rfl)) (fun _ _ _ h => h) (Or.inl ⟨by rfl, ?_⟩) ?_ ?_
                  rotate_left
                  · intro w'
                    go_simp
                    with_reducible rfl
                  rotate_left
                  · simp only [Act.put, List.setIfInBounds_toArray, List.set_cons_zero, List.set_cons_succ, i64_w, i32_w]
                    rfl
                  refine pure_ (i := 3) (N := some 61) (v := ?_) (a' := ?_) #[true, true, true, true, false, false, false, false, false, false, false, false] rfl rfl (any_of HT_.out (by kernel_rfl)) (fun _ _ _ h => h) (Or.inl ⟨by rfl, ?_⟩) ?_ ?_
                  rotate_left
                  · intro w'
                    go_simp
                    with_reducible rfl
                  rotate_left
                  · simp only [Act.put, List.setIfInBounds_toArray, List.set_cons_zero, List.set_cons_succ, i64_w, i32_w]
                    rfl
                  refine take_ (i := 4) (N := some 62) (v := ?_) (a' := ?_) #[true, true, true, true, true, false, false, false, false, false, false, false] rfl rfl (take_ofW HT_.out HW_.out (by kernel_rfl)) (fun _ _ _ h => h) (Or.inl ⟨by rfl, ?_⟩) hHeld ?_ ?_
                  rotate_left
                  · rintro w' s0_
                    go_simp
                    with_reducible rfl
                  rotate_left
                  · simp only [Act.put, List.setIfInBounds_toArray, List.set_cons_zero, List.set_cons_succ, i64_w, i32_w]
                    rfl
                  refine pure_ (i := 5) (N := some 63) (v := ?_) (a' := ?_) #[true, true, true, true, true, true, false, false, false, false, false, false] rfl rfl (any_of HT_.out (by kernel_rfl)) (fun _ _ _ h => h) (Or.inl ⟨by rfl, ?_⟩) ?_ ?_
                  rotate_left
                  · intro w'
                    go_simp
                    with_reducible rfl
                  rotate_left
                  · simp only [Act.put, List.setIfInBounds_toArray, List.set_cons_zero, List.set_cons_succ, i64_w, i32_w]
                    rfl
                  refine one_ (i := 6) (N := some 64) #[true, true, true, true, true, true, true, false, false, false, false, false] rfl rfl (one_of HT_.out (by kernel_rfl)) (by decide) (fun K hK => ?_)
                  refine goes_ Try.func48 (by kernel_rfl) rfl #[.slice A4 x.length c4] (by rfl) rfl rfl (by (try simp only [List.map_toArray, List.map_cons, List.map_nil]); first | done | rfl) ?_
                  refine (HRC.out).mono ?_
                  rintro e w6 ⟨rfl, hb6'⟩
                  have hb6 := below_step hb5d hb6'
                  have HH6 := Lib.hid ((hb6.block rb (blk_lt HH5.out)).trans HH5.out)
                  have HE6 := Lib.hid ((hb6.block e0 (blk_lt HE5.out)).trans HE5.out)
                  have HO6 := Lib.hid (Kd.R_below HO5.out hb6)
                  have HF6 := Lib.hid (HF5.out.then_below hb6)
                  have HZ6 : Hid (w1.heap.size ≤ w6.heap.size) := Lib.hid (by have h1 := HS1.out; have h2 := hb6.size; have h3 := HF5.out.size; have h4 := blk_lt HE5.out; omega)
                  have HS6 : Hid (w6.cell? ⟨rb, 3, none⟩ = some (.slice Av l.length cv)) := Lib.hid ((blk_cell HH6.out 3).trans rfl)
                  clear hb6 hb6' hHeld
                  refine ⟨_, rfl, ?_⟩
                  refine hK.out _ _ HS6.out (fun hHeld => ?_)
                  clear hK K
                  refine norm_ (a' := ?_) ?_ ?_
                  rotate_left
                  · show Act.put _ (some 64) _ = _
                    simp only [Act.put, List.setIfInBounds_toArray, List.set_cons_zero, List.set_cons_succ, i64_w, i32_w]
                    rfl
                  refine one_ (i := 7) (N := some 65) #[true, true, true, true, true, true, true, true, false, false, false, false] rfl rfl (one_of HT_.out (by kernel_rfl)) (by decide) (fun K hK => ?_)
                  refine value_ (by rfl) rfl (v := .slice (some ⟨w6.heap.size, 0, none⟩) 1 1) (w1 := w6.alloc (.cells #[.int .i64 r.f0, .int .i64 r.f1, .int .i64 r.f2, .int .i64 r.f3, .int .i64 r.f4, .int .i64 r.f5, .string r.f6] 41)) ?_ ?_
                  · go_simp
                  have HS7 : Hid ((w6.alloc (.cells #[.int .i64 r.f0, .int .i64 r.f1, .int .i64 r.f2, .int .i64 r.f3, .int .i64 r.f4, .int .i64 r.f5, .string r.f6] 41)).cell? ⟨rb, 3, none⟩ = some (.slice Av l.length cv)) := Lib.hid ((blk_cell (blk_alloc HH6.out _) 3).trans rfl)
                  clear hHeld HS6
                  refine hK.out _ _ HS7.out (fun hHeld => ?_)
                  clear hK K
                  refine norm_ (a' := ?_) ?_ ?_
                  rotate_left
                  · show Act.put _ (some 65) _ = _
                    simp only [Act.put, List.setIfInBounds_toArray, List.set_cons_zero, List.set_cons_succ, i64_w, i32_w]
                    rfl
                  refine one_ (i := 8) (N := some 66) #[true, true, true, true, true, true, true, true, true, false, false, false] rfl rfl (one_of HT_.out (by kernel_rfl)) (by decide) (fun K hK => ?_)
                  refine Kd.R_append_step k39 (w0 := w6) (W := w6) w1.heap.size (by rfl) (.tmp 62) (.tmp 65) 34 41 (.agg #[.int .i64 0, .int .i64 0, .int .i64 0, .int .i64 0, .int .i64 0, .int .i64 0, .string ⟨#[]⟩]) 64 (by rfl) Try.underlying34 info41 rfl (by decide) (by decide) (.slice Av l.length cv) l r [.int .i64 r.f0, .int .i64 r.f1, .int .i64 r.f2, .int .i64 r.f3, .int .i64 r.f4, .int .i64 r.f5, .string r.f6] (fun _ => True) (fun _ => False) (by rfl) (by rfl) (k39_mkM w6 _ _ r) (fun _ h => h.elim) (fun _ _ => trivial) HO6.out (Below.refl _ _) HZ6.out (by omega) ?_
                  intro v8 w8 ho8 hb8 hg8 hat8
                  have HH8 := Lib.hid (blk_grown HH6.out hg8 (Kd.R_away (Kd.R_bound HO6.out) (fun k hk => by have h1 := HS1.out; have h2 := hk.2.1; omega)))
                  have HE8 := Lib.hid (blk_grown HE6.out hg8 (Kd.R_away (Kd.R_bound HO6.out) (fun k hk => by have h1 := HS1.out; have h2 := hk.2.1; omega)))
                  have HF8 := Lib.hid (HF6.out.then_grown HO6.out hg8 (by have := HS1.out; omega))
                  obtain ⟨A8, c8, rfl⟩ := Kd.R_slice ho8
                  have HO8 := Lib.hid ho8
                  have HS8 : Hid (w8.cell? ⟨rb, 3, none⟩ = some (.slice Av l.length cv)) := Lib.hid ((blk_cell HH8.out 3).trans rfl)
                  clear ho8 hb8 hg8 hat8 hHeld HS7 HH6 HE6 HO6 HF6
                  refine hK.out _ _ HS8.out (fun hHeld => ?_)
                  clear hK K
                  refine norm_ (a' := ?_) ?_ ?_
                  rotate_left
                  · show Act.put _ (some 66) _ = _
                    simp only [Act.put, List.setIfInBounds_toArray, List.set_cons_zero, List.set_cons_succ, i64_w, i32_w]
                    rfl
                  refine pure_ (i := 9) (N := some 67) (v := ?_) (a' := ?_) #[true, true, true, true, true, true, true, true, true, true, false, false] rfl rfl (any_of HT_.out (by kernel_rfl)) (fun _ _ _ h => h) (Or.inl ⟨by rfl, ?_⟩) ?_ ?_
                  rotate_left
                  · intro w'
                    go_simp
                    with_reducible rfl
                  rotate_left
                  · simp only [Act.put, List.setIfInBounds_toArray, List.set_cons_zero, List.set_cons_succ, i64_w, i32_w]
                    rfl
                  refine pure_ (i := 10) (N := some 68) (v := ?_) (a' := ?_) #[true, true, true, true, true, true, true, true, true, true, true, false] rfl rfl (any_of HT_.out (by kernel_rfl)) (fun _ _ _ h => h) (Or.inl ⟨by rfl, ?_⟩) ?_ ?_
                  rotate_left
                  · intro w'
                    go_simp
                    with_reducible rfl
                  rotate_left
                  · simp only [Act.put, List.setIfInBounds_toArray, List.set_cons_zero, List.set_cons_succ, i64_w, i32_w]
                    rfl
                  refine last_ (i := 11) (N := none) #[true, true, true, true, true, true, true, true, true, true, true, true] rfl rfl (one_of HT_.out (by kernel_rfl)) (by decide) (fun K hK => ?_)
                  have hz8 := blk_frozen HH8.out 3
                  have hc8 := HS8.out
                  refine skip_ (by rfl) rfl (w1 := w8.setCell ⟨rb, 3, none⟩ (.slice A8 (l ++ [r]).length c8)) ?_ ?_
                  · go_simp
                  clear hz8 hc8
                  refine hK.out _ _ ?_
                  clear hK K
                  refine done_ (done_of HT_.out (by kernel_rfl)) ?_
                  refine NoPanic.normal ?_
                  have hh9 := blk_put HH8.out 3 (.slice A8 (l ++ [r]).length c8) (show _ = rdC (sd, rm, dg) (.slice A8 (l ++ [r]).length c8) (at_ : Int) from rfl)
                  have he9 := blk_far HE8.out (p := ⟨rb, 3, none⟩) (show e0 ≠ rb by omega) (.slice A8 (l ++ [r]).length c8)
                  have hf9 := HF8.out.set (p := ⟨rb, 3, none⟩) rfl (.slice A8 (l ++ [r]).length c8)
                  have ho9 := Kd.R_mono (Kd.R_far (Kd.R_bound HO8.out) (p := ⟨rb, 3, none⟩) (fun k hk e => by have h1 := HS1.out; have h2 := hk.2.1; simp only at e; omega) (.slice A8 (l ++ [r]).length c8)) (fun _ _ => trivial)
                  generalize w8.setCell _ _ = w9 at hh9 he9 hf9 ho9 ⊢
                  have hc4 : w9.cell? ⟨rb, 4, none⟩ = some (.int .i64 (at_ : Int)) := (blk_cell hh9 4).trans rfl
                  have hzz := fun i => blk_frozen hh9 i
                  have N1 := Aside0.mk (blk_put hh9 4 (.int .i64 (m' : Int)) (show _ = rdC (sd, rm, dg) (.slice A8 (l ++ [r]).length c8) (m' : Int) from rfl))
                  have N2 := Aside0.mk (blk_far he9 (p := ⟨rb, 4, none⟩) (show e0 ≠ rb by omega) (.int .i64 (m' : Int)))
                  have N3 := Aside0.mk (hf9.set (p := ⟨rb, 4, none⟩) rfl (.int .i64 (m' : Int)))
                  have N4 := Aside0.mk (Kd.R_mono (Kd.R_far (Kd.R_bound ho9) (p := ⟨rb, 4, none⟩) (fun k hk e => by have h1 := HS1.out; have h2 := hk.2.1; simp only at e; omega) (.int .i64 (m' : Int))) (fun _ _ => trivial))
                  have N5 := Aside0.mk HDF5.out
                  have hmm1 : at_ < m' := by omega
                  have hmm2 : m' ≤ b.length := hm'.2
                  clear hh9 he9 hf9 ho9 HH8 HE8 HF8 HO8 HDF5 HRC
                  go_wp2_with fail
                  go_roundw
                  case rel => exact ⟨m', l ++ [r], _, hmm2, rfl, N1, N2, N4, N3, N5⟩
                  case measure => simp [intOf]; omega
              · have HDF4 := Lib.hid (show readE b = ((sd, rm, dg), (l, at_, 212)) from by rw [HDF3.out, if_neg (by omega)])
                have hd4 : decide ((l.length : Int) < 4096) = false := decide_eq_false h4
                have hd5 : ¬ l.length < 4096 := by omega
                clear HDF3
                go_wp2_with fail
                refine (must_no w5).mono ?_
                rintro e w7 ⟨he, rfl⟩
                simp only [fell] at he
                subst he
                exact falls _ 0 212 rfl HE5.out (HFALL.out _ _ at_ l 212 w5 HH5.out HE5.out (Kd.R_lower HO5.out (by have := HS1.out; omega)) HF5.out HDF4.out)
end Go.Proofs.Ytmklmpajcomimaa.Hand
end

section
/- Decode. -/
namespace Go.Proofs.Ytmklmpajcomimaa.Hand
open Go.RowKit Go.Proofs.YtmklmpajcomimaaW.PrintWords Go.Proofs.YtmklmpajcomimaaW.PrintLast Go.Proofs.YtmklmpajcomimaaW.PrintMore Go.Proofs.Ytmklmpajcomimaa.PTraceWrites Go.Proofs.Ytmklmpajcomimaa.CrcMath
set_option linter.unusedVariables false
set_option linter.unusedSimpArgs false
attribute [local go_sem ↓] Go.wp_at_zero Go.wp_at_succ
/-- What Decode's results say. -/
def DecTo (base : Nat) (r : (Int × Int × Int) × List S39 × Nat × Int) (e : Ending) (w' : World) : Prop := ∃ v, e = .returned (.tuple #[.agg (headC r.1.1 r.1.2.1 r.1.2.2), v, .int .i64 (r.2.2.1 : Int), .int .i64 r.2.2.2]) ∧ Kd.R k39 41 w' base (fun _ => True) v r.2.1
set_option maxHeartbeats 8000000 in
set_option maxRecDepth 100000 in
theorem decode_calls (A : Option Addr) (c : Nat) (b : List Int) (w : World) (hr : Kd.C (Kd.int .u8) w A b.length b) (hc : b.length ≤ c) (hb : Bytes b) (hl : b.length ≤ 1000000) :
    Calls Try.prog 17 #[.slice A b.length c] w fun e w' => DecTo w.heap.size (readE b) e w' ∧ Below w.heap.size w w' := by
  have hb1 := below_alloc (Below.refl w.heap.size w) (.cells (headC 0 0 0) 33 (0, 0))
  have hg1 := blk_new w (.cells (headC 0 0 0) 33 (0, 0))
  have hz1 := alloc_size w (.cells (headC 0 0 0) 33 (0, 0))
  obtain ⟨w1, hw1⟩ : ∃ w1, w.alloc (.cells (headC 0 0 0) 33 (0, 0)) = w1 := ⟨_, rfl⟩
  rw [hw1] at hb1 hg1 hz1
  obtain ⟨g, hg⟩ : ∃ g, w.heap.size = g := ⟨_, rfl⟩
  rw [hg] at hg1 hz1
  have hb2 := below_alloc hb1 (.cells (rdC (0, 0, 0) (.slice none 0 0) 0) 70 (0, 0))
  have hg2 := blk_alloc hg1 (.cells (rdC (0, 0, 0) (.slice none 0 0) 0) 70 (0, 0))
  have hh2 := blk_new w1 (.cells (rdC (0, 0, 0) (.slice none 0 0) 0) 70 (0, 0))
  obtain ⟨w2, hw2⟩ : ∃ w2, w1.alloc (.cells (rdC (0, 0, 0) (.slice none 0 0) 0) 70 (0, 0)) = w2 := ⟨_, rfl⟩
  rw [hw2] at hb2 hg2 hh2
  obtain ⟨rb, hrb⟩ : ∃ rb, w1.heap.size = rb := ⟨_, rfl⟩
  rw [hrb] at hh2 hz1
  have hgr : g < rb := by omega
  unfold headC at hw1
  unfold rdC at hw2
  simp only at hw2
  have hrd := read_calls rb A c b w2 hh2 (fun W hF => Kd.C_below hr (Fr.below hb2 hF (hb2.size) (fun i hi => by omega))) hc hb hl
  have HRD := Lib.hid hrd
  have HB2 := Lib.hid hb2
  have HG2 := Lib.hid hg2
  clear hrd hb1 hb2 hg1 hg2 hh2 hr hb hz1
  go_enter Try.func17, Try.ntmps17
  go_wp2_with fail
  (try rw [hw1])
  (try rw [hw2])
  (try rw [hg])
  refine HRD.out.mono ?_
  rintro e w3 ⟨⟨v, rfl, hh3, hr3⟩, hF3⟩
  obtain ⟨r, hrE⟩ : ∃ r, readE b = r := ⟨_, rfl⟩
  rw [hrE] at hh3 hr3 ⊢
  obtain ⟨⟨sd, rm, dg⟩, l, at_, er⟩ := r
  have HRE := Lib.hid hrE
  clear hrE
  simp only at hh3 hr3 ⊢
  obtain ⟨Av, cv, rfl⟩ := Kd.R_slice hr3
  have HB3 := Lib.hid (Fr.below HB2.out hF3 HB2.out.size (fun i hi => by omega))
  have hg3 := (hF3.block g (blk_lt HG2.out) (by omega)).trans HG2.out
  have hc0 : w3.cell? ⟨rb, 0, none⟩ = some (.int .u64 sd) := (blk_cell hh3 0).trans rfl
  have hc1 : w3.cell? ⟨rb, 1, none⟩ = some (.int .i64 rm) := (blk_cell hh3 1).trans rfl
  have hc2 : w3.cell? ⟨rb, 2, none⟩ = some (.int .u32 dg) := (blk_cell hh3 2).trans rfl
  have hc3 : w3.cell? ⟨rb, 3, none⟩ = some (.slice Av l.length cv) := (blk_cell hh3 3).trans rfl
  have hc4 : w3.cell? ⟨rb, 4, none⟩ = some (.int .i64 (at_ : Int)) := (blk_cell hh3 4).trans rfl
  have hd0 : w3.cell? ⟨g, 0, none⟩ = some (.int .u64 0) := (blk_cell hg3 0).trans rfl
  have hd1 : w3.cell? ⟨g, 1, none⟩ = some (.int .i64 0) := (blk_cell hg3 1).trans rfl
  have hd2 : w3.cell? ⟨g, 2, none⟩ = some (.int .u32 0) := (blk_cell hg3 2).trans rfl
  have hzz := fun i => blk_frozen hg3 i
  have hne : rb ≠ g := by omega
  have hne2 : g ≠ rb := by omega
  have HR3 := Lib.hid hr3
  have HBW := Lib.hid HB2.out.size
  clear hr3 hF3 hh3 HRD HG2 HB2
  go_wp2_with fail
  go_region_held3 (fun W => W.cell? ⟨rb, 0, none⟩ = some (.int .u64 sd) ∧ W.cell? ⟨rb, 1, none⟩ = some (.int .i64 rm) ∧ W.cell? ⟨rb, 2, none⟩ = some (.int .u32 dg) ∧ W.cell? ⟨rb, 3, none⟩ = some (.slice Av l.length cv) ∧ W.cell? ⟨rb, 4, none⟩ = some (.int .i64 (at_ : Int))) (go_keep) (fail)
  all_goals go_wp2_with fail
  have ht : ∀ q, q ∈ 41 :: k39.E → q ≠ 33 := fun q hq => by
    rcases List.mem_cons.1 hq with rfl | hq
    · decide
    · simp [k39, Kd.iso, Kd.pair, Kd.int, Kd.string, Kd.scalar] at hq
  have hS := Kd.R_drew (Kd.R_set (Kd.R_set (Kd.R_set HR3.out hg3 ht 0 (.int .u64 sd)) (blk_set hg3 0 (.int .u64 sd)) ht 1 (.int .i64 rm)) (blk_set (blk_set hg3 0 (.int .u64 sd)) 1 (.int .i64 rm)) ht 2 (.int .u32 dg))
  refine bodyPost_ret (v := .tuple #[.agg (headC sd rm dg), .slice Av l.length cv, .int .i64 (at_ : Int), .int .i64 er]) (by simp [results, Try.results17, go_sem, headC, hd0, hd1, hd2]) rfl ?_
  rw [HRE.out]
  exact ⟨⟨_, rfl, Kd.R_lower hS HBW.out⟩, below_drew (((HB3.out.setCell (p := ⟨g, 0, none⟩) (show w.heap.size ≤ g by omega) _).setCell (p := ⟨g, 1, none⟩) (show w.heap.size ≤ g by omega) _).setCell (p := ⟨g, 2, none⟩) (show w.heap.size ≤ g by omega) _)⟩
end Go.Proofs.Ytmklmpajcomimaa.Hand
end
