import Derived.Test.YtmklmpajcomimaaZRec
section
/- Encode. -/
namespace Go.Proofs.Ytmklmpajcomimaa.Hand
open Go.RowKit Go.Proofs.YtmklmpajcomimaaW.PrintWords Go.Proofs.YtmklmpajcomimaaW.PrintLast Go.Proofs.YtmklmpajcomimaaW.PrintMore Go.Proofs.Ytmklmpajcomimaa.PTraceWrites Go.Proofs.Ytmklmpajcomimaa.CrcMath
set_option linter.unusedVariables false
set_option linter.unusedSimpArgs false

def headC (seed room digest : Int) : Array Value := #[.int .u64 seed, .int .i64 room, .int .u32 digest]
def fitP (room : Int) (l : List S39) : Bool := inNum room && decide (l.length ≤ 4096) && l.all rightP
set_option maxHeartbeats 8000000 in
set_option maxRecDepth 100000 in
theorem encode_bad (seed room digest : Int) (A : Option Addr) (c : Nat) (l : List S39) (w : World) (hr : Kd.C k39 w A l.length l) (hc : l.length ≤ c) (hf : fitP room l = false) : Calls Try.prog 11 #[.agg (headC seed room digest), .slice A l.length c] w fun e w' => e = .returned (.tuple #[.slice none 0 0, .int .i64 1]) ∧ Below w.heap.size w w' := by
  unfold headC
  have hb1 := below_alloc (Below.refl w.heap.size w) (.cells (headC seed room digest) 33 (0, 0))
  have hg1 := blk_new w (.cells (headC seed room digest) 33 (0, 0))
  obtain ⟨w1, hw1⟩ : ∃ w1, w.alloc (.cells (headC seed room digest) 33 (0, 0)) = w1 := ⟨_, rfl⟩
  rw [hw1] at hb1 hg1
  unfold headC at hw1 hg1
  obtain ⟨g, hgg⟩ : ∃ g, w.heap.size = g := ⟨_, rfl⟩
  rw [hgg] at hg1
  have hk1 : w1.cell? ⟨g, 1, none⟩ = some (.int .i64 room) := (blk_cell hg1 1).trans rfl
  have HB1 := Lib.hid hb1
  have HR1 := Lib.hid (Kd.C_below hr hb1)
  clear hb1 hg1
  by_cases h1 : room < 0
  · go_enter Try.func11, Try.ntmps11
    go_wp2_with fail
    go_ret2
    (try rw [hw1])
    exact ⟨rfl, by first | exact HB1.out | (rw [← hgg]; exact HB1.out) | (rw [hgg] at HB1; exact HB1.out)⟩
  · by_cases h2 : 2199023255552 < room
    · go_enter Try.func11, Try.ntmps11
      go_wp2_with fail
      go_ret2
      (try rw [hw1])
      exact ⟨rfl, by first | exact HB1.out | (rw [← hgg]; exact HB1.out) | (rw [hgg] at HB1; exact HB1.out)⟩
    · by_cases h3 : (4096 : Int) < l.length
      · go_enter Try.func11, Try.ntmps11
        go_wp2_with fail
        go_ret2
        (try rw [hw1])
        exact ⟨rfl, by first | exact HB1.out | (rw [← hgg]; exact HB1.out) | (rw [hgg] at HB1; exact HB1.out)⟩
      · have hall : l.all rightP = false := by
          unfold fitP at hf
          rw [show inNum room = true from decide_eq_true ⟨by omega, by omega⟩, decide_eq_true (show l.length ≤ 4096 by omega)] at hf
          simpa using hf
        have hct := contains_calls A c l w1 HR1.out hc (by omega)
        rw [hall] at hct
        have HCT := Lib.hid hct
        clear hct hall hf
        go_enter Try.func11, Try.ntmps11
        go_wp2_with fail
        (try rw [hw1])
        refine HCT.out.mono ?_
        rintro e w2 ⟨rfl, hb2⟩
        have HB2 := Lib.hid (below_step HB1.out hb2)
        clear hb2
        go_wp2_with fail
        go_ret2
        exact ⟨rfl, by first | exact HB2.out | (rw [← hgg]; exact HB2.out)⟩
end Go.Proofs.Ytmklmpajcomimaa.Hand
end

section
/- Encode. -/
namespace Go.Proofs.Ytmklmpajcomimaa.Hand
open Go.RowKit Go.Proofs.YtmklmpajcomimaaW.PrintWords Go.Proofs.YtmklmpajcomimaaW.PrintLast Go.Proofs.YtmklmpajcomimaaW.PrintMore Go.Proofs.Ytmklmpajcomimaa.PTraceWrites Go.Proofs.Ytmklmpajcomimaa.CrcMath
set_option linter.unusedVariables false
set_option linter.unusedSimpArgs false
def TEnc : Bool × List (List Nat × List Nat) := (true, [([], []), ([], []), ([1], [1]), ([0, 2], [0, 2]), ([], []), ([4], [4]), ([3, 5, 3], [3, 5]), ([], []), ([7], [7]), ([6, 8, 6], [6, 8]), ([9, 9], [9]), ([10, 10, 0, 1, 2, 3, 4, 5, 6, 7, 8, 9, 10], [10])])
def BEnc : List Nat := [0, 0, 2, 7, 0, 16, 63, 0, 128, 511, 1023, 2047]
theorem tabEnc : rtab .any (opsOf Try.f11 3) = TEnc := by kernel_rfl
theorem bitsEnc : waitsOk TEnc.2 BEnc = true := by kernel_rfl
theorem put_keeps1 {w0 w : World} {S : Nat → Prop} (hB : Below w0.heap.size w0 w) (v : Value) (l0 : List Int) (n : Int) (ho : Kd.R (Kd.int .u8) 5 w w0.heap.size S v l0) (hS : ∀ k, w.heap.size ≤ k → S k) (hn : n < 9223372036854775808) (hx : l0.length ≤ 140737488355000) :
    Calls Try.prog 25 #[v, .int .i64 n] w fun e w' => ∃ v0 : Value, e = .returned v0 ∧ Kd.R (Kd.int .u8) 5 w' w0.heap.size S v0 (l0 ++ num n) ∧ Below w0.heap.size w0 w' ∧ Kept w w' S :=
  (leb_Put.calls 20 S v l0 n (l0 ++ num n) w0 w hB ho (put_is l0 n hn hx)).mono fun e w' ⟨v0, he, hr, hb, hk⟩ => ⟨v0, he, Kd.R_mono hr (fun k h => h.elim id (hS k)), hb, hk⟩
theorem put32_keeps {w0 w : World} {S : Nat → Prop} (hB : Below w0.heap.size w0 w) (v : Value) (l0 : List Int) (n : Int) (j : Nat) (ho : Kd.R (Kd.int .u8) 5 w w0.heap.size S v l0) (hS : ∀ k, w.heap.size ≤ k → S k) (hj : j ≤ 8) (hx : l0.length ≤ 140737488354000) :
    Calls Try.prog 24 #[v, .int .u32 n, .int .i64 j] w fun e w' => ∃ v0 : Value, e = .returned v0 ∧ Kd.R (Kd.int .u8) 5 w' w0.heap.size S v0 (l0 ++ low j n) ∧ Below w0.heap.size w0 w' ∧ Kept w w' S :=
  (trace_put_uint32.calls 20 S v l0 n j (l0 ++ low j n) w0 w hB ho (put32_l0 j 20 l0 n 0 j (by omega) (by omega) (by omega) (by omega) (by omega))).mono fun e w' ⟨v0, he, hr, hb, hk⟩ => ⟨v0, he, Kd.R_mono hr (fun k h => h.elim id (hS k)), hb, hk⟩
theorem put64_keeps {w0 w : World} {S : Nat → Prop} (hB : Below w0.heap.size w0 w) (v : Value) (l0 : List Int) (n : Int) (j : Nat) (ho : Kd.R (Kd.int .u8) 5 w w0.heap.size S v l0) (hS : ∀ k, w.heap.size ≤ k → S k) (hj : j ≤ 8) (hx : l0.length ≤ 140737488354000) :
    Calls Try.prog 26 #[v, .int .u64 n, .int .i64 j] w fun e w' => ∃ v0 : Value, e = .returned v0 ∧ Kd.R (Kd.int .u8) 5 w' w0.heap.size S v0 (l0 ++ low j n) ∧ Below w0.heap.size w0 w' ∧ Kept w w' S :=
  (trace_put_uint64.calls 20 S v l0 n j (l0 ++ low j n) w0 w hB ho (put64_l0 j 20 l0 n 0 j (by omega) (by omega) (by omega) (by omega) (by omega))).mono fun e w' ⟨v0, he, hr, hb, hk⟩ => ⟨v0, he, Kd.R_mono hr (fun k h => h.elim id (hS k)), hb, hk⟩
def headP (seed room digest : Int) : List Int := [255] ++ low 8 seed ++ num room ++ low 4 digest
def framesP : List S39 → List Int
  | [] => []
  | r :: l => frameP (bytesP r) ++ framesP l
theorem framesP_snoc : ∀ (l : List S39) (r : S39), framesP (l ++ [r]) = framesP l ++ frameP (bytesP r)
  | [], r => by simp [framesP]
  | a :: l, r => by simp [framesP, framesP_snoc l r]
def partP (seed room digest : Int) (l : List S39) : List Int := frameP (headP seed room digest) ++ framesP l
def encP (seed room digest : Int) (l : List S39) : List Int := partP seed room digest l ++ frameP ([0] ++ num l.length)
/-- What Encode's results say. -/
def Enced (base : Nat) (w' : World) (x : List Int) (v : Value) : Prop := if x.length ≤ 1048576 then ∃ u, v = .tuple #[u, .int .i64 0] ∧ Kd.R (Kd.int .u8) 5 w' base (fun _ => True) u x else v = .tuple #[.slice none 0 0, .int .i64 1]
theorem bytesP_len (r : S39) (h : rightP r = true) : (bytesP r).length ≤ 70000 := by
  have h1 := numsP_len (fld r)
  have h2 := num_len (r.f6.size : Int)
  have h3 := right_size h
  have h4 : (fld r).length = 5 := rfl
  simp only [bytesP, List.length_cons, List.length_append, bs_len]
  omega
theorem framesP_append : ∀ l m : List S39, framesP (l ++ m) = framesP l ++ framesP m
  | [], m => by simp [framesP]
  | a :: l, m => by simp [framesP, framesP_append l m]
theorem enc_longer (seed room digest : Int) (l : List S39) (k : Nat) (h : (1048576 : Int) < ((partP seed room digest (l.take k)).length : Int)) : ¬ (encP seed room digest l).length ≤ 1048576 := by
  have e : framesP l = framesP (l.take k) ++ framesP (l.drop k) := by rw [← framesP_append, List.take_append_drop]
  have e2 : (partP seed room digest l).length = (partP seed room digest (l.take k)).length + (framesP (l.drop k)).length := by
    unfold partP
    rw [e]
    simp only [List.length_append]
    omega
  unfold encP
  rw [List.length_append, e2]
  omega
theorem frameP_len (l : List Int) : (frameP l).length = l.length + 12 := by simp [frameP, sealP, tailOf, low_len]; omega
set_option maxHeartbeats 8000000 in
set_option maxRecDepth 100000 in
theorem encode_ok (seed room digest : Int) (A : Option Addr) (c : Nat) (l : List S39) (w : World) (hr : Kd.C k39 w A l.length l) (hc : l.length ≤ c) (hf : fitP room l = true) : Calls Try.prog 11 #[.agg (headC seed room digest), .slice A l.length c] w fun e w' => ∃ v, e = .returned v ∧ Enced w.heap.size w' (encP seed room digest l) v ∧ Below w.heap.size w w' := by
  unfold fitP at hf
  simp only [Bool.and_eq_true, decide_eq_true_eq] at hf
  obtain ⟨⟨hin, hl⟩, hall⟩ := hf
  have hin := of_decide_eq_true hin
  obtain ⟨hr0, hr1⟩ := hin
  have hb1 := below_alloc (Below.refl w.heap.size w) (.cells (headC seed room digest) 33 (0, 0))
  have hg1 := blk_new w (.cells (headC seed room digest) 33 (0, 0))
  obtain ⟨w1, hw1⟩ : ∃ w1, w.alloc (.cells (headC seed room digest) 33 (0, 0)) = w1 := ⟨_, rfl⟩
  rw [hw1] at hb1 hg1
  unfold headC at hw1 ⊢
  obtain ⟨g, hgg⟩ : ∃ g, w.heap.size = g := ⟨_, rfl⟩
  rw [hgg] at hg1
  have hk1 : w1.cell? ⟨g, 1, none⟩ = some (.int .i64 room) := (blk_cell hg1 1).trans rfl
  have HB1 := Lib.hid hb1
  have HG1 := Lib.hid hg1
  have hct := contains_calls A c l w1 (Kd.C_below hr hb1) hc (by omega)
  rw [hall] at hct
  have HCT := Lib.hid hct
  clear hct hb1 hg1
  have hlt1 : ¬ room < 0 := by omega
  have hlt2 : ¬ 2199023255552 < room := by omega
  have hlt3 : ¬ (4096 : Int) < l.length := by omega
  go_enter Try.func11, Try.ntmps11
  go_wp2_with fail
  refine HCT.out.mono ?_
  rintro e w2 ⟨rfl, hb2⟩
  have HB := Aside0.mk (below_step HB1.out hb2)
  have HG := Aside0.mk ((hb2.block g (blk_lt HG1.out)).trans HG1.out)
  clear hb2 hk1 HB1 HG1 HCT hw1
  go_wp2_with fail
  have n0_ := Aside0.mk (below_drew1 HB.out); have n1_ : Aside0 (w2.drew.heap[g]? = some (.cells (headC seed room digest) 33 (0, 0))) := Aside0.mk HG.out; clear HB HG; have HB := n0_; have HG := n1_; clear n0_ n1_
  refine start_ (n := 12) (S := fun w' => w'.cell? ⟨g, 0, none⟩ = some (.int .u64 seed) ∧ w'.cell? ⟨g, 1, none⟩ = some (.int .i64 room) ∧ w'.cell? ⟨g, 2, none⟩ = some (.int .u32 digest)) (ds := []) #[false, false, false, false, false, false, false, false, false, false, false, false] (by kernel_rfl) rfl rfl ⟨(blk_cell HG.out 0).trans rfl, (blk_cell HG.out 1).trans rfl, (blk_cell HG.out 2).trans rfl⟩ (fun hHeld => ?_); refine with_tabW tabEnc bitsEnc (fun HT_ HW_ => ?_)
  generalize w2.drew = wd at HB HG hHeld ⊢
  refine pure_ (i := 1) (N := some 27) (v := ?_) (a' := ?_) #[false, true, false, false, false, false, false, false, false, false, false, false] rfl rfl (any_of HT_.out (by kernel_rfl)) (fun _ _ _ h => h) (Or.inl ⟨by rfl, ?_⟩) ?_ ?_
  rotate_left
  · intro w'
    go_simp
    with_reducible rfl
  rotate_left
  · simp only [Act.put, List.setIfInBounds_toArray, List.set_cons_zero, List.set_cons_succ, i64_w, i32_w]
    rfl
  refine take_ (i := 2) (N := some 28) (v := ?_) (a' := ?_) #[false, true, true, false, false, false, false, false, false, false, false, false] rfl rfl (take_ofW HT_.out HW_.out (by kernel_rfl)) (fun _ _ _ h => h) (Or.inl ⟨by rfl, ?_⟩) hHeld ?_ ?_
  rotate_left
  · rintro w' ⟨s0_, s1_, s2_⟩
    go_simp
    with_reducible rfl
  rotate_left
  · simp only [Act.put, List.setIfInBounds_toArray, List.set_cons_zero, List.set_cons_succ, i64_w, i32_w]
    rfl
  refine pure_ (i := 4) (N := some 30) (v := ?_) (a' := ?_) #[false, true, true, false, true, false, false, false, false, false, false, false] rfl rfl (any_of HT_.out (by kernel_rfl)) (fun _ _ _ h => h) (Or.inl ⟨by rfl, ?_⟩) ?_ ?_
  rotate_left
  · intro w'
    go_simp
    with_reducible rfl
  rotate_left
  · simp only [Act.put, List.setIfInBounds_toArray, List.set_cons_zero, List.set_cons_succ, i64_w, i32_w]
    rfl
  refine take_ (i := 5) (N := some 31) (v := ?_) (a' := ?_) #[false, true, true, false, true, true, false, false, false, false, false, false] rfl rfl (take_ofW HT_.out HW_.out (by kernel_rfl)) (fun _ _ _ h => h) (Or.inl ⟨by rfl, ?_⟩) hHeld ?_ ?_
  rotate_left
  · rintro w' ⟨s0_, s1_, s2_⟩
    go_simp
    with_reducible rfl
  rotate_left
  · simp only [Act.put, List.setIfInBounds_toArray, List.set_cons_zero, List.set_cons_succ, i64_w, i32_w]
    rfl
  refine pure_ (i := 7) (N := some 33) (v := ?_) (a' := ?_) #[false, true, true, false, true, true, false, true, false, false, false, false] rfl rfl (any_of HT_.out (by kernel_rfl)) (fun _ _ _ h => h) (Or.inl ⟨by rfl, ?_⟩) ?_ ?_
  rotate_left
  · intro w'
    go_simp
    with_reducible rfl
  rotate_left
  · simp only [Act.put, List.setIfInBounds_toArray, List.set_cons_zero, List.set_cons_succ, i64_w, i32_w]
    rfl
  refine take_ (i := 8) (N := some 34) (v := ?_) (a' := ?_) #[false, true, true, false, true, true, false, true, true, false, false, false] rfl rfl (take_ofW HT_.out HW_.out (by kernel_rfl)) (fun _ _ _ h => h) (Or.inl ⟨by rfl, ?_⟩) hHeld ?_ ?_
  rotate_left
  · rintro w' ⟨s0_, s1_, s2_⟩
    go_simp
    with_reducible rfl
  rotate_left
  · simp only [Act.put, List.setIfInBounds_toArray, List.set_cons_zero, List.set_cons_succ, i64_w, i32_w]
    rfl
  refine one_ (i := 0) (N := some 26) #[true, true, true, false, true, true, false, true, true, false, false, false] rfl rfl (one_of HT_.out (by kernel_rfl)) (by decide) (fun K hK => ?_)
  refine Kd.R_lit_step (Kd.int .u8) (w0 := w) w.heap.size 5 (by rfl) (N := 26) rfl (xs := ([255] : List Int)) (inner := [.int .u8 255]) (ok := fun k => k ≠ g) (okp := fun k => k ≠ g) ?hr ?hp (fun _ hk => hk) ?hf ?hB ?hS (by simp) ?_
  case hr => first | (go_simp; done) | (go_simp; rfl)
  case hp => exact (Reps.one (show Kd.M (Kd.int .u8) _ _ _ (255 : Int) [.int .u8 255] from rfl) (Reps.none _ _))
  case hf => exact fun h => by have := blk_lt HG.out; omega
  case hB => exact HB.out
  case hS => exact HB.out.size
  intro v3 w3 hr hb hg_ hn_
  have hk := Kept.of_grown hg_ (Kept.refl wd (fun k => k ≠ g)) (fun k h => by cases h)
  clear hg_ hn_
  have n0_ := Aside0.mk hb; have n1_ := Aside0.mk ((hk.2 g (blk_lt HG.out) (fun h => h rfl)).trans HG.out); have n2_ := Aside0.mk hr; clear HB HG hb hk hr; have HB := n0_; have HG := n1_; have HO := n2_; clear n0_ n1_ n2_
  refine hK.out _ _ ⟨(blk_cell HG.out 0).trans rfl, (blk_cell HG.out 1).trans rfl, (blk_cell HG.out 2).trans rfl⟩ (fun hHeld => ?_)
  clear hK K
  refine norm_ (a' := ?_) ?_ ?_
  rotate_left
  · show Act.put _ (some 26) _ = _
    simp only [Act.put, List.setIfInBounds_toArray, List.set_cons_zero, List.set_cons_succ, i64_w, i32_w]
    rfl
  refine one_ (i := 3) (N := some 29) #[true, true, true, true, true, true, false, true, true, false, false, false] rfl rfl (one_of HT_.out (by kernel_rfl)) (by decide) (fun K hK => ?_)
  refine goes_ Try.func26 (by kernel_rfl) rfl #[v3, .int .u64 seed, .int .i64 (8 : Nat)] (by rfl) rfl rfl (by (try simp only [List.map_toArray, List.map_cons, List.map_nil]); first | done | rfl) ?_
  refine (put64_keeps HB.out v3 [255] seed 8 HO.out (fun k h => by have := blk_lt HG.out; omega) (by decide) (by decide)).mono ?_
  rintro e w4 ⟨v4, rfl, hr, hb, hk⟩
  have n0_ := Aside0.mk hb; have n1_ := Aside0.mk ((hk.2 g (blk_lt HG.out) (fun h => h rfl)).trans HG.out); have n2_ := Aside0.mk hr; clear HB HG hb hk hr HO; have HB := n0_; have HG := n1_; have HO := n2_; clear n0_ n1_ n2_
  refine ⟨_, rfl, ?_⟩
  refine hK.out _ _ ⟨(blk_cell HG.out 0).trans rfl, (blk_cell HG.out 1).trans rfl, (blk_cell HG.out 2).trans rfl⟩ (fun hHeld => ?_)
  clear hK K
  refine norm_ (a' := ?_) ?_ ?_
  rotate_left
  · show Act.put _ (some 29) _ = _
    simp only [Act.put, List.setIfInBounds_toArray, List.set_cons_zero, List.set_cons_succ, i64_w, i32_w]
    rfl
  refine one_ (i := 6) (N := some 32) #[true, true, true, true, true, true, true, true, true, false, false, false] rfl rfl (one_of HT_.out (by kernel_rfl)) (by decide) (fun K hK => ?_)
  refine goes_ Try.func25 (by kernel_rfl) rfl #[v4, .int .i64 room] (by rfl) rfl rfl (by (try simp only [List.map_toArray, List.map_cons, List.map_nil]); first | done | rfl) ?_
  refine (put_keeps1 HB.out v4 _ room HO.out (fun k h => by have := blk_lt HG.out; omega) (by omega) (by simp [low_len])).mono ?_
  rintro e w5 ⟨v5, rfl, hr, hb, hk⟩
  have n0_ := Aside0.mk hb; have n1_ := Aside0.mk ((hk.2 g (blk_lt HG.out) (fun h => h rfl)).trans HG.out); have n2_ := Aside0.mk hr; clear HB HG hb hk hr HO; have HB := n0_; have HG := n1_; have HO := n2_; clear n0_ n1_ n2_
  refine ⟨_, rfl, ?_⟩
  refine hK.out _ _ ⟨(blk_cell HG.out 0).trans rfl, (blk_cell HG.out 1).trans rfl, (blk_cell HG.out 2).trans rfl⟩ (fun hHeld => ?_)
  clear hK K
  refine norm_ (a' := ?_) ?_ ?_
  rotate_left
  · show Act.put _ (some 32) _ = _
    simp only [Act.put, List.setIfInBounds_toArray, List.set_cons_zero, List.set_cons_succ, i64_w, i32_w]
    rfl
  refine one_ (i := 9) (N := some 35) #[true, true, true, true, true, true, true, true, true, true, false, false] rfl rfl (one_of HT_.out (by kernel_rfl)) (by decide) (fun K hK => ?_)
  refine goes_ Try.func24 (by kernel_rfl) rfl #[v5, .int .u32 digest, .int .i64 (4 : Nat)] (by rfl) rfl rfl (by (try simp only [List.map_toArray, List.map_cons, List.map_nil]); first | done | rfl) ?_
  refine (put32_keeps HB.out v5 _ digest 4 HO.out (fun k h => by have := blk_lt HG.out; omega) (by decide) (by have := num_len room; simp [low_len]; omega)).mono ?_
  rintro e w6 ⟨v6, rfl, hr, hb, hk⟩
  have n0_ := Aside0.mk hb; have n1_ := Aside0.mk ((hk.2 g (blk_lt HG.out) (fun h => h rfl)).trans HG.out); have n2_ := Aside0.mk hr; clear HB HG hb hk hr HO; have HB := n0_; have HG := n1_; have HO := n2_; clear n0_ n1_ n2_
  obtain ⟨A6, c6, rfl, hl6, hC6⟩ := Kd.R_reads HO.out
  refine ⟨_, rfl, ?_⟩
  refine hK.out _ _ ⟨(blk_cell HG.out 0).trans rfl, (blk_cell HG.out 1).trans rfl, (blk_cell HG.out 2).trans rfl⟩ (fun hHeld => ?_)
  clear hK K
  refine norm_ (a' := ?_) ?_ ?_
  rotate_left
  · show Act.put _ (some 35) _ = _
    simp only [Act.put, List.setIfInBounds_toArray, List.set_cons_zero, List.set_cons_succ, i64_w, i32_w]
    rfl
  refine one_ (i := 10) (N := some 36) #[true, true, true, true, true, true, true, true, true, true, true, false] rfl rfl (one_of HT_.out (by kernel_rfl)) (by decide) (fun K hK => ?_)
  refine goes_ Try.func23 (by kernel_rfl) rfl #[.slice A6 _ c6] (by rfl) rfl rfl (by (try simp only [List.map_toArray, List.map_cons, List.map_nil]); first | done | rfl) ?_
  refine (frame_calls A6 c6 _ w6 hC6 hl6 (by have := num_len room; simp [low_len]; omega)).mono ?_
  rintro e w7 ⟨v7, rfl, hr, hb⟩
  have n0_ := Aside0.mk (Kd.R_lower hr HB.out.size); have n1_ := Aside0.mk ((hb.block g (blk_lt HG.out)).trans HG.out); have n2_ := Aside0.mk (below_step HB.out hb); clear HB HO HG hr hb hC6; have HO := n0_; have HG := n1_; have HB := n2_; clear n0_ n1_ n2_
  refine ⟨_, rfl, ?_⟩
  refine hK.out _ _ ⟨(blk_cell HG.out 0).trans rfl, (blk_cell HG.out 1).trans rfl, (blk_cell HG.out 2).trans rfl⟩ (fun hHeld => ?_)
  clear hK K
  refine norm_ (a' := ?_) ?_ ?_
  rotate_left
  · show Act.put _ (some 36) _ = _
    simp only [Act.put, List.setIfInBounds_toArray, List.set_cons_zero, List.set_cons_succ, i64_w, i32_w]
    rfl
  refine pure_ (i := 11) (N := some 6) (v := ?_) (a' := ?_) #[true, true, true, true, true, true, true, true, true, true, true, true] rfl rfl (any_of HT_.out (by kernel_rfl)) (fun _ _ _ h => h) (Or.inl ⟨by rfl, ?_⟩) ?_ ?_
  rotate_left
  · intro w'
    go_simp
    with_reducible rfl
  rotate_left
  · simp only [Act.put, List.setIfInBounds_toArray, List.set_cons_zero, List.set_cons_succ, i64_w, i32_w]
    rfl
  refine done_ (done_of HT_.out (by kernel_rfl)) ?_
  have HI : Aside0 (Kd.R (Kd.int .u8) 5 w7 w.heap.size (fun _ => True) v7 (partP seed room digest (l.take 0))) := Aside0.mk (by
    unfold partP headP
    rw [List.take_zero, framesP, List.append_nil]
    exact HO.out)
  have HL : Aside0 ((partP seed room digest (l.take 0)).length ≤ 1048576) := Aside0.mk (by
    have := num_len room
    simp [partP, headP, framesP, frameP_len, low_len]
    omega)
  have HR := Lib.hid hr
  have HALL := Lib.hid hall
  clear HO HG hHeld hr hall hin hgg hlt1 hlt2 hlt3 HT_ HW_
  go_wp2_with fail
  generalize ([255] ++ low 8 seed ++ num room ++ low 4 digest).length = n35
  go_loopw [6, 8, 39] (fun u6 u8 u39 wr => ∃ k : Nat, k ≤ l.length ∧ u39 = .int .i64 k ∧ Aside0 (Kd.R (Kd.int .u8) 5 wr w.heap.size (fun _ => True) u6 (partP seed room digest (l.take k))) ∧ Aside0 ((partP seed room digest (l.take k)).length ≤ 1048576) ∧ Aside0 (Below w.heap.size w wr)) (fun _ _ u39 _ => l.length - (intOf u39).toNat)
  case atStart => exact ⟨0, by omega, rfl, HI, HL, HB⟩
  case round =>
    obtain ⟨k, hk, rfl, HO, HN, HBr⟩ := hrel
    clear HI HL HB
    by_cases hlt : k < l.length
    · obtain ⟨ad, rfl, h0, h1, h2, h3, h4, h5, h6⟩ := at_T39 (Kd.C_below HR.out HBr.out) (k : Int) (by omega) (by omega)
      simp only [Int.toNat_natCast] at h0 h1 h2 h3 h4 h5 h6
      obtain ⟨r, hrr⟩ : ∃ r, rd_T39 l (k : Int) = r := ⟨_, rfl⟩
      rw [hrr] at h0 h1 h2 h3 h4 h5 h6
      have hright : rightP r = true := by
        rw [← hrr, rd39_at l k hlt]
        exact List.all_eq_true.1 HALL.out _ (List.getElem_mem hlt)
      have hby := fun W => bytes_calls r W hright
      unfold recV at hby
      have HBY := Lib.hid hby
      have hsn : partP seed room digest (l.take (k + 1)) = partP seed room digest (l.take k) ++ frameP (bytesP r) := by
        unfold partP
        rw [List.take_succ_eq_append_getElem hlt, framesP_snoc, ← rd39_at l k hlt, hrr, List.append_assoc]
      have HSN := Lib.hid hsn
      clear hby hsn hrr
      have hal := below_alloc HBr.out (.cells (recC r) 41 (0, 0))
      have hoa := Kd.R_alloc HO.out (.cells (recC r) 41 (0, 0))
      unfold recC at hal hoa
      have HAL := Lib.hid hal
      have HOA := Lib.hid hoa
      have hbl := bytesP_len r hright
      have HBL := Lib.hid hbl
      have HFL := Lib.hid (frameP_len (bytesP r))
      clear hal hoa hbl hright HO HBr
      go_wp2_with fail
      generalize wr.alloc _ = wa at HAL HOA ⊢
      refine (HBY.out wa).mono ?_
      rintro e w8 ⟨v8, rfl, hr8, hb8⟩
      obtain ⟨A8, c8, rfl, hl8, hC8⟩ := Kd.R_reads hr8
      have HC8 := Lib.hid hC8
      have HO8 := Lib.hid (Kd.R_below HOA.out hb8)
      have HB8 := Lib.hid (below_step HAL.out hb8)
      clear hr8 hC8 hb8 HOA HAL HBY
      go_wp2_with fail
      refine (frame_calls A8 c8 (bytesP r) w8 HC8.out hl8 (by have := HBL.out; omega)).mono ?_
      rintro e w9 ⟨v9, rfl, hr9, hb9⟩
      obtain ⟨A9, c9, rfl, hl9, hC9⟩ := Kd.R_reads hr9
      have HC9 := Lib.hid hC9
      have HO9 := Lib.hid (Kd.R_below HO8.out hb9)
      have HB9 := Lib.hid (below_step HB8.out hb9)
      clear hr9 hC9 hb9 HO8 HB8 HC8
      have LMX : Hid (((partP seed room digest (l.take k)).length + (frameP (bytesP r)).length) * 1 ≤ 140737488355328) := Lib.hid (by have := HN.out; have := HFL.out; have := HBL.out; omega)
      generalize frameP (bytesP r) = fr at HSN HC9 hl9 LMX HFL ⊢
      obtain ⟨pn, hpn⟩ : ∃ pn, partP seed room digest (l.take (k + 1)) = pn := ⟨_, rfl⟩
      rw [hpn] at HSN
      have HPN := Lib.hid hpn
      clear hpn
      by_cases hov : (1048576 : Int) < (pn.length : Int)
      · have HOV := Lib.hid (enc_longer seed room digest l (k + 1) (by rw [HPN.out]; exact hov))
        go_wp2_with ((with_reducible refine gate_builtin (b := .append) (xs := #[.tmp 43, .tmp 46]) rfl ?_); at_builtin; refine Kd.R_append_rows (Kd.int .u8) (w0 := w) w.heap.size rfl (.tmp 43) (.tmp 46) 29 5 (.int .u8 0) 1 rfl Try.underlying29 info5 rfl (by decide) (by omega) u6 (partP seed room digest (l.take k)) fr _ _ _ (fun _ => True) (fun _ => False) rfl rfl ?aO ?aR (fun _ _ h => h) (fun _ h => h.elim) ?aF ?aB ?aS ?aL ?_; (case aR => exact HC9.out); (case aB => exact HB9.out); (case aF => exact fun _ _ => trivial); (case aO => exact HO9.out); (case aS => exact HB9.out.size); (case aL => exact LMX.out); intro v w10 ho hb hg hat; (rw [← HSN.out] at ho); (obtain ⟨A10, c10, rfl⟩ := Kd.R_slice ho); have HO10 := Aside0.mk ho; have HB10 := Aside0.mk hb; clear ho hb hg hat)
        go_ret2
        refine ⟨_, rfl, ?_, HB10.out⟩
        unfold Enced
        rw [if_neg HOV.out]
        rfl
      go_wp2_with ((with_reducible refine gate_builtin (b := .append) (xs := #[.tmp 43, .tmp 46]) rfl ?_); at_builtin; refine Kd.R_append_rows (Kd.int .u8) (w0 := w) w.heap.size rfl (.tmp 43) (.tmp 46) 29 5 (.int .u8 0) 1 rfl Try.underlying29 info5 rfl (by decide) (by omega) u6 (partP seed room digest (l.take k)) fr _ _ _ (fun _ => True) (fun _ => False) rfl rfl ?aO ?aR (fun _ _ h => h) (fun _ h => h.elim) ?aF ?aB ?aS ?aL ?_; (case aR => exact HC9.out); (case aB => exact HB9.out); (case aF => exact fun _ _ => trivial); (case aO => exact HO9.out); (case aS => exact HB9.out.size); (case aL => exact LMX.out); intro v w10 ho hb hg hat; (rw [← HSN.out] at ho); (obtain ⟨A10, c10, rfl⟩ := Kd.R_slice ho); have HO10 := Aside0.mk ho; have HB10 := Aside0.mk hb; clear ho hb hg hat)
      have hov2 : pn.length ≤ 1048576 := by omega
      go_round
      case rel =>
        exact ⟨k + 1, by omega, by go_num, Aside0.mk (by rw [HPN.out]; exact HO10.out), Aside0.mk (by rw [HPN.out]; exact hov2), HB10⟩
      case measure => simp [intOf]; omega
    · obtain rfl : k = l.length := by omega
      have ho0 := HO.out
      have hn0 := HN.out
      rw [List.take_length] at ho0 hn0
      have HO0 := Lib.hid ho0
      have HN0 := Lib.hid hn0
      have HB0 := Lib.hid HBr.out
      clear ho0 hn0 HO HN HBr
      go_wp2_with ((with_reducible refine gate_dst (N := 53) rfl ?_); refine Kd.R_lit (Kd.int .u8) (w0 := wr) wr.heap.size 5 ?hg (N := 53) ?hd (xs := ([0] : List Int)) (inner := [.int .u8 0]) (ok := fun _ => True) (okp := fun _ => True) ?hr ?hp (fun _ hk => hk) trivial (Below.refl _ _) (Nat.le_refl _) (by simp) ?_; (case hd => rfl); (case hg => rfl); (case hr => first | (go_simp; done) | (go_simp; rfl)); (case hp => exact (Reps.one (show Kd.M (Kd.int .u8) _ _ _ (0 : Int) [.int .u8 0] from rfl) (Reps.none _ _))); intro v11 w11 ho11 hb11 hg11 hn11; clear hg11 hn11)
      refine (put_calls hb11 v11 [0] (l.length : Int) ho11 (by omega) (by simp)).mono ?_
      rintro e w12 ⟨v12, rfl, hr12, hb12⟩
      clear hb11 ho11
      obtain ⟨A12, c12, rfl, hl12, hC12⟩ := Kd.R_reads hr12
      have HC12 := Lib.hid hC12
      have HB12 := Lib.hid hb12
      clear hr12 hC12 hb12
      have hnl := num_len (l.length : Int)
      go_wp2_with fail
      refine (frame_calls A12 c12 ([0] ++ num l.length) w12 HC12.out hl12 (by simp; omega)).mono ?_
      rintro e w13 ⟨v13, rfl, hr13, hb13⟩
      obtain ⟨A13, c13, rfl, hl13, hC13⟩ := Kd.R_reads hr13
      have HC13 := Lib.hid hC13
      have hb13' := below_step HB12.out hb13
      have HO13 := Lib.hid (Kd.R_below HO0.out hb13')
      have HB13 := Lib.hid (below_step HB0.out hb13')
      clear hr13 hC13 hb13 hb13' HO0 HB0 HC12 HB12
      have LMX : Hid (((partP seed room digest l).length + (frameP ([0] ++ num l.length)).length) * 1 ≤ 140737488355328) := Lib.hid (by have := HN0.out; rw [frameP_len]; simp; omega)
      have hen : encP seed room digest l = partP seed room digest l ++ frameP ([0] ++ num l.length) := rfl
      generalize frameP ([0] ++ num (l.length : Int)) = fr at hen HC13 hl13 LMX ⊢
      obtain ⟨pn, hpn⟩ : ∃ pn, encP seed room digest l = pn := ⟨_, rfl⟩
      rw [hpn] at hen
      have HEN := Lib.hid hen
      have HPN := Lib.hid hpn
      clear hen hpn hnl
      by_cases hov : (1048576 : Int) < (pn.length : Int)
      · go_wp2_with ((with_reducible refine gate_builtin (b := .append) (xs := #[.tmp 52, .tmp 57]) rfl ?_); at_builtin; refine Kd.R_append_rows (Kd.int .u8) (w0 := w) w.heap.size rfl (.tmp 52) (.tmp 57) 29 5 (.int .u8 0) 1 rfl Try.underlying29 info5 rfl (by decide) (by omega) u6 (partP seed room digest l) fr _ _ _ (fun _ => True) (fun _ => False) rfl rfl ?aO ?aR (fun _ _ h => h) (fun _ h => h.elim) ?aF ?aB ?aS ?aL ?_; (case aR => exact HC13.out); (case aB => exact HB13.out); (case aF => exact fun _ _ => trivial); (case aO => exact HO13.out); (case aS => exact HB13.out.size); (case aL => exact LMX.out); intro v w14 ho hb hg hat; (rw [← HEN.out] at ho); (obtain ⟨A14, c14, rfl⟩ := Kd.R_slice ho); have HO14 := Aside0.mk ho; have HB14 := Aside0.mk hb; clear ho hb hg hat)
        go_ret2
        refine ⟨_, rfl, ?_, HB14.out⟩
        unfold Enced
        rw [HPN.out, if_neg (by omega)]
        rfl
      · go_wp2_with ((with_reducible refine gate_builtin (b := .append) (xs := #[.tmp 52, .tmp 57]) rfl ?_); at_builtin; refine Kd.R_append_rows (Kd.int .u8) (w0 := w) w.heap.size rfl (.tmp 52) (.tmp 57) 29 5 (.int .u8 0) 1 rfl Try.underlying29 info5 rfl (by decide) (by omega) u6 (partP seed room digest l) fr _ _ _ (fun _ => True) (fun _ => False) rfl rfl ?aO ?aR (fun _ _ h => h) (fun _ h => h.elim) ?aF ?aB ?aS ?aL ?_; (case aR => exact HC13.out); (case aB => exact HB13.out); (case aF => exact fun _ _ => trivial); (case aO => exact HO13.out); (case aS => exact HB13.out.size); (case aL => exact LMX.out); intro v w14 ho hb hg hat; (rw [← HEN.out] at ho); (obtain ⟨A14, c14, rfl⟩ := Kd.R_slice ho); have HO14 := Aside0.mk ho; have HB14 := Aside0.mk hb; clear ho hb hg hat)
        go_ret2
        refine ⟨_, rfl, ?_, HB14.out⟩
        unfold Enced
        rw [HPN.out, if_pos (by omega)]
        exact ⟨_, rfl, HO14.out⟩
end Go.Proofs.Ytmklmpajcomimaa.Hand
end
