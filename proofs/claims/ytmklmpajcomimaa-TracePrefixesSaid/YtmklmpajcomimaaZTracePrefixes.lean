import Derived.Test.YtmklmpajcomimaaZAlive
import Derived.Deep.RegionHeld3
import Derived.Test.YtmklmpajcomimaaRows
import Derived.WalkKit
import Derived.ProofKit
import Derived.OpenShut
import Derived.ShutString
import Derived.ChangeOld
import Derived.Below
import Derived.SizedLaws
import Derived.Test.YtmklmpajcomimaaYWSized
section
/- TracePrefixes, walked. -/
namespace Go.Proofs.Ytmklmpajcomimaa.Hand
open Go.RowKit Go.Proofs.YtmklmpajcomimaaW.PrintWords Go.Proofs.YtmklmpajcomimaaW.PrintLast Go.Proofs.YtmklmpajcomimaaW.PrintMore Go.Proofs.Ytmklmpajcomimaa.PTraceWrites Go.Proofs.Ytmklmpajcomimaa.CrcMath
set_option linter.unusedVariables false
set_option linter.unusedSimpArgs false
theorem max2_mx (k k' : IntKind) (x y : Int) : Builtin.max2 (.int k x) (.int k' y) = pure (.int k (max x y)) := by
  rw [max2_int]
  congr 2
  omega
theorem min2_mn (k k' : IntKind) (x y : Int) : Builtin.min2 (.int k x) (.int k' y) = pure (.int k (min x y)) := by
  rw [min2_int]
  congr 2
  omega
attribute [local go_sem] max2_mx min2_mn max_two min_two
attribute [local go_sem ↓] Go.wp_at_zero Go.wp_at_succ
set_option maxHeartbeats 16000000 in
set_option maxRecDepth 100000 in
theorem pre_many (s r d : Int) (A : Option Addr) (c : Nat) (l : List S39) (w : World) (n : Int) (hr : Kd.C k39 w A l.length l) (hc : l.length ≤ c) (hl : l.length ≤ 9223372036854775807) (hf : fewB l = false) :
    Calls Try.prog 5 #[.agg #[.int .u64 s, .int .i64 r, .int .u32 d], .slice A l.length c, .int .i64 n] w fun e w' => e = .returned (.bool true) ∧ Below w.heap.size w w' := by
  have hb1 := below_alloc (Below.refl w.heap.size w) (.cells #[.int .u64 s, .int .i64 r, .int .u32 d] 25 (0, 0))
  have hg1 := blk_new w (.cells #[.int .u64 s, .int .i64 r, .int .u32 d] 25 (0, 0))
  have hz1 := alloc_size w (.cells #[.int .u64 s, .int .i64 r, .int .u32 d] 25 (0, 0))
  obtain ⟨w1, hw1⟩ : ∃ w1, w.alloc (.cells #[.int .u64 s, .int .i64 r, .int .u32 d] 25 (0, 0)) = w1 := ⟨_, rfl⟩
  rw [hw1] at hb1 hg1 hz1
  obtain ⟨q, hq⟩ : ∃ q, w.heap.size = q := ⟨_, rfl⟩
  rw [hq] at hg1 hz1
  have hfw := few_calls A c l w1 (Kd.C_below hr hb1) hc hl
  rw [hf] at hfw
  have HFW := Lib.hid hfw
  have HB1 := Lib.hid hb1
  clear hfw hb1 hg1 hz1 hr hf
  go_enter Try.func5, Try.ntmps5
  go_wp2_with fail
  (try rw [hw1])
  refine HFW.out.mono ?_
  rintro e w2 ⟨rfl, hb2⟩
  have HB2 := Lib.hid (below_step HB1.out hb2)
  clear hb2 HB1 HFW hw1
  go_wp2_with fail
  refine (alive_calls w2).mono ?_
  rintro e w3 ⟨rfl, hb3⟩
  have HB3 := Lib.hid (below_step HB2.out hb3)
  clear hb3 HB2
  go_wp2_with fail
  go_ret
  exact ⟨rfl, HB3.out⟩
set_option maxHeartbeats 16000000 in
set_option maxRecDepth 100000 in
theorem pre_not (s r d : Int) (A : Option Addr) (c : Nat) (l : List S39) (w : World) (n : Int) (hr : Kd.C k39 w A l.length l) (hc : l.length ≤ c) (hf : fewB l = true) (hfo : FewOk l) (hfit : ¬ (fitP r l = true ∧ (encP s r d l).length ≤ 1048576)) :
    Calls Try.prog 5 #[.agg #[.int .u64 s, .int .i64 r, .int .u32 d], .slice A l.length c, .int .i64 n] w fun e w' => e = .returned (.bool true) ∧ Below w.heap.size w w' := by
  have hb1 := below_alloc (Below.refl w.heap.size w) (.cells #[.int .u64 s, .int .i64 r, .int .u32 d] 25 (0, 0))
  have hg1 := blk_new w (.cells #[.int .u64 s, .int .i64 r, .int .u32 d] 25 (0, 0))
  have hz1 := alloc_size w (.cells #[.int .u64 s, .int .i64 r, .int .u32 d] 25 (0, 0))
  obtain ⟨w1, hw1⟩ : ∃ w1, w.alloc (.cells #[.int .u64 s, .int .i64 r, .int .u32 d] 25 (0, 0)) = w1 := ⟨_, rfl⟩
  rw [hw1] at hb1 hg1 hz1
  obtain ⟨q, hq⟩ : ∃ q, w.heap.size = q := ⟨_, rfl⟩
  rw [hq] at hg1 hz1
  have hfw := few_calls A c l w1 (Kd.C_below hr hb1) hc (by have := hfo.1; omega)
  rw [hf] at hfw
  have HFW := Lib.hid hfw
  have HB1 := Lib.hid hb1
  have HG1 := Lib.hid hg1
  have HC1 := Lib.hid (Kd.C_below hr hb1)
  have henc := fun A3 c3 W (hW : Kd.C k39 W A3 l.length l) (h3 : l.length ≤ c3) => encode_not s r d A3 c3 l W hW h3 hfit
  have HENC := Lib.hid henc
  have HQ := Lib.hid hq
  have HW1 := Lib.hid hw1
  have HFO := Lib.hid hfo
  clear hfw hb1 hg1 hz1 hr hf henc hq hw1 hfo hfit
  go_enter Try.func5, Try.ntmps5
  go_wp2_with fail
  (try rw [HW1.out])
  (try rw [HQ.out])
  refine HFW.out.mono ?_
  rintro e w2 ⟨rfl, hb2⟩
  have hg2 := (hb2.block q (blk_lt HG1.out)).trans HG1.out
  have HG2 := Lib.hid hg2
  have HC2 := Lib.hid (Kd.C_below HC1.out hb2)
  have HB2 := Lib.hid (below_step HB1.out hb2)
  have hk0 : w2.cell? ⟨q, 0, none⟩ = some (.int .u64 s) := (blk_cell hg2 0).trans rfl
  have hk1 : w2.cell? ⟨q, 1, none⟩ = some (.int .i64 r) := (blk_cell hg2 1).trans rfl
  have hk2 : w2.cell? ⟨q, 2, none⟩ = some (.int .u32 d) := (blk_cell hg2 2).trans rfl
  have hS2 : w2.cell? ⟨q, 0, none⟩ = some (.int .u64 s) ∧ w2.cell? ⟨q, 1, none⟩ = some (.int .i64 r) ∧ w2.cell? ⟨q, 2, none⟩ = some (.int .u32 d) := ⟨hk0, hk1, hk2⟩
  have hbd := below_drew (Below.refl w2.heap.size w2)
  have HMADE := Lib.hid (made_good A c l w2.drew (Kd.C_drew HC2.out) hc (by have := HFO.out.1; omega))
  clear hb2 hg2 HG1 HC1 HB1 HFW
  go_wp2_with fail
  go_region_held3 (fun W => W.cell? ⟨q, 0, none⟩ = some (.int .u64 s) ∧ W.cell? ⟨q, 1, none⟩ = some (.int .i64 r) ∧ W.cell? ⟨q, 2, none⟩ = some (.int .u32 d)) (first | assumption | simp [*]) (first | (go_at_call 12; refine HMADE.out.mono ?_; rintro e w3 ⟨A3, c3, rfl, hl3, hC3, hb3'⟩; have hb3 := below_step hbd hb3'; have HG3 := Lib.hid ((hb3.block q (blk_lt HG2.out)).trans HG2.out); have HC3 := Lib.hid (Kd.C_below HC2.out hb3); have HB3 := Lib.hid (below_step HB2.out hb3); have hS3 : w3.cell? ⟨q, 0, none⟩ = some (.int .u64 s) ∧ w3.cell? ⟨q, 1, none⟩ = some (.int .i64 r) ∧ w3.cell? ⟨q, 2, none⟩ = some (.int .u32 d) := ⟨(blk_cell HG3.out 0).trans rfl, (blk_cell HG3.out 1).trans rfl, (blk_cell HG3.out 2).trans rfl⟩) | (go_at_call 11; refine (HENC.out A3 c3 w3 hC3 hl3).mono ?_; rintro e w4 ⟨rfl, hb4⟩; have HG4 := Lib.hid ((hb4.block q (blk_lt HG3.out)).trans HG3.out); have HC4 := Lib.hid (Kd.C_below HC3.out hb4); have HB4 := Lib.hid (below_step HB3.out hb4); have hS4 : w4.cell? ⟨q, 0, none⟩ = some (.int .u64 s) ∧ w4.cell? ⟨q, 1, none⟩ = some (.int .i64 r) ∧ w4.cell? ⟨q, 2, none⟩ = some (.int .u32 d) := ⟨(blk_cell HG4.out 0).trans rfl, (blk_cell HG4.out 1).trans rfl, (blk_cell HG4.out 2).trans rfl⟩))
  clear hk0 hk1 hk2 hS2 hS3 hS4 hb3 hb3' hb4 hbd hC3 HG2 HC2 HB2 HG3 HC3 HB3 HMADE HENC HW1 HQ
  go_wp2_with fail
  refine (alive_calls w4).mono ?_
  rintro e w5 ⟨rfl, hb5⟩
  have HB5 := Lib.hid (below_step HB4.out hb5)
  clear hb5 HB4 HG4 HC4
  go_wp2_with fail
  go_ret
  exact ⟨rfl, HB5.out⟩
set_option maxHeartbeats 16000000 in
set_option maxRecDepth 100000 in
theorem pre_neg (s r d : Int) (A : Option Addr) (c : Nat) (l : List S39) (w : World) (n : Int) (hr : Kd.C k39 w A l.length l) (hc : l.length ≤ c) (hh : HeadOk s r d) (hf : fewB l = true) (hfo : FewOk l) (hall : l.all rightP = true) (h0 : n < 0) :
    Calls Try.prog 5 #[.agg #[.int .u64 s, .int .i64 r, .int .u32 d], .slice A l.length c, .int .i64 n] w fun e w' => e = .returned (.bool true) ∧ Below w.heap.size w w' := by
  have hin : inNum r = true := decide_eq_true hh.2.1
  have hfit : fitP r l = true := by
    unfold fitP
    rw [hin, hall, decide_eq_true (show l.length ≤ 4096 by have := hfo.1; omega)]
    rfl
  have hll : l.length ≤ 4096 := by have := hfo.1; omega
  have hle := few_enc (s := s) (r := r) (d := d) hfo hall
  have hby := bytes_wf (encP_wf hh hll hall)
  have hrd := readE_enc s r d l hh hll hall
  obtain ⟨B, hB⟩ : ∃ B, encP s r d l = B := ⟨_, rfl⟩
  rw [hB] at hrd hle hby
  have HRD := Lib.hid hrd
  have HBY := Lib.hid hby
  clear hrd hby hh hall hin HRD HBY
  have hb1 := below_alloc (Below.refl w.heap.size w) (.cells #[.int .u64 s, .int .i64 r, .int .u32 d] 25 (0, 0))
  have hg1 := blk_new w (.cells #[.int .u64 s, .int .i64 r, .int .u32 d] 25 (0, 0))
  have hz1 := alloc_size w (.cells #[.int .u64 s, .int .i64 r, .int .u32 d] 25 (0, 0))
  obtain ⟨w1, hw1⟩ : ∃ w1, w.alloc (.cells #[.int .u64 s, .int .i64 r, .int .u32 d] 25 (0, 0)) = w1 := ⟨_, rfl⟩
  rw [hw1] at hb1 hg1 hz1
  obtain ⟨q, hq⟩ : ∃ q, w.heap.size = q := ⟨_, rfl⟩
  rw [hq] at hg1 hz1
  have hfw := few_calls A c l w1 (Kd.C_below hr hb1) hc (by have := hfo.1; omega)
  rw [hf] at hfw
  have HFW := Lib.hid hfw
  have HB1 := Lib.hid hb1
  have HG1 := Lib.hid hg1
  have HC1 := Lib.hid (Kd.C_below hr hb1)
  have henc := fun A3 c3 W (hW : Kd.C k39 W A3 l.length l) (h3 : l.length ≤ c3) => encode_good s r d A3 c3 l W hW h3 hfit (by rw [hB]; omega)
  simp only [hB] at henc
  have HENC := Lib.hid henc
  have HQ := Lib.hid hq
  have HW1 := Lib.hid hw1
  have HFO := Lib.hid hfo
  clear hfw hb1 hg1 hz1 hr hf henc hq hw1 hfo hfit
  go_enter Try.func5, Try.ntmps5
  go_wp2_with fail
  (try rw [HW1.out])
  (try rw [HQ.out])
  refine HFW.out.mono ?_
  rintro e w2 ⟨rfl, hb2⟩
  have hg2 := (hb2.block q (blk_lt HG1.out)).trans HG1.out
  have HG2 := Lib.hid hg2
  have HC2 := Lib.hid (Kd.C_below HC1.out hb2)
  have HB2 := Lib.hid (below_step HB1.out hb2)
  have hk0 : w2.cell? ⟨q, 0, none⟩ = some (.int .u64 s) := (blk_cell hg2 0).trans rfl
  have hk1 : w2.cell? ⟨q, 1, none⟩ = some (.int .i64 r) := (blk_cell hg2 1).trans rfl
  have hk2 : w2.cell? ⟨q, 2, none⟩ = some (.int .u32 d) := (blk_cell hg2 2).trans rfl
  have hS2 : w2.cell? ⟨q, 0, none⟩ = some (.int .u64 s) ∧ w2.cell? ⟨q, 1, none⟩ = some (.int .i64 r) ∧ w2.cell? ⟨q, 2, none⟩ = some (.int .u32 d) := ⟨hk0, hk1, hk2⟩
  have hbd := below_drew (Below.refl w2.heap.size w2)
  have HMADE := Lib.hid (made_good A c l w2.drew (Kd.C_drew HC2.out) hc (by have := HFO.out.1; omega))
  clear hb2 hg2 HG1 HC1 HB1 HFW
  go_wp2_with fail
  go_region_held3 (fun W => W.cell? ⟨q, 0, none⟩ = some (.int .u64 s) ∧ W.cell? ⟨q, 1, none⟩ = some (.int .i64 r) ∧ W.cell? ⟨q, 2, none⟩ = some (.int .u32 d)) (first | assumption | simp [*]) (first | (go_at_call 12; refine HMADE.out.mono ?_; rintro e w3 ⟨A3, c3, rfl, hl3, hC3, hb3'⟩; have hb3 := below_step hbd hb3'; have HG3 := Lib.hid ((hb3.block q (blk_lt HG2.out)).trans HG2.out); have HC3 := Lib.hid (Kd.C_below HC2.out hb3); have HB3 := Lib.hid (below_step HB2.out hb3); have hS3 : w3.cell? ⟨q, 0, none⟩ = some (.int .u64 s) ∧ w3.cell? ⟨q, 1, none⟩ = some (.int .i64 r) ∧ w3.cell? ⟨q, 2, none⟩ = some (.int .u32 d) := ⟨(blk_cell HG3.out 0).trans rfl, (blk_cell HG3.out 1).trans rfl, (blk_cell HG3.out 2).trans rfl⟩) | (go_at_call 11; refine (HENC.out A3 c3 w3 hC3 hl3).mono ?_; rintro e w4 ⟨A4, c4, rfl, hl4, hR4, hb4⟩; have HG4 := Lib.hid ((hb4.block q (blk_lt HG3.out)).trans HG3.out); have HC4 := Lib.hid (Kd.C_below HC3.out hb4); have HB4 := Lib.hid (below_step HB3.out hb4); have hS4 : w4.cell? ⟨q, 0, none⟩ = some (.int .u64 s) ∧ w4.cell? ⟨q, 1, none⟩ = some (.int .i64 r) ∧ w4.cell? ⟨q, 2, none⟩ = some (.int .u32 d) := ⟨(blk_cell HG4.out 0).trans rfl, (blk_cell HG4.out 1).trans rfl, (blk_cell HG4.out 2).trans rfl⟩))
  have HR4 := Lib.hid hR4
  clear hR4
  clear hk0 hk1 hk2 hS2 hS3 hS4 hb3 hb3' hb4 hbd hC3 HG2 HC2 HB2 HG3 HC3 HB3 HMADE HENC HW1 HQ
  clear HR4
  go_wp2_with fail
  refine (alive_calls w4).mono ?_
  rintro e w5 ⟨rfl, hb5⟩
  have HB5 := Lib.hid (below_step HB4.out hb5)
  clear hb5 HB4 HG4 HC4
  go_wp2_with fail
  go_ret
  exact ⟨rfl, HB5.out⟩
set_option maxHeartbeats 16000000 in
set_option maxRecDepth 100000 in
theorem pre_far (s r d : Int) (A : Option Addr) (c : Nat) (l : List S39) (w : World) (n : Int) (hr : Kd.C k39 w A l.length l) (hc : l.length ≤ c) (hh : HeadOk s r d) (hf : fewB l = true) (hfo : FewOk l) (hall : l.all rightP = true) (h0 : 0 ≤ n) (h1 : ((encP s r d l).length : Int) ≤ n) :
    Calls Try.prog 5 #[.agg #[.int .u64 s, .int .i64 r, .int .u32 d], .slice A l.length c, .int .i64 n] w fun e w' => e = .returned (.bool true) ∧ Below w.heap.size w w' := by
  have hin : inNum r = true := decide_eq_true hh.2.1
  have hfit : fitP r l = true := by
    unfold fitP
    rw [hin, hall, decide_eq_true (show l.length ≤ 4096 by have := hfo.1; omega)]
    rfl
  have hll : l.length ≤ 4096 := by have := hfo.1; omega
  have hle := few_enc (s := s) (r := r) (d := d) hfo hall
  have hby := bytes_wf (encP_wf hh hll hall)
  have hrd := readE_enc s r d l hh hll hall
  obtain ⟨B, hB⟩ : ∃ B, encP s r d l = B := ⟨_, rfl⟩
  rw [hB] at hrd hle hby h1
  have HRD := Lib.hid hrd
  have HBY := Lib.hid hby
  clear hrd hby hh hall hin HRD HBY
  have hm0 : decide (n < 0) = false := decide_eq_false (by omega)
  have hb1 := below_alloc (Below.refl w.heap.size w) (.cells #[.int .u64 s, .int .i64 r, .int .u32 d] 25 (0, 0))
  have hg1 := blk_new w (.cells #[.int .u64 s, .int .i64 r, .int .u32 d] 25 (0, 0))
  have hz1 := alloc_size w (.cells #[.int .u64 s, .int .i64 r, .int .u32 d] 25 (0, 0))
  obtain ⟨w1, hw1⟩ : ∃ w1, w.alloc (.cells #[.int .u64 s, .int .i64 r, .int .u32 d] 25 (0, 0)) = w1 := ⟨_, rfl⟩
  rw [hw1] at hb1 hg1 hz1
  obtain ⟨q, hq⟩ : ∃ q, w.heap.size = q := ⟨_, rfl⟩
  rw [hq] at hg1 hz1
  have hfw := few_calls A c l w1 (Kd.C_below hr hb1) hc (by have := hfo.1; omega)
  rw [hf] at hfw
  have HFW := Lib.hid hfw
  have HB1 := Lib.hid hb1
  have HG1 := Lib.hid hg1
  have HC1 := Lib.hid (Kd.C_below hr hb1)
  have henc := fun A3 c3 W (hW : Kd.C k39 W A3 l.length l) (h3 : l.length ≤ c3) => encode_good s r d A3 c3 l W hW h3 hfit (by rw [hB]; omega)
  simp only [hB] at henc
  have HENC := Lib.hid henc
  have HQ := Lib.hid hq
  have HW1 := Lib.hid hw1
  have HFO := Lib.hid hfo
  clear hfw hb1 hg1 hz1 hr hf henc hq hw1 hfo hfit
  go_enter Try.func5, Try.ntmps5
  go_wp2_with fail
  (try rw [HW1.out])
  (try rw [HQ.out])
  refine HFW.out.mono ?_
  rintro e w2 ⟨rfl, hb2⟩
  have hg2 := (hb2.block q (blk_lt HG1.out)).trans HG1.out
  have HG2 := Lib.hid hg2
  have HC2 := Lib.hid (Kd.C_below HC1.out hb2)
  have HB2 := Lib.hid (below_step HB1.out hb2)
  have hk0 : w2.cell? ⟨q, 0, none⟩ = some (.int .u64 s) := (blk_cell hg2 0).trans rfl
  have hk1 : w2.cell? ⟨q, 1, none⟩ = some (.int .i64 r) := (blk_cell hg2 1).trans rfl
  have hk2 : w2.cell? ⟨q, 2, none⟩ = some (.int .u32 d) := (blk_cell hg2 2).trans rfl
  have hS2 : w2.cell? ⟨q, 0, none⟩ = some (.int .u64 s) ∧ w2.cell? ⟨q, 1, none⟩ = some (.int .i64 r) ∧ w2.cell? ⟨q, 2, none⟩ = some (.int .u32 d) := ⟨hk0, hk1, hk2⟩
  have hbd := below_drew (Below.refl w2.heap.size w2)
  have HMADE := Lib.hid (made_good A c l w2.drew (Kd.C_drew HC2.out) hc (by have := HFO.out.1; omega))
  clear hb2 hg2 HG1 HC1 HB1 HFW
  go_wp2_with fail
  go_region_held3 (fun W => W.cell? ⟨q, 0, none⟩ = some (.int .u64 s) ∧ W.cell? ⟨q, 1, none⟩ = some (.int .i64 r) ∧ W.cell? ⟨q, 2, none⟩ = some (.int .u32 d)) (first | assumption | simp [*]) (first | (go_at_call 12; refine HMADE.out.mono ?_; rintro e w3 ⟨A3, c3, rfl, hl3, hC3, hb3'⟩; have hb3 := below_step hbd hb3'; have HG3 := Lib.hid ((hb3.block q (blk_lt HG2.out)).trans HG2.out); have HC3 := Lib.hid (Kd.C_below HC2.out hb3); have HB3 := Lib.hid (below_step HB2.out hb3); have hS3 : w3.cell? ⟨q, 0, none⟩ = some (.int .u64 s) ∧ w3.cell? ⟨q, 1, none⟩ = some (.int .i64 r) ∧ w3.cell? ⟨q, 2, none⟩ = some (.int .u32 d) := ⟨(blk_cell HG3.out 0).trans rfl, (blk_cell HG3.out 1).trans rfl, (blk_cell HG3.out 2).trans rfl⟩) | (go_at_call 11; refine (HENC.out A3 c3 w3 hC3 hl3).mono ?_; rintro e w4 ⟨A4, c4, rfl, hl4, hR4, hb4⟩; have HG4 := Lib.hid ((hb4.block q (blk_lt HG3.out)).trans HG3.out); have HC4 := Lib.hid (Kd.C_below HC3.out hb4); have HB4 := Lib.hid (below_step HB3.out hb4); have hS4 : w4.cell? ⟨q, 0, none⟩ = some (.int .u64 s) ∧ w4.cell? ⟨q, 1, none⟩ = some (.int .i64 r) ∧ w4.cell? ⟨q, 2, none⟩ = some (.int .u32 d) := ⟨(blk_cell HG4.out 0).trans rfl, (blk_cell HG4.out 1).trans rfl, (blk_cell HG4.out 2).trans rfl⟩))
  have HR4 := Lib.hid hR4
  clear hR4
  clear hk0 hk1 hk2 hS2 hS3 hS4 hb3 hb3' hb4 hbd hC3 HG2 HC2 HB2 HG3 HC3 HB3 HMADE HENC HW1 HQ
  clear HR4
  go_wp2_with fail
  refine (alive_calls w4).mono ?_
  rintro e w5 ⟨rfl, hb5⟩
  have HB5 := Lib.hid (below_step HB4.out hb5)
  clear hb5 HB4 HG4 HC4
  go_wp2_with fail
  go_ret
  exact ⟨rfl, HB5.out⟩
set_option maxHeartbeats 16000000 in
set_option maxRecDepth 100000 in
theorem pre_good (s r d : Int) (A : Option Addr) (c : Nat) (l : List S39) (w : World) (N : Nat) (hr : Kd.C k39 w A l.length l) (hc : l.length ≤ c) (hh : HeadOk s r d) (hf : fewB l = true) (hfo : FewOk l) (hall : l.all rightP = true) (hN : N < (encP s r d l).length) (J k p : Nat) (S R D : Int) (hk : k ≤ l.length) (hk1 : k = J - 1) (hJ : J ≤ 5000) (hst : (starts ((encP s r d l).take N) 0).length = J) (hp : p ≤ N) (hrd : readE ((encP s r d l).take N) = ((S, R, D), l.take k, p, 210)) (hcase : (J = 0 ∧ p = 0 ∧ S = 0 ∧ R = 0 ∧ D = 0) ∨ (0 < J ∧ S = s ∧ R = r ∧ D = d)) :
    Calls Try.prog 5 #[.agg #[.int .u64 s, .int .i64 r, .int .u32 d], .slice A l.length c, .int .i64 (N : Int)] w fun e w' => e = .returned (.bool true) ∧ Below w.heap.size w w' := by
  have hin : inNum r = true := decide_eq_true hh.2.1
  have hfit : fitP r l = true := by
    unfold fitP
    rw [hin, hall, decide_eq_true (show l.length ≤ 4096 by have := hfo.1; omega)]
    rfl
  have hll : l.length ≤ 4096 := by have := hfo.1; omega
  have hle := few_enc (s := s) (r := r) (d := d) hfo hall
  have hby := bytes_wf (encP_wf hh hll hall)
  obtain ⟨B, hB⟩ : ∃ B, encP s r d l = B := ⟨_, rfl⟩
  rw [hB] at hrd hle hby hN hst
  have HRD := Lib.hid hrd
  have HBY := Lib.hid hby
  clear hrd hby hh hall hin
  have hnl : (B.take N).length = N := by rw [List.length_take]; omega
  have hkt : (l.take k).length = k := by rw [List.length_take]; omega
  have hsame : ∀ AR cR W, Kd.C k39 W AR k (l.take k) → k ≤ cR → Kd.C k39 W A k (l.take k) → Calls Try.prog 18 #[.slice AR k cR, .slice A k c] W fun e w' => e = .returned (.bool true) ∧ Below W.heap.size W w' := by
    intro AR cR W h0 h1 h2
    have h := same_calls AR cR A c (l.take k) W (by rw [hkt]; exact h0) (by rw [hkt]; exact h1) (by rw [hkt]; exact h2) (by rw [hkt]; omega) (by rw [hkt]; omega)
    rw [hkt] at h
    exact h
  have HSAME := Lib.hid hsame
  have HNL := Lib.hid hnl
  have HKT := Lib.hid hkt
  have HST := Lib.hid hst
  have HKL := Lib.hid hk
  have HCASE := Lib.hid hcase
  have HNB := Lib.hid (show N ≤ B.length by omega)
  have hN1 : (N : Int) ≤ (B.length : Int) := by omega
  have hN0 : decide ((N : Int) < 0) = false := decide_eq_false (by omega)
  have hN2 : decide (B.length ≤ N) = false := decide_eq_false (by omega)
  have hpn : decide (N < p) = false := decide_eq_false (by omega)
  have hwr : IntKind.i64.wrap ((J : Int) - 1) = (J : Int) - 1 := by rw [i64_w]; exact wrap_of (by omega) (by omega)
  have hmx : max ((J : Int) - 1) 0 = (k : Int) := by omega
  have hmn : min (k : Int) (l.length : Int) = (k : Int) := by omega
  have hmn' : min k l.length = k := by omega
  have hkl : (k : Int) ≤ (l.length : Int) := by omega
  have hkc : (k : Int) ≤ (c : Int) := by omega
  have hkk : ((k : Int) == (k : Int)) = true := beq_self_eq_true _
  clear hsame hnl hkt hst hk hN hp hk1 hcase
  have hb1 := below_alloc (Below.refl w.heap.size w) (.cells #[.int .u64 s, .int .i64 r, .int .u32 d] 25 (0, 0))
  have hg1 := blk_new w (.cells #[.int .u64 s, .int .i64 r, .int .u32 d] 25 (0, 0))
  have hz1 := alloc_size w (.cells #[.int .u64 s, .int .i64 r, .int .u32 d] 25 (0, 0))
  obtain ⟨w1, hw1⟩ : ∃ w1, w.alloc (.cells #[.int .u64 s, .int .i64 r, .int .u32 d] 25 (0, 0)) = w1 := ⟨_, rfl⟩
  rw [hw1] at hb1 hg1 hz1
  obtain ⟨q, hq⟩ : ∃ q, w.heap.size = q := ⟨_, rfl⟩
  rw [hq] at hg1 hz1
  have hfw := few_calls A c l w1 (Kd.C_below hr hb1) hc (by have := hfo.1; omega)
  rw [hf] at hfw
  have HFW := Lib.hid hfw
  have HB1 := Lib.hid hb1
  have HG1 := Lib.hid hg1
  have HC1 := Lib.hid (Kd.C_below hr hb1)
  have henc := fun A3 c3 W (hW : Kd.C k39 W A3 l.length l) (h3 : l.length ≤ c3) => encode_good s r d A3 c3 l W hW h3 hfit (by rw [hB]; omega)
  simp only [hB] at henc
  have HENC := Lib.hid henc
  have HQ := Lib.hid hq
  have HW1 := Lib.hid hw1
  have HFO := Lib.hid hfo
  clear hfw hb1 hg1 hz1 hr hf henc hq hw1 hfo hfit
  go_enter Try.func5, Try.ntmps5
  go_wp2_with fail
  (try rw [HW1.out])
  (try rw [HQ.out])
  refine HFW.out.mono ?_
  rintro e w2 ⟨rfl, hb2⟩
  have hg2 := (hb2.block q (blk_lt HG1.out)).trans HG1.out
  have HG2 := Lib.hid hg2
  have HC2 := Lib.hid (Kd.C_below HC1.out hb2)
  have HB2 := Lib.hid (below_step HB1.out hb2)
  have hk0 : w2.cell? ⟨q, 0, none⟩ = some (.int .u64 s) := (blk_cell hg2 0).trans rfl
  have hk1 : w2.cell? ⟨q, 1, none⟩ = some (.int .i64 r) := (blk_cell hg2 1).trans rfl
  have hk2 : w2.cell? ⟨q, 2, none⟩ = some (.int .u32 d) := (blk_cell hg2 2).trans rfl
  have hS2 : w2.cell? ⟨q, 0, none⟩ = some (.int .u64 s) ∧ w2.cell? ⟨q, 1, none⟩ = some (.int .i64 r) ∧ w2.cell? ⟨q, 2, none⟩ = some (.int .u32 d) := ⟨hk0, hk1, hk2⟩
  have hbd := below_drew (Below.refl w2.heap.size w2)
  have HMADE := Lib.hid (made_good A c l w2.drew (Kd.C_drew HC2.out) hc (by have := HFO.out.1; omega))
  clear hb2 hg2 HG1 HC1 HB1 HFW
  go_wp2_with fail
  go_region_held3 (fun W => W.cell? ⟨q, 0, none⟩ = some (.int .u64 s) ∧ W.cell? ⟨q, 1, none⟩ = some (.int .i64 r) ∧ W.cell? ⟨q, 2, none⟩ = some (.int .u32 d)) (first | assumption | simp [*]) (first | (go_at_call 12; refine HMADE.out.mono ?_; rintro e w3 ⟨A3, c3, rfl, hl3, hC3, hb3'⟩; have hb3 := below_step hbd hb3'; have HG3 := Lib.hid ((hb3.block q (blk_lt HG2.out)).trans HG2.out); have HC3 := Lib.hid (Kd.C_below HC2.out hb3); have HB3 := Lib.hid (below_step HB2.out hb3); have hS3 : w3.cell? ⟨q, 0, none⟩ = some (.int .u64 s) ∧ w3.cell? ⟨q, 1, none⟩ = some (.int .i64 r) ∧ w3.cell? ⟨q, 2, none⟩ = some (.int .u32 d) := ⟨(blk_cell HG3.out 0).trans rfl, (blk_cell HG3.out 1).trans rfl, (blk_cell HG3.out 2).trans rfl⟩) | (go_at_call 11; refine (HENC.out A3 c3 w3 hC3 hl3).mono ?_; rintro e w4 ⟨A4, c4, rfl, hl4, hR4, hb4⟩; have HG4 := Lib.hid ((hb4.block q (blk_lt HG3.out)).trans HG3.out); have HC4 := Lib.hid (Kd.C_below HC3.out hb4); have HB4 := Lib.hid (below_step HB3.out hb4); have hS4 : w4.cell? ⟨q, 0, none⟩ = some (.int .u64 s) ∧ w4.cell? ⟨q, 1, none⟩ = some (.int .i64 r) ∧ w4.cell? ⟨q, 2, none⟩ = some (.int .u32 d) := ⟨(blk_cell HG4.out 0).trans rfl, (blk_cell HG4.out 1).trans rfl, (blk_cell HG4.out 2).trans rfl⟩))
  have HR4 := Lib.hid hR4
  clear hR4
  clear hk0 hk1 hk2 hS2 hS3 hS4 hb3 hb3' hb4 hbd hC3 HG2 HC2 HB2 HG3 HC3 HB3 HMADE HENC HW1 HQ
  have HBC4 := Lib.hid (Kd.R_reads' HR4.out).2.2
  have hd4 := decode_good A4 c4 (B.take N) w4 (Kd.C_take HBC4.out HNB.out) (by rw [HNL.out]; have := HNB.out; omega) (HBY.out.take N) (by rw [HNL.out]; have := HNB.out; omega) HRD.out
  rw [HNL.out, HKT.out] at hd4
  have HD4 := Lib.hid hd4
  clear HR4 hd4
  go_wp2_with fail
  refine HD4.out.mono ?_
  rintro e w5 ⟨A5, c5, rfl, hl5, hR5, hb5⟩
  have HM5 := Lib.hid ((Kd.R_reads' hR5).2.2)
  clear hR5 HD4
  have HG5 := Lib.hid ((hb5.block q (blk_lt HG4.out)).trans HG4.out)
  have HC5 := Lib.hid (Kd.C_below HC4.out hb5)
  have HBC5 := Lib.hid (Kd.C_below HBC4.out hb5)
  have HB5 := Lib.hid (below_step HB4.out hb5)
  clear hb5 HG4 HB4 HC4 HBC4
  have hg6 := blk_new w5 (.cells #[.int .u64 S, .int .i64 R, .int .u32 D] 33 (0, 0))
  have hb6 := below_alloc (Below.refl w5.heap.size w5) (.cells #[.int .u64 S, .int .i64 R, .int .u32 D] 33 (0, 0))
  obtain ⟨w6, hw6⟩ : ∃ w6, w5.alloc (.cells #[.int .u64 S, .int .i64 R, .int .u32 D] 33 (0, 0)) = w6 := ⟨_, rfl⟩
  obtain ⟨g, hg⟩ : ∃ g, w5.heap.size = g := ⟨_, rfl⟩
  rw [hw6] at hg6 hb6
  rw [hg] at hg6
  have HW6 := Lib.hid hw6
  have HGE := Lib.hid hg
  have HH6 := Lib.hid hg6
  have HG6 := Lib.hid ((hb6.block q (blk_lt HG5.out)).trans HG5.out)
  have HC6 := Lib.hid (Kd.C_below HC5.out hb6)
  have HBC6 := Lib.hid (Kd.C_below HBC5.out hb6)
  have HM6 := Lib.hid (Kd.C_below HM5.out hb6)
  have HB6 := Lib.hid (below_step HB5.out hb6)
  clear hb6 hg6 hw6 hg HG5 HB5 HC5 HBC5 HM5
  have hf6 := frames_good A4 c4 (B.take N) w6 (Kd.C_take HBC6.out HNB.out) (by rw [HNL.out]; have := HNB.out; omega) (HBY.out.take N) (by rw [HNL.out]; have := HNB.out; omega)
  rw [HNL.out, HST.out] at hf6
  have HF6 := Lib.hid hf6
  clear hf6
  go_wp2_with fail
  (try rw [HW6.out])
  (try rw [HGE.out])
  clear HW6 HGE
  refine HF6.out.mono ?_
  rintro e w7 ⟨A7, c7, rfl, hC7, hb7⟩
  clear hC7 HF6
  have HG7 := Lib.hid ((hb7.block q (blk_lt HG6.out)).trans HG6.out)
  have HH7 := Lib.hid ((hb7.block g (blk_lt HH6.out)).trans HH6.out)
  have HC7 := Lib.hid (Kd.C_below HC6.out hb7)
  have HBC7 := Lib.hid (Kd.C_below HBC6.out hb7)
  have HM7 := Lib.hid (Kd.C_below HM6.out hb7)
  have HB7 := Lib.hid (below_step HB6.out hb7)
  clear hb7 HG6 HB6 HH6 HC6 HBC6 HM6
  go_wp2_with fail
  have hr7 := rows_good A5 c5 (l.take k) w7.drew (Kd.C_drew HM7.out) (by rw [HKT.out]; exact hl5) (by rw [HKT.out]; have := HKL.out; omega)
  rw [HKT.out] at hr7
  have HROWS := Lib.hid hr7
  have hbd := below_drew (Below.refl w7.heap.size w7)
  have hT : True := trivial
  clear hr7
  go_region_held3 (fun W => True) (first | assumption | simp [*]) (first | (go_at_call 19; refine HROWS.out.mono ?_; rintro e w8 ⟨AR, cR, rfl, hlR, hCR, hb8'⟩; have hb8 := below_step hbd hb8'; have HCR := Lib.hid hCR; have HG8 := Lib.hid ((hb8.block q (blk_lt HG7.out)).trans HG7.out); have HH8 := Lib.hid ((hb8.block g (blk_lt HH7.out)).trans HH7.out); have HC8 := Lib.hid (Kd.C_below HC7.out hb8); have HB8 := Lib.hid (below_step HB7.out hb8)) | (go_at_call 18; refine (HSAME.out AR cR w8 HCR.out hlR (by have h := Kd.C_take HC8.out HKL.out; rw [HKT.out] at h; exact h)).mono ?_; rintro e w9 ⟨rfl, hb9⟩; have HG9 := Lib.hid ((hb9.block q (blk_lt HG8.out)).trans HG8.out); have HH9 := Lib.hid ((hb9.block g (blk_lt HH8.out)).trans HH8.out); have HB9 := Lib.hid (below_step HB8.out hb9)))
  clear hbd hb8 hb8' HROWS HSAME HCR HC8 HB8 HG8 HH8 HM7 HBC7 HC7 HB7 HG7 HH7 hwr hmx hmn hmn' hkl hkc hkk hN1 hN0 hN2 hpn
  go_wp2_with fail
  refine (alive_calls w9).mono ?_
  rintro e w10 ⟨rfl, hb10⟩
  have HG10 := Lib.hid ((hb10.block q (blk_lt HG9.out)).trans HG9.out)
  have HH10 := Lib.hid ((hb10.block g (blk_lt HH9.out)).trans HH9.out)
  have HB10 := Lib.hid (below_step HB9.out hb10)
  clear hb10 HG9 HB9 HH9 
  have hh0 : w10.cell? ⟨g, 0, none⟩ = some (.int .u64 S) := (blk_cell HH10.out 0).trans rfl
  have hh1 : w10.cell? ⟨g, 1, none⟩ = some (.int .i64 R) := (blk_cell HH10.out 1).trans rfl
  have hh2 : w10.cell? ⟨g, 2, none⟩ = some (.int .u32 D) := (blk_cell HH10.out 2).trans rfl
  have hq0 : w10.cell? ⟨q, 0, none⟩ = some (.int .u64 s) := (blk_cell HG10.out 0).trans rfl
  have hq1 : w10.cell? ⟨q, 1, none⟩ = some (.int .i64 r) := (blk_cell HG10.out 1).trans rfl
  have hq2 : w10.cell? ⟨q, 2, none⟩ = some (.int .u32 d) := (blk_cell HG10.out 2).trans rfl
  rcases HCASE.out with ⟨rfl, rfl, rfl, rfl, rfl⟩ | ⟨hJp, rfl, rfl, rfl⟩
  · go_wp2_with fail
    go_ret
    exact ⟨rfl, HB10.out⟩
  · have hJd : decide (0 < J) = true := decide_eq_true hJp
    have hJi : (0 : Int) < (J : Int) := by omega
    go_wp2_with fail
    go_ret
    exact ⟨rfl, HB10.out⟩
theorem pre_ok (s r d : Int) (A : Option Addr) (c : Nat) (l : List S39) (w : World) (N : Nat) (hr : Kd.C k39 w A l.length l) (hc : l.length ≤ c) (hh : HeadOk s r d) (hf : fewB l = true) (hfo : FewOk l) (hall : l.all rightP = true) (hN : N < (encP s r d l).length) :
    Calls Try.prog 5 #[.agg #[.int .u64 s, .int .i64 r, .int .u32 d], .slice A l.length c, .int .i64 (N : Int)] w fun e w' => e = .returned (.bool true) ∧ Below w.heap.size w w' := by
  obtain ⟨j, hj⟩ := begins s r d l N hh (by have := hfo.1; omega) hall hN
  have hfw := hj.few
  have hl30 := hfo.1
  have hr' := hj.read
  by_cases h0 : j = 0
  · subst h0
    rw [if_pos rfl] at hr'
    exact pre_good s r d A c l w N hr hc hh hf hfo hall hN 0 0 0 0 0 0 (Nat.zero_le _) rfl (by omega) hj.starts (Nat.zero_le _) hr' (Or.inl ⟨rfl, rfl, rfl, rfl, rfl⟩)
  · rw [if_neg h0] at hr'
    exact pre_good s r d A c l w N hr hc hh hf hfo hall hN j (j - 1) _ s r d (by omega) rfl (by omega) hj.starts hj.le hr' (Or.inr ⟨by omega, rfl, rfl, rfl⟩)
end Go.Proofs.Ytmklmpajcomimaa.Hand
end

section
/- The statement TracePrefixesSaid: the law tells true for every input; no condition. -/
namespace Go.Proofs.Ytmklmpajcomimaa.tracePrefixes
open Go.ChangeShapes Go.WideShapes Go.ChangeAt Go.RowKit
open Go.ChangeMaps (open_string shut_string)
set_option linter.unusedVariables false
theorem own : ownKnob Try.prog.godebug = none := by kernel_rfl
theorem laidOut : laidOutB Try.prog = true := by kernel_rfl
theorem walk (w : World) (s0 r0 d0 : Int) (A1 : Option Addr) (c1 : Nat) (l1 : List PTraceWrites.S39) (a2 : Int) (ws0 : (Lit.int .u64 s0).wf = true) (wr0 : (Lit.int .i64 r0).wf = true) (wd0 : (Lit.int .u32 d0).wf = true) (w1 : Go.Proofs.YtmklmpajcomimaaW.PrintWords.Kd.C PTraceWrites.k39 w A1 l1.length l1) (y1 : l1.length ≤ c1) (z1 : ∀ o ∈ l1, o.f6.size ≤ 140737488355328) (w2 : (Lit.int .i64 a2).wf = true) :
    Calls Try.prog 5 #[.agg #[.int .u64 s0, .int .i64 r0, .int .u32 d0], .slice A1 l1.length c1, .int .i64 a2] w fun e w' => e = .returned (.bool true) ∧ Below w.heap.size w w' := by
  have hs := Hand.wf_u64 ws0
  have hd := Hand.wf_u32 wd0
  cases hf : Hand.fewB l1 with
  | false => exact Hand.pre_many s0 r0 d0 A1 c1 l1 w a2 w1 y1 w1.2.1 hf
  | true =>
    have hfo := Hand.few_ok hf z1
    by_cases hfit : Hand.fitP r0 l1 = true ∧ (Hand.encP s0 r0 d0 l1).length ≤ 1048576
    · obtain ⟨hall, hh⟩ := Hand.fit_ok (s := s0) (d := d0) hfit.1 hs hd
      by_cases h0 : 0 ≤ a2
      · by_cases h1 : a2 < ((Hand.encP s0 r0 d0 l1).length : Int)
        · obtain ⟨N, rfl⟩ : ∃ N : Nat, a2 = (N : Int) := ⟨a2.toNat, by omega⟩
          exact Hand.pre_ok s0 r0 d0 A1 c1 l1 w N w1 y1 hh hf hfo hall (by omega)
        · exact Hand.pre_far s0 r0 d0 A1 c1 l1 w a2 w1 y1 hh hf hfo hall h0 (by omega)
      · exact Hand.pre_neg s0 r0 d0 A1 c1 l1 w a2 w1 y1 hh hf hfo hall (by omega)
    · exact Hand.pre_not s0 r0 d0 A1 c1 l1 w a2 w1 y1 hf hfo hfit
set_option maxRecDepth 100000 in
theorem lifted (os : Os) (started : os.Started) (H : Type) (enc : TypeId × Value → H) :
    ReturnsInHanded {} Try.checked os 5 .any (Rows.tracePrefixesSpec.pre6 enc Try.prog Try.f5 Rows.tracePrefixesRow.domain false) (Rows.tracePrefixesSpec.post enc Try.prog Try.f5 false true false false) := by
  refine returnsInHanded_of_change_sized (C := Try.checked) own started (by kernel_rfl) Try.func5
    (ChangeSpec.witness6 (enc := enc) (C := Try.checked) false ⟨#[], #[.agg #[.int .u64 0, .int .i64 0, .int .u32 0], .slice none 0 0, .int .i64 0], []⟩ 8 (by kernel_rfl) (by kernel_rfl) (by kernel_rfl) (by kernel_rfl)) ?_
  intro W base args ds gs before hval0 hW hcnd hsz0 _
  have hsz : (DataW.weightsEach Try.prog (Try.f5.params.toList ++ Rows.tracePrefixesSpec.plain.varTypes Try.prog) (ds ++ gs)).all (· ≤ reachBytes) = true := hsz0
  have hval : ∀ (j : Nat) t v, Try.f5.params[j]? = some t → args[j]? = some v → Value.okWide Try.prog W .any base t v := hval0
  have hW' := hW
  obtain ⟨p, q, hA0, hV, rfl, hfz, hnd⟩ := hW
  have hA : DataW.TrodAll enc Try.prog W 0 (fun _ => true) true Try.f5.params.toList args.toList ds p := hA0
  rw [Try.params5] at hA hval hsz
  obtain ⟨v0, vs0, d0, ds0, p0, q0, hargs, rfl, rfl, h0, r0⟩ := trodAll_cons hA
  obtain ⟨v1, vs1, d1, ds1, p1, q1, rfl, rfl, rfl, h1, r1⟩ := trodAll_cons r0
  obtain ⟨v2, vs2, d2, ds2, p2, q2, rfl, rfl, rfl, h2, r2⟩ := trodAll_cons r1
  obtain ⟨rfl, rfl, rfl⟩ := trodAll_nil r2
  obtain rfl : args = #[v0, v1, v2] := by cases args; simp_all
  obtain ⟨rfl, rfl⟩ := trodVars_none hV
  have k0 := h0
  have lt0 : ∀ x ∈ p0, x.block < W.heap.size := by obtain ⟨m, hm⟩ := k0; exact DataW.trod_lt m _ _ _ hm
  obtain ⟨hs0, hr0, hd0x, rfl, ws0, wr0, wd0⟩ := Hand.open_head (hval 0 25 v0 rfl rfl) h0
  obtain ⟨A1, len1, c1, rfl⟩ := okWide_slice Try.underlying26 (hval 1 26 v1 rfl rfl)
  have k1 := h1
  have lt1 : ∀ x ∈ p1, x.block < W.heap.size := by obtain ⟨m, hm⟩ := k1; exact DataW.trod_lt m _ _ _ hm
  obtain ⟨l1, hl1, y1, w1, hx1⟩ : ∃ l : List PTraceWrites.S39, l.length = len1 ∧ len1 ≤ c1 ∧ Go.Proofs.YtmklmpajcomimaaW.PrintWords.Kd.C PTraceWrites.k39 W A1 len1 l ∧ (len1 = 0 ∨ ∃ sp : List (DataW H), d1 = .slice (l.map Hand.recD) sp) := by
    obtain ⟨fuel, hf⟩ := h1
    exact Hand.open_recs hf
  have z1 : ∀ o ∈ l1, o.f6.size ≤ 140737488355328 := by
    rcases hx1 with h0 | ⟨sp, hd⟩
    · intro o ho
      rw [List.eq_nil_of_length_eq_zero (hl1.trans h0)] at ho
      cases ho
    · exact fun o ho => Hand.sized_rec hsz (j := 1) rfl (congrArg some hd) o ho
  subst hl1
  obtain ⟨a2, rfl, rfl, rfl, w2⟩ := open_int Try.underlying3 (hval 2 3 v2 rfl rfl) h2
  clear hA0 hval0 hsz0 hsz
  refine (walk W hs0 hr0 hd0x A1 c1 l1 a2 ws0 wr0 wd0 w1 y1 z1 w2).mono fun e W' ⟨he, bel⟩ => ?_
  subst he
  exact ⟨_, rfl, _, _, _, [], _, [], hW', trodAll_mk1 (shut_bool Try.underlying4 _), (trodAll_cons_mk (Below.trod laidOut (by kernel_rfl) (of_decide_eq_true (by kernel_rfl)) k0 bel lt0) (trodAll_cons_mk (Below.trod laidOut (by kernel_rfl) (of_decide_eq_true (by kernel_rfl)) k1 bel lt1) (trodAll_cons_mk (shut_int Try.underlying3 w2) trodAll_mk0))), rfl, bel.frame _, fun h => by cases h⟩
theorem over : Rows.tracePrefixesRow.holds Try.pinned (OpenSpec.ofChange Rows.tracePrefixesSpec) :=
  OpenClaim.holds_of_wide 5 Try.f5 rfl rfl rfl rfl rfl rfl rfl ⟨rfl, rfl, rfl, rfl, rfl⟩ rfl rfl rfl rfl rfl (by kernel_rfl) Try.func5 (by kernel_rfl)
    (of_decide_eq_true (by kernel_rfl)) (by unfold Func.isWrapper; first | (rw [if_pos (by decide +kernel)]; kernel_rfl) | (rw [if_neg (by decide +kernel)]; exact ⟨rfl, rfl⟩))
    (fun os started H enc _ => lifted os started H enc)
theorem proved : Rows.TracePrefixesSaid := over
#print axioms proved
end Go.Proofs.Ytmklmpajcomimaa.tracePrefixes
namespace Go.Proofs.Ytmklmpajcomimaa
/-- The row, under a short name, for the claim. -/
theorem tracePrefixes_holds : Rows.TracePrefixesSaid := tracePrefixes.proved
end Go.Proofs.Ytmklmpajcomimaa
end
