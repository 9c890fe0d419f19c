import Derived.Test.YtmklmpajcomimaaZAlive
import Derived.Deep.RegionHeld3
import Derived.Test.YtmklmpajcomimaaRows
import Derived.WalkKit
import Derived.ProofKit
import Derived.OpenShut
import Derived.ShutString
import Derived.ChangeOld
import Derived.Below
import Derived.SizedLaws
import Derived.Test.YtmklmpajcomimaaYWSized
section
/- TraceMore, walked. -/
namespace Go.Proofs.Ytmklmpajcomimaa.Hand
open Go.RowKit Go.Proofs.YtmklmpajcomimaaW.PrintWords Go.Proofs.YtmklmpajcomimaaW.PrintLast Go.Proofs.YtmklmpajcomimaaW.PrintMore Go.Proofs.Ytmklmpajcomimaa.PTraceWrites Go.Proofs.Ytmklmpajcomimaa.CrcMath
set_option linter.unusedVariables false
set_option linter.unusedSimpArgs false
attribute [local go_sem ↓] Go.wp_at_zero Go.wp_at_succ
set_option maxHeartbeats 16000000 in
set_option maxRecDepth 100000 in
theorem more_many (s r d : Int) (A : Option Addr) (c : Nat) (l : List S39) (w : World) (AM : Option Addr) (cM : Nat) (m : List Int) (hr : Kd.C k39 w A l.length l) (hc : l.length ≤ c) (hl : l.length ≤ 9223372036854775807) (hf : fewB l = false) :
    Calls Try.prog 7 #[.agg #[.int .u64 s, .int .i64 r, .int .u32 d], .slice A l.length c, .slice AM m.length cM] w fun e w' => e = .returned (.bool true) ∧ Below w.heap.size w w' := by
  have hb1 := below_alloc (Below.refl w.heap.size w) (.cells #[.int .u64 s, .int .i64 r, .int .u32 d] 25 (0, 0))
  have hg1 := blk_new w (.cells #[.int .u64 s, .int .i64 r, .int .u32 d] 25 (0, 0))
  have hz1 := alloc_size w (.cells #[.int .u64 s, .int .i64 r, .int .u32 d] 25 (0, 0))
  obtain ⟨w1, hw1⟩ : ∃ w1, w.alloc (.cells #[.int .u64 s, .int .i64 r, .int .u32 d] 25 (0, 0)) = w1 := ⟨_, rfl⟩
  rw [hw1] at hb1 hg1 hz1
  obtain ⟨q, hq⟩ : ∃ q, w.heap.size = q := ⟨_, rfl⟩
  rw [hq] at hg1 hz1
  have hfw := few_calls A c l w1 (Kd.C_below hr hb1) hc hl
  rw [hf] at hfw
  have HFW := Lib.hid hfw
  have HB1 := Lib.hid hb1
  clear hfw hb1 hg1 hz1 hr hf
  go_enter Try.func7, Try.ntmps7
  go_wp2_with fail
  (try rw [hw1])
  refine HFW.out.mono ?_
  rintro e w2 ⟨rfl, hb2⟩
  have HB2 := Lib.hid (below_step HB1.out hb2)
  clear hb2 HB1 HFW hw1
  go_wp2_with fail
  refine (alive_calls w2).mono ?_
  rintro e w3 ⟨rfl, hb3⟩
  have HB3 := Lib.hid (below_step HB2.out hb3)
  clear hb3 HB2
  go_wp2_with fail
  go_ret
  exact ⟨rfl, HB3.out⟩
set_option maxHeartbeats 16000000 in
set_option maxRecDepth 100000 in
theorem more_not (s r d : Int) (A : Option Addr) (c : Nat) (l : List S39) (w : World) (AM : Option Addr) (cM : Nat) (m : List Int) (hr : Kd.C k39 w A l.length l) (hc : l.length ≤ c) (hf : fewB l = true) (hfo : FewOk l) (hfit : ¬ (fitP r l = true ∧ (encP s r d l).length ≤ 1048576)) :
    Calls Try.prog 7 #[.agg #[.int .u64 s, .int .i64 r, .int .u32 d], .slice A l.length c, .slice AM m.length cM] w fun e w' => e = .returned (.bool true) ∧ Below w.heap.size w w' := by
  have hb1 := below_alloc (Below.refl w.heap.size w) (.cells #[.int .u64 s, .int .i64 r, .int .u32 d] 25 (0, 0))
  have hg1 := blk_new w (.cells #[.int .u64 s, .int .i64 r, .int .u32 d] 25 (0, 0))
  have hz1 := alloc_size w (.cells #[.int .u64 s, .int .i64 r, .int .u32 d] 25 (0, 0))
  obtain ⟨w1, hw1⟩ : ∃ w1, w.alloc (.cells #[.int .u64 s, .int .i64 r, .int .u32 d] 25 (0, 0)) = w1 := ⟨_, rfl⟩
  rw [hw1] at hb1 hg1 hz1
  obtain ⟨q, hq⟩ : ∃ q, w.heap.size = q := ⟨_, rfl⟩
  rw [hq] at hg1 hz1
  have hfw := few_calls A c l w1 (Kd.C_below hr hb1) hc (by have := hfo.1; omega)
  rw [hf] at hfw
  have HFW := Lib.hid hfw
  have HB1 := Lib.hid hb1
  have HG1 := Lib.hid hg1
  have HC1 := Lib.hid (Kd.C_below hr hb1)
  have henc := fun A3 c3 W (hW : Kd.C k39 W A3 l.length l) (h3 : l.length ≤ c3) => encode_not s r d A3 c3 l W hW h3 hfit
  have HENC := Lib.hid henc
  have HQ := Lib.hid hq
  have HW1 := Lib.hid hw1
  have HFO := Lib.hid hfo
  clear hfw hb1 hg1 hz1 hr hf henc hq hw1 hfo hfit
  go_enter Try.func7, Try.ntmps7
  go_wp2_with fail
  (try rw [HW1.out])
  (try rw [HQ.out])
  refine HFW.out.mono ?_
  rintro e w2 ⟨rfl, hb2⟩
  have hg2 := (hb2.block q (blk_lt HG1.out)).trans HG1.out
  have HG2 := Lib.hid hg2
  have HC2 := Lib.hid (Kd.C_below HC1.out hb2)
  have HB2 := Lib.hid (below_step HB1.out hb2)
  have hk0 : w2.cell? ⟨q, 0, none⟩ = some (.int .u64 s) := (blk_cell hg2 0).trans rfl
  have hk1 : w2.cell? ⟨q, 1, none⟩ = some (.int .i64 r) := (blk_cell hg2 1).trans rfl
  have hk2 : w2.cell? ⟨q, 2, none⟩ = some (.int .u32 d) := (blk_cell hg2 2).trans rfl
  have hS2 : w2.cell? ⟨q, 0, none⟩ = some (.int .u64 s) ∧ w2.cell? ⟨q, 1, none⟩ = some (.int .i64 r) ∧ w2.cell? ⟨q, 2, none⟩ = some (.int .u32 d) := ⟨hk0, hk1, hk2⟩
  have hbd := below_drew (Below.refl w2.heap.size w2)
  have HMADE := Lib.hid (made_good A c l w2.drew (Kd.C_drew HC2.out) hc (by have := HFO.out.1; omega))
  clear hb2 hg2 HG1 HC1 HB1 HFW
  go_wp2_with fail
  go_region_held3 (fun W => W.cell? ⟨q, 0, none⟩ = some (.int .u64 s) ∧ W.cell? ⟨q, 1, none⟩ = some (.int .i64 r) ∧ W.cell? ⟨q, 2, none⟩ = some (.int .u32 d)) (first | assumption | simp [*]) (first | (go_at_call 12; refine HMADE.out.mono ?_; rintro e w3 ⟨A3, c3, rfl, hl3, hC3, hb3'⟩; have hb3 := below_step hbd hb3'; have HG3 := Lib.hid ((hb3.block q (blk_lt HG2.out)).trans HG2.out); have HC3 := Lib.hid (Kd.C_below HC2.out hb3); have HB3 := Lib.hid (below_step HB2.out hb3); have hS3 : w3.cell? ⟨q, 0, none⟩ = some (.int .u64 s) ∧ w3.cell? ⟨q, 1, none⟩ = some (.int .i64 r) ∧ w3.cell? ⟨q, 2, none⟩ = some (.int .u32 d) := ⟨(blk_cell HG3.out 0).trans rfl, (blk_cell HG3.out 1).trans rfl, (blk_cell HG3.out 2).trans rfl⟩) | (go_at_call 11; refine (HENC.out A3 c3 w3 hC3 hl3).mono ?_; rintro e w4 ⟨rfl, hb4⟩; have HG4 := Lib.hid ((hb4.block q (blk_lt HG3.out)).trans HG3.out); have HC4 := Lib.hid (Kd.C_below HC3.out hb4); have HB4 := Lib.hid (below_step HB3.out hb4); have hS4 : w4.cell? ⟨q, 0, none⟩ = some (.int .u64 s) ∧ w4.cell? ⟨q, 1, none⟩ = some (.int .i64 r) ∧ w4.cell? ⟨q, 2, none⟩ = some (.int .u32 d) := ⟨(blk_cell HG4.out 0).trans rfl, (blk_cell HG4.out 1).trans rfl, (blk_cell HG4.out 2).trans rfl⟩))
  clear hk0 hk1 hk2 hS2 hS3 hS4 hb3 hb3' hb4 hbd hC3 HG2 HC2 HB2 HG3 HC3 HB3 HMADE HENC HW1 HQ
  go_wp2_with fail
  refine (alive_calls w4).mono ?_
  rintro e w5 ⟨rfl, hb5⟩
  have HB5 := Lib.hid (below_step HB4.out hb5)
  clear hb5 HB4 HG4 HC4
  go_wp2_with fail
  go_ret
  exact ⟨rfl, HB5.out⟩
set_option maxHeartbeats 16000000 in
set_option maxRecDepth 100000 in
theorem more_none (s r d : Int) (A : Option Addr) (c : Nat) (l : List S39) (w : World) (AM : Option Addr) (cM : Nat) (m : List Int) (hr : Kd.C k39 w A l.length l) (hc : l.length ≤ c) (hh : HeadOk s r d) (hf : fewB l = true) (hfo : FewOk l) (hall : l.all rightP = true) (h0 : m = []) :
    Calls Try.prog 7 #[.agg #[.int .u64 s, .int .i64 r, .int .u32 d], .slice A l.length c, .slice AM m.length cM] w fun e w' => e = .returned (.bool true) ∧ Below w.heap.size w w' := by
  subst h0
  rw [List.length_nil]
  have hin : inNum r = true := decide_eq_true hh.2.1
  have hfit : fitP r l = true := by
    unfold fitP
    rw [hin, hall, decide_eq_true (show l.length ≤ 4096 by have := hfo.1; omega)]
    rfl
  have hll : l.length ≤ 4096 := by have := hfo.1; omega
  have hle := few_enc (s := s) (r := r) (d := d) hfo hall
  have hby := bytes_wf (encP_wf hh hll hall)
  have hrd := readE_enc s r d l hh hll hall
  obtain ⟨B, hB⟩ : ∃ B, encP s r d l = B := ⟨_, rfl⟩
  rw [hB] at hrd hle hby
  have HRD := Lib.hid hrd
  have HBY := Lib.hid hby
  clear hrd hby hh hall hin HRD HBY
  have hb1 := below_alloc (Below.refl w.heap.size w) (.cells #[.int .u64 s, .int .i64 r, .int .u32 d] 25 (0, 0))
  have hg1 := blk_new w (.cells #[.int .u64 s, .int .i64 r, .int .u32 d] 25 (0, 0))
  have hz1 := alloc_size w (.cells #[.int .u64 s, .int .i64 r, .int .u32 d] 25 (0, 0))
  obtain ⟨w1, hw1⟩ : ∃ w1, w.alloc (.cells #[.int .u64 s, .int .i64 r, .int .u32 d] 25 (0, 0)) = w1 := ⟨_, rfl⟩
  rw [hw1] at hb1 hg1 hz1
  obtain ⟨q, hq⟩ : ∃ q, w.heap.size = q := ⟨_, rfl⟩
  rw [hq] at hg1 hz1
  have hfw := few_calls A c l w1 (Kd.C_below hr hb1) hc (by have := hfo.1; omega)
  rw [hf] at hfw
  have HFW := Lib.hid hfw
  have HB1 := Lib.hid hb1
  have HG1 := Lib.hid hg1
  have HC1 := Lib.hid (Kd.C_below hr hb1)
  have henc := fun A3 c3 W (hW : Kd.C k39 W A3 l.length l) (h3 : l.length ≤ c3) => encode_good s r d A3 c3 l W hW h3 hfit (by rw [hB]; omega)
  simp only [hB] at henc
  have HENC := Lib.hid henc
  have HQ := Lib.hid hq
  have HW1 := Lib.hid hw1
  have HFO := Lib.hid hfo
  clear hfw hb1 hg1 hz1 hr hf henc hq hw1 hfo hfit
  go_enter Try.func7, Try.ntmps7
  go_wp2_with fail
  (try rw [HW1.out])
  (try rw [HQ.out])
  refine HFW.out.mono ?_
  rintro e w2 ⟨rfl, hb2⟩
  have hg2 := (hb2.block q (blk_lt HG1.out)).trans HG1.out
  have HG2 := Lib.hid hg2
  have HC2 := Lib.hid (Kd.C_below HC1.out hb2)
  have HB2 := Lib.hid (below_step HB1.out hb2)
  have hk0 : w2.cell? ⟨q, 0, none⟩ = some (.int .u64 s) := (blk_cell hg2 0).trans rfl
  have hk1 : w2.cell? ⟨q, 1, none⟩ = some (.int .i64 r) := (blk_cell hg2 1).trans rfl
  have hk2 : w2.cell? ⟨q, 2, none⟩ = some (.int .u32 d) := (blk_cell hg2 2).trans rfl
  have hS2 : w2.cell? ⟨q, 0, none⟩ = some (.int .u64 s) ∧ w2.cell? ⟨q, 1, none⟩ = some (.int .i64 r) ∧ w2.cell? ⟨q, 2, none⟩ = some (.int .u32 d) := ⟨hk0, hk1, hk2⟩
  have hbd := below_drew (Below.refl w2.heap.size w2)
  have HMADE := Lib.hid (made_good A c l w2.drew (Kd.C_drew HC2.out) hc (by have := HFO.out.1; omega))
  clear hb2 hg2 HG1 HC1 HB1 HFW
  go_wp2_with fail
  go_region_held3 (fun W => W.cell? ⟨q, 0, none⟩ = some (.int .u64 s) ∧ W.cell? ⟨q, 1, none⟩ = some (.int .i64 r) ∧ W.cell? ⟨q, 2, none⟩ = some (.int .u32 d)) (first | assumption | simp [*]) (first | (go_at_call 12; refine HMADE.out.mono ?_; rintro e w3 ⟨A3, c3, rfl, hl3, hC3, hb3'⟩; have hb3 := below_step hbd hb3'; have HG3 := Lib.hid ((hb3.block q (blk_lt HG2.out)).trans HG2.out); have HC3 := Lib.hid (Kd.C_below HC2.out hb3); have HB3 := Lib.hid (below_step HB2.out hb3); have hS3 : w3.cell? ⟨q, 0, none⟩ = some (.int .u64 s) ∧ w3.cell? ⟨q, 1, none⟩ = some (.int .i64 r) ∧ w3.cell? ⟨q, 2, none⟩ = some (.int .u32 d) := ⟨(blk_cell HG3.out 0).trans rfl, (blk_cell HG3.out 1).trans rfl, (blk_cell HG3.out 2).trans rfl⟩) | (go_at_call 11; refine (HENC.out A3 c3 w3 hC3 hl3).mono ?_; rintro e w4 ⟨A4, c4, rfl, hl4, hR4, hb4⟩; have HG4 := Lib.hid ((hb4.block q (blk_lt HG3.out)).trans HG3.out); have HC4 := Lib.hid (Kd.C_below HC3.out hb4); have HB4 := Lib.hid (below_step HB3.out hb4); have hS4 : w4.cell? ⟨q, 0, none⟩ = some (.int .u64 s) ∧ w4.cell? ⟨q, 1, none⟩ = some (.int .i64 r) ∧ w4.cell? ⟨q, 2, none⟩ = some (.int .u32 d) := ⟨(blk_cell HG4.out 0).trans rfl, (blk_cell HG4.out 1).trans rfl, (blk_cell HG4.out 2).trans rfl⟩))
  have HR4 := Lib.hid hR4
  clear hR4
  clear hk0 hk1 hk2 hS2 hS3 hS4 hb3 hb3' hb4 hbd hC3 HG2 HC2 HB2 HG3 HC3 HB3 HMADE HENC HW1 HQ
  clear HR4
  go_wp2_with fail
  refine (alive_calls w4).mono ?_
  rintro e w5 ⟨rfl, hb5⟩
  have HB5 := Lib.hid (below_step HB4.out hb5)
  clear hb5 HB4 HG4 HC4
  go_wp2_with fail
  go_ret
  exact ⟨rfl, HB5.out⟩
set_option maxHeartbeats 16000000 in
set_option maxRecDepth 100000 in
theorem more_long (s r d : Int) (A : Option Addr) (c : Nat) (l : List S39) (w : World) (AM : Option Addr) (cM : Nat) (m : List Int) (hr : Kd.C k39 w A l.length l) (hc : l.length ≤ c) (hh : HeadOk s r d) (hf : fewB l = true) (hfo : FewOk l) (hall : l.all rightP = true) (h0 : 100 < m.length) :
    Calls Try.prog 7 #[.agg #[.int .u64 s, .int .i64 r, .int .u32 d], .slice A l.length c, .slice AM m.length cM] w fun e w' => e = .returned (.bool true) ∧ Below w.heap.size w w' := by
  have hin : inNum r = true := decide_eq_true hh.2.1
  have hfit : fitP r l = true := by
    unfold fitP
    rw [hin, hall, decide_eq_true (show l.length ≤ 4096 by have := hfo.1; omega)]
    rfl
  have hll : l.length ≤ 4096 := by have := hfo.1; omega
  have hle := few_enc (s := s) (r := r) (d := d) hfo hall
  have hby := bytes_wf (encP_wf hh hll hall)
  have hrd := readE_enc s r d l hh hll hall
  obtain ⟨B, hB⟩ : ∃ B, encP s r d l = B := ⟨_, rfl⟩
  rw [hB] at hrd hle hby
  have HRD := Lib.hid hrd
  have HBY := Lib.hid hby
  clear hrd hby hh hall hin HRD HBY
  have hm1 : (100 : Int) < (m.length : Int) := by omega
  have hm0 : ((m.length : Int) == 0) = false := beq_false_of_ne (by omega)
  clear h0
  have hb1 := below_alloc (Below.refl w.heap.size w) (.cells #[.int .u64 s, .int .i64 r, .int .u32 d] 25 (0, 0))
  have hg1 := blk_new w (.cells #[.int .u64 s, .int .i64 r, .int .u32 d] 25 (0, 0))
  have hz1 := alloc_size w (.cells #[.int .u64 s, .int .i64 r, .int .u32 d] 25 (0, 0))
  obtain ⟨w1, hw1⟩ : ∃ w1, w.alloc (.cells #[.int .u64 s, .int .i64 r, .int .u32 d] 25 (0, 0)) = w1 := ⟨_, rfl⟩
  rw [hw1] at hb1 hg1 hz1
  obtain ⟨q, hq⟩ : ∃ q, w.heap.size = q := ⟨_, rfl⟩
  rw [hq] at hg1 hz1
  have hfw := few_calls A c l w1 (Kd.C_below hr hb1) hc (by have := hfo.1; omega)
  rw [hf] at hfw
  have HFW := Lib.hid hfw
  have HB1 := Lib.hid hb1
  have HG1 := Lib.hid hg1
  have HC1 := Lib.hid (Kd.C_below hr hb1)
  have henc := fun A3 c3 W (hW : Kd.C k39 W A3 l.length l) (h3 : l.length ≤ c3) => encode_good s r d A3 c3 l W hW h3 hfit (by rw [hB]; omega)
  simp only [hB] at henc
  have HENC := Lib.hid henc
  have HQ := Lib.hid hq
  have HW1 := Lib.hid hw1
  have HFO := Lib.hid hfo
  clear hfw hb1 hg1 hz1 hr hf henc hq hw1 hfo hfit
  go_enter Try.func7, Try.ntmps7
  go_wp2_with fail
  (try rw [HW1.out])
  (try rw [HQ.out])
  refine HFW.out.mono ?_
  rintro e w2 ⟨rfl, hb2⟩
  have hg2 := (hb2.block q (blk_lt HG1.out)).trans HG1.out
  have HG2 := Lib.hid hg2
  have HC2 := Lib.hid (Kd.C_below HC1.out hb2)
  have HB2 := Lib.hid (below_step HB1.out hb2)
  have hk0 : w2.cell? ⟨q, 0, none⟩ = some (.int .u64 s) := (blk_cell hg2 0).trans rfl
  have hk1 : w2.cell? ⟨q, 1, none⟩ = some (.int .i64 r) := (blk_cell hg2 1).trans rfl
  have hk2 : w2.cell? ⟨q, 2, none⟩ = some (.int .u32 d) := (blk_cell hg2 2).trans rfl
  have hS2 : w2.cell? ⟨q, 0, none⟩ = some (.int .u64 s) ∧ w2.cell? ⟨q, 1, none⟩ = some (.int .i64 r) ∧ w2.cell? ⟨q, 2, none⟩ = some (.int .u32 d) := ⟨hk0, hk1, hk2⟩
  have hbd := below_drew (Below.refl w2.heap.size w2)
  have HMADE := Lib.hid (made_good A c l w2.drew (Kd.C_drew HC2.out) hc (by have := HFO.out.1; omega))
  clear hb2 hg2 HG1 HC1 HB1 HFW
  go_wp2_with fail
  go_region_held3 (fun W => W.cell? ⟨q, 0, none⟩ = some (.int .u64 s) ∧ W.cell? ⟨q, 1, none⟩ = some (.int .i64 r) ∧ W.cell? ⟨q, 2, none⟩ = some (.int .u32 d)) (first | assumption | simp [*]) (first | (go_at_call 12; refine HMADE.out.mono ?_; rintro e w3 ⟨A3, c3, rfl, hl3, hC3, hb3'⟩; have hb3 := below_step hbd hb3'; have HG3 := Lib.hid ((hb3.block q (blk_lt HG2.out)).trans HG2.out); have HC3 := Lib.hid (Kd.C_below HC2.out hb3); have HB3 := Lib.hid (below_step HB2.out hb3); have hS3 : w3.cell? ⟨q, 0, none⟩ = some (.int .u64 s) ∧ w3.cell? ⟨q, 1, none⟩ = some (.int .i64 r) ∧ w3.cell? ⟨q, 2, none⟩ = some (.int .u32 d) := ⟨(blk_cell HG3.out 0).trans rfl, (blk_cell HG3.out 1).trans rfl, (blk_cell HG3.out 2).trans rfl⟩) | (go_at_call 11; refine (HENC.out A3 c3 w3 hC3 hl3).mono ?_; rintro e w4 ⟨A4, c4, rfl, hl4, hR4, hb4⟩; have HG4 := Lib.hid ((hb4.block q (blk_lt HG3.out)).trans HG3.out); have HC4 := Lib.hid (Kd.C_below HC3.out hb4); have HB4 := Lib.hid (below_step HB3.out hb4); have hS4 : w4.cell? ⟨q, 0, none⟩ = some (.int .u64 s) ∧ w4.cell? ⟨q, 1, none⟩ = some (.int .i64 r) ∧ w4.cell? ⟨q, 2, none⟩ = some (.int .u32 d) := ⟨(blk_cell HG4.out 0).trans rfl, (blk_cell HG4.out 1).trans rfl, (blk_cell HG4.out 2).trans rfl⟩))
  have HR4 := Lib.hid hR4
  clear hR4
  clear hk0 hk1 hk2 hS2 hS3 hS4 hb3 hb3' hb4 hbd hC3 HG2 HC2 HB2 HG3 HC3 HB3 HMADE HENC HW1 HQ
  clear HR4
  go_wp2_with fail
  refine (alive_calls w4).mono ?_
  rintro e w5 ⟨rfl, hb5⟩
  have HB5 := Lib.hid (below_step HB4.out hb5)
  clear hb5 HB4 HG4 HC4
  go_wp2_with fail
  go_ret
  exact ⟨rfl, HB5.out⟩
set_option maxHeartbeats 16000000 in
set_option maxRecDepth 100000 in
theorem more_good (s r d : Int) (A : Option Addr) (c : Nat) (l : List S39) (w : World) (AM : Option Addr) (cM : Nat) (m : List Int) (hr : Kd.C k39 w A l.length l) (hc : l.length ≤ c) (hh : HeadOk s r d) (hf : fewB l = true) (hfo : FewOk l) (hall : l.all rightP = true) (hm : Kd.C (Kd.int .u8) w AM m.length m) (hcm : m.length ≤ cM) (hmb : Bytes m) (h0 : 0 < m.length) (h1 : m.length ≤ 100) :
    Calls Try.prog 7 #[.agg #[.int .u64 s, .int .i64 r, .int .u32 d], .slice A l.length c, .slice AM m.length cM] w fun e w' => e = .returned (.bool true) ∧ Below w.heap.size w w' := by
  have hin : inNum r = true := decide_eq_true hh.2.1
  have hfit : fitP r l = true := by
    unfold fitP
    rw [hin, hall, decide_eq_true (show l.length ≤ 4096 by have := hfo.1; omega)]
    rfl
  have hll : l.length ≤ 4096 := by have := hfo.1; omega
  have hle := few_enc (s := s) (r := r) (d := d) hfo hall
  have hby := bytes_wf (encP_wf hh hll hall)
  have hrd := readE_more s r d l m hh hll hall
  rw [if_neg (fun h => by rw [h] at h0; exact absurd h0 (by decide))] at hrd
  obtain ⟨B, hB⟩ : ∃ B, encP s r d l = B := ⟨_, rfl⟩
  rw [hB] at hrd hle hby
  have HRD := Lib.hid hrd
  have HBY := Lib.hid hby
  clear hrd hby hh hall hin
  have LM := Lib.hid (show B.length + m.length ≤ 70100 by omega)
  have HM0 := Lib.hid hm
  have HMB := Lib.hid hmb
  have hm1 : (decide ((100 : Int) < (m.length : Int))) = false := decide_eq_false (by omega)
  have hm0 : ((m.length : Int) == 0) = false := beq_false_of_ne (by omega)
  clear h0 h1 hm hmb
  have hb1 := below_alloc (Below.refl w.heap.size w) (.cells #[.int .u64 s, .int .i64 r, .int .u32 d] 25 (0, 0))
  have hg1 := blk_new w (.cells #[.int .u64 s, .int .i64 r, .int .u32 d] 25 (0, 0))
  have hz1 := alloc_size w (.cells #[.int .u64 s, .int .i64 r, .int .u32 d] 25 (0, 0))
  obtain ⟨w1, hw1⟩ : ∃ w1, w.alloc (.cells #[.int .u64 s, .int .i64 r, .int .u32 d] 25 (0, 0)) = w1 := ⟨_, rfl⟩
  rw [hw1] at hb1 hg1 hz1
  obtain ⟨q, hq⟩ : ∃ q, w.heap.size = q := ⟨_, rfl⟩
  rw [hq] at hg1 hz1
  have hfw := few_calls A c l w1 (Kd.C_below hr hb1) hc (by have := hfo.1; omega)
  rw [hf] at hfw
  have HFW := Lib.hid hfw
  have HB1 := Lib.hid hb1
  have HG1 := Lib.hid hg1
  have HC1 := Lib.hid (Kd.C_below hr hb1)
  have henc := fun A3 c3 W (hW : Kd.C k39 W A3 l.length l) (h3 : l.length ≤ c3) => encode_good s r d A3 c3 l W hW h3 hfit (by rw [hB]; omega)
  simp only [hB] at henc
  have HENC := Lib.hid henc
  have HQ := Lib.hid hq
  have HW1 := Lib.hid hw1
  have HFO := Lib.hid hfo
  clear hfw hb1 hg1 hz1 hr hf henc hq hw1 hfo hfit
  go_enter Try.func7, Try.ntmps7
  go_wp2_with fail
  (try rw [HW1.out])
  (try rw [HQ.out])
  refine HFW.out.mono ?_
  rintro e w2 ⟨rfl, hb2⟩
  have hg2 := (hb2.block q (blk_lt HG1.out)).trans HG1.out
  have HG2 := Lib.hid hg2
  have HC2 := Lib.hid (Kd.C_below HC1.out hb2)
  have HB2 := Lib.hid (below_step HB1.out hb2)
  have hk0 : w2.cell? ⟨q, 0, none⟩ = some (.int .u64 s) := (blk_cell hg2 0).trans rfl
  have hk1 : w2.cell? ⟨q, 1, none⟩ = some (.int .i64 r) := (blk_cell hg2 1).trans rfl
  have hk2 : w2.cell? ⟨q, 2, none⟩ = some (.int .u32 d) := (blk_cell hg2 2).trans rfl
  have hS2 : w2.cell? ⟨q, 0, none⟩ = some (.int .u64 s) ∧ w2.cell? ⟨q, 1, none⟩ = some (.int .i64 r) ∧ w2.cell? ⟨q, 2, none⟩ = some (.int .u32 d) := ⟨hk0, hk1, hk2⟩
  have hbd := below_drew (Below.refl w2.heap.size w2)
  have HMADE := Lib.hid (made_good A c l w2.drew (Kd.C_drew HC2.out) hc (by have := HFO.out.1; omega))
  clear hb2 hg2 HG1 HC1 HB1 HFW
  go_wp2_with fail
  go_region_held3 (fun W => W.cell? ⟨q, 0, none⟩ = some (.int .u64 s) ∧ W.cell? ⟨q, 1, none⟩ = some (.int .i64 r) ∧ W.cell? ⟨q, 2, none⟩ = some (.int .u32 d)) (first | assumption | simp [*]) (first | (go_at_call 12; refine HMADE.out.mono ?_; rintro e w3 ⟨A3, c3, rfl, hl3, hC3, hb3'⟩; have hb3 := below_step hbd hb3'; have HG3 := Lib.hid ((hb3.block q (blk_lt HG2.out)).trans HG2.out); have HC3 := Lib.hid (Kd.C_below HC2.out hb3); have HB3 := Lib.hid (below_step HB2.out hb3); have hS3 : w3.cell? ⟨q, 0, none⟩ = some (.int .u64 s) ∧ w3.cell? ⟨q, 1, none⟩ = some (.int .i64 r) ∧ w3.cell? ⟨q, 2, none⟩ = some (.int .u32 d) := ⟨(blk_cell HG3.out 0).trans rfl, (blk_cell HG3.out 1).trans rfl, (blk_cell HG3.out 2).trans rfl⟩) | (go_at_call 11; refine (HENC.out A3 c3 w3 hC3 hl3).mono ?_; rintro e w4 ⟨A4, c4, rfl, hl4, hR4, hb4⟩; have HG4 := Lib.hid ((hb4.block q (blk_lt HG3.out)).trans HG3.out); have HC4 := Lib.hid (Kd.C_below HC3.out hb4); have HB4 := Lib.hid (below_step HB3.out hb4); have hS4 : w4.cell? ⟨q, 0, none⟩ = some (.int .u64 s) ∧ w4.cell? ⟨q, 1, none⟩ = some (.int .i64 r) ∧ w4.cell? ⟨q, 2, none⟩ = some (.int .u32 d) := ⟨(blk_cell HG4.out 0).trans rfl, (blk_cell HG4.out 1).trans rfl, (blk_cell HG4.out 2).trans rfl⟩))
  have HR4 := Lib.hid hR4
  clear hR4
  clear hk0 hk1 hk2 hS2 hS3 hS4 hb3 hb3' hb4 hbd hC3 HG2 HC2 HB2 HG3 HC3 HB3 HMADE HENC HW1 HQ
  have HM4 := Lib.hid (Kd.C_below HM0.out HB4.out)
  have HBC4 := Lib.hid (Kd.R_reads' HR4.out).2.2
  clear HR4 HM0
  go_wp2_with (first | ((with_reducible refine gate_dst (N := 38) rfl ?_); refine Kd.R_lit (Kd.int .u8) (w0 := w4) w4.heap.size 5 ?hg (N := 38) ?hd (xs := ([] : List Int)) (inner := []) (ok := fun _ => True) (okp := fun _ => True) ?hr ?hp (fun _ hk => hk) trivial (Below.refl _ _) (Nat.le_refl _) (by simp) ?_; (case hd => rfl); (case hg => rfl); (case hr => first | (go_simp; done) | (go_simp; rfl)); (case hp => exact (Reps.none _ _)); intro v5 w5 ho5 hb5 hg_ hnew_; clear hg_ hnew_; have HO5 := Lib.hid ho5; have HB5 := Lib.hid hb5; clear ho5 hb5) | ((with_reducible refine gate_builtin (b := .append) (xs := #[.tmp 38, .tmp 39]) rfl ?_); at_builtin; refine Kd.R_append_rows (Kd.int .u8) (w0 := w4) w4.heap.size rfl (.tmp 38) (.tmp 39) 29 5 (.int .u8 0) 1 rfl Try.underlying29 info5 rfl (by decide) (by omega) v5 ([] : List Int) B _ _ _ (fun _ => True) (fun _ => False) rfl rfl ?aO ?aR (fun _ _ h => h) (fun _ h => h.elim) ?aF ?aB ?aS ?aL ?_; (case aR => exact Kd.C_below HBC4.out HB5.out); (case aB => exact HB5.out); (case aF => exact fun _ _ => trivial); (case aO => exact HO5.out); (case aS => exact HB5.out.size); (case aL => (have := LM.out; simp only [List.nil_append, List.length_nil, List.length_append]; omega)); intro v6 w6 ho hb hg hat; have HO6 := Lib.hid ho; have HB6 := Lib.hid hb; clear ho hb hg hat) | ((with_reducible refine gate_builtin (b := .append) (xs := #[.tmp 40, .tmp 41]) rfl ?_); at_builtin; refine Kd.R_append_rows (Kd.int .u8) (w0 := w4) w4.heap.size rfl (.tmp 40) (.tmp 41) 29 5 (.int .u8 0) 1 rfl Try.underlying29 info5 rfl (by decide) (by omega) v6 ([] ++ B) m _ _ _ (fun _ => True) (fun _ => False) rfl rfl ?aO ?aR (fun _ _ h => h) (fun _ h => h.elim) ?aF ?aB ?aS ?aL ?_; (case aR => exact Kd.C_below HM4.out HB6.out); (case aB => exact HB6.out); (case aF => exact fun _ _ => trivial); (case aO => exact HO6.out); (case aS => exact HB6.out.size); (case aL => (have := LM.out; simp only [List.nil_append, List.length_nil, List.length_append]; omega)); intro v7 w7 ho hb hg hat; have HO7 := Lib.hid ho; have HB7 := Lib.hid hb; clear ho hb hg hat))
  obtain ⟨A7, c7, rfl, hl7, hC7⟩ := Kd.R_reads HO7.out
  rw [List.nil_append] at hl7 hC7 ⊢
  have hE : Bytes (B ++ m) := fun c hc => (List.mem_append.1 hc).elim (HBY.out c) (HMB.out c)
  have hrd := HRD.out
  obtain ⟨E, hEq⟩ : ∃ E, B ++ m = E := ⟨_, rfl⟩
  have hEl : E.length ≤ 70100 := by rw [← hEq, List.length_append]; exact LM.out
  rw [hEq] at hl7 hC7 hE hrd ⊢
  have HD7 := Lib.hid (decode_good A7 c7 E w7 hC7 hl7 hE (by omega) hrd)
  have hg7 : Below w4.heap.size w4 w7 := HB7.out
  have HG7 := Lib.hid ((hg7.block q (blk_lt HG4.out)).trans HG4.out)
  have HC7 := Lib.hid (Kd.C_below HC4.out hg7)
  have HBC7 := Lib.hid (Kd.C_below HBC4.out hg7)
  have HBW := Lib.hid (below_step HB4.out hg7)
  clear HB7 hg7 HO7 HO6 HO5 HB5 HB6 hC7 hE hrd hEq hEl HG4 HC4 HBC4 HM4 HRD HBY HMB LM
  have HB7 := HBW
  clear HBW
  go_wp2_with fail
  refine HD7.out.mono ?_
  rintro e w8 ⟨A8, c8, rfl, hl8, hR8, hb8⟩
  have HM8 := Lib.hid ((Kd.R_reads' hR8).2.2)
  clear hR8 HD7
  have HG8 := Lib.hid ((hb8.block q (blk_lt HG7.out)).trans HG7.out)
  have HC8 := Lib.hid (Kd.C_below HC7.out hb8)
  have HBC8 := Lib.hid (Kd.C_below HBC7.out hb8)
  have HB8 := Lib.hid (below_step HB7.out hb8)
  clear hb8 HG7 HB7 HC7 HBC7
  have hg9 := blk_new w8 (.cells #[.int .u64 s, .int .i64 r, .int .u32 d] 33 (0, 0))
  have hb9 := below_alloc (Below.refl w8.heap.size w8) (.cells #[.int .u64 s, .int .i64 r, .int .u32 d] 33 (0, 0))
  obtain ⟨w9, hw9⟩ : ∃ w9, w8.alloc (.cells #[.int .u64 s, .int .i64 r, .int .u32 d] 33 (0, 0)) = w9 := ⟨_, rfl⟩
  obtain ⟨g, hg⟩ : ∃ g, w8.heap.size = g := ⟨_, rfl⟩
  rw [hw9] at hg9 hb9
  rw [hg] at hg9
  have HW9 := Lib.hid hw9
  have HGE := Lib.hid hg
  have HH9 := Lib.hid hg9
  have HG9 := Lib.hid ((hb9.block q (blk_lt HG8.out)).trans HG8.out)
  have HC9 := Lib.hid (Kd.C_below HC8.out hb9)
  have HBC9 := Lib.hid (Kd.C_below HBC8.out hb9)
  have HM9 := Lib.hid (Kd.C_below HM8.out hb9)
  have HB9 := Lib.hid (below_step HB8.out hb9)
  clear hb9 hg9 hw9 hg HG8 HB8 HC8 HBC8 HM8
  go_wp2_with fail
  (try rw [HW9.out])
  (try rw [HGE.out])
  clear HW9 HGE
  refine (alive_calls w9).mono ?_
  rintro e w10 ⟨rfl, hb10⟩
  have HG10 := Lib.hid ((hb10.block q (blk_lt HG9.out)).trans HG9.out)
  have HH10 := Lib.hid ((hb10.block g (blk_lt HH9.out)).trans HH9.out)
  have HC10 := Lib.hid (Kd.C_below HC9.out hb10)
  have HBC10 := Lib.hid (Kd.C_below HBC9.out hb10)
  have HM10 := Lib.hid (Kd.C_below HM9.out hb10)
  have HB10 := Lib.hid (below_step HB9.out hb10)
  clear hb10 HG9 HB9 HH9 HC9 HBC9 HM9
  have hqe : ((B.length : Int) == (B.length : Int)) = true := beq_self_eq_true _
  go_wp2_with fail
  refine (rows_good A8 c8 l w10 HM10.out hl8 (by omega)).mono ?_
  rintro e w11 ⟨AR, cR, rfl, hlR, hCR, hb11⟩
  have HCR := Lib.hid hCR
  have HClR := Lib.hid (Kd.C_below HC10.out hb11)
  have HB11 := Lib.hid (below_step HB10.out hb11)
  clear hCR
  go_wp2_with fail
  refine (same_calls AR cR A c l w11 HCR.out hlR HClR.out hc (by omega)).mono ?_
  rintro e w12 ⟨rfl, hb12⟩
  have HB12 := Lib.hid (below_step HB11.out hb12)
  have HG11 := Lib.hid ((hb11.block q (blk_lt HG10.out)).trans HG10.out)
  have HG12 := Lib.hid ((hb12.block q (blk_lt HG11.out)).trans HG11.out)
  have HH11 := Lib.hid ((hb11.block g (blk_lt HH10.out)).trans HH10.out)
  have HH12 := Lib.hid ((hb12.block g (blk_lt HH11.out)).trans HH11.out)
  have hh0 : w12.cell? ⟨g, 0, none⟩ = some (.int .u64 s) := (blk_cell HH12.out 0).trans rfl
  have hh1 : w12.cell? ⟨g, 1, none⟩ = some (.int .i64 r) := (blk_cell HH12.out 1).trans rfl
  have hh2 : w12.cell? ⟨g, 2, none⟩ = some (.int .u32 d) := (blk_cell HH12.out 2).trans rfl
  have hq0 : w12.cell? ⟨q, 0, none⟩ = some (.int .u64 s) := (blk_cell HG12.out 0).trans rfl
  have hq1 : w12.cell? ⟨q, 1, none⟩ = some (.int .i64 r) := (blk_cell HG12.out 1).trans rfl
  have hq2 : w12.cell? ⟨q, 2, none⟩ = some (.int .u32 d) := (blk_cell HG12.out 2).trans rfl
  clear HCR HClR HB11
  go_wp2_with fail
  go_ret
  exact ⟨rfl, HB12.out⟩
end Go.Proofs.Ytmklmpajcomimaa.Hand
end

section
/- The statement TraceMoreSaid: the law tells true for every input; no condition. -/
namespace Go.Proofs.Ytmklmpajcomimaa.traceMore
open Go.ChangeShapes Go.WideShapes Go.ChangeAt Go.RowKit
open Go.ChangeMaps (open_string shut_string)
set_option linter.unusedVariables false
theorem own : ownKnob Try.prog.godebug = none := by kernel_rfl
theorem laidOut : laidOutB Try.prog = true := by kernel_rfl
theorem walk (w : World) (s0 r0 d0 : Int) (A1 : Option Addr) (c1 : Nat) (l1 : List PTraceWrites.S39) (A2 : Option Addr) (c2 : Nat) (l2 : List Int) (ws0 : (Lit.int .u64 s0).wf = true) (wr0 : (Lit.int .i64 r0).wf = true) (wd0 : (Lit.int .u32 d0).wf = true) (w1 : Go.Proofs.YtmklmpajcomimaaW.PrintWords.Kd.C PTraceWrites.k39 w A1 l1.length l1) (y1 : l1.length ≤ c1) (z1 : ∀ o ∈ l1, o.f6.size ≤ 140737488355328) (w2 : Go.Proofs.YtmklmpajcomimaaW.PrintWords.Kd.C (Go.Proofs.YtmklmpajcomimaaW.PrintWords.Kd.int .u8) w A2 l2.length l2) (y2 : l2.length ≤ c2) (z2 : ∀ x ∈ l2, (Lit.int .u8 x).wf = true) (s2 : l2.length * 1 ≤ 140737488351232) :
    Calls Try.prog 7 #[.agg #[.int .u64 s0, .int .i64 r0, .int .u32 d0], .slice A1 l1.length c1, .slice A2 l2.length c2] w fun e w' => e = .returned (.bool true) ∧ Below w.heap.size w w' := by
  have hs := Hand.wf_u64 ws0
  have hd := Hand.wf_u32 wd0
  cases hf : Hand.fewB l1 with
  | false => exact Hand.more_many s0 r0 d0 A1 c1 l1 w A2 c2 l2 w1 y1 w1.2.1 hf
  | true =>
    have hfo := Hand.few_ok hf z1
    by_cases hfit : Hand.fitP r0 l1 = true ∧ (Hand.encP s0 r0 d0 l1).length ≤ 1048576
    · obtain ⟨hall, hh⟩ := Hand.fit_ok (s := s0) (d := d0) hfit.1 hs hd
      by_cases h1 : l2.length ≤ 100
      · by_cases h0 : 0 < l2.length
        · exact Hand.more_good s0 r0 d0 A1 c1 l1 w A2 c2 l2 w1 y1 hh hf hfo hall w2 y2 (fun x hx => Hand.wf_byte (z2 x hx)) h0 h1
        · exact Hand.more_none s0 r0 d0 A1 c1 l1 w A2 c2 l2 w1 y1 hh hf hfo hall (List.eq_nil_of_length_eq_zero (by omega))
      · exact Hand.more_long s0 r0 d0 A1 c1 l1 w A2 c2 l2 w1 y1 hh hf hfo hall (by omega)
    · exact Hand.more_not s0 r0 d0 A1 c1 l1 w A2 c2 l2 w1 y1 hf hfo hfit
set_option maxRecDepth 100000 in
theorem lifted (os : Os) (started : os.Started) (H : Type) (enc : TypeId × Value → H) :
    ReturnsInHanded {} Try.checked os 7 .any (Rows.traceMoreSpec.pre6 enc Try.prog Try.f7 Rows.traceMoreRow.domain false) (Rows.traceMoreSpec.post enc Try.prog Try.f7 false true false false) := by
  refine returnsInHanded_of_change_sized (C := Try.checked) own started (by kernel_rfl) Try.func7
    (ChangeSpec.witness6 (enc := enc) (C := Try.checked) false ⟨#[], #[.agg #[.int .u64 0, .int .i64 0, .int .u32 0], .slice none 0 0, .slice none 0 0], []⟩ 8 (by kernel_rfl) (by kernel_rfl) (by kernel_rfl) (by kernel_rfl)) ?_
  intro W base args ds gs before hval0 hW hcnd hsz0 _
  have hsz : (DataW.weightsEach Try.prog (Try.f7.params.toList ++ Rows.traceMoreSpec.plain.varTypes Try.prog) (ds ++ gs)).all (· ≤ reachBytes) = true := hsz0
  have hval : ∀ (j : Nat) t v, Try.f7.params[j]? = some t → args[j]? = some v → Value.okWide Try.prog W .any base t v := hval0
  have hW' := hW
  obtain ⟨p, q, hA0, hV, rfl, hfz, hnd⟩ := hW
  have hA : DataW.TrodAll enc Try.prog W 0 (fun _ => true) true Try.f7.params.toList args.toList ds p := hA0
  rw [Try.params7] at hA hval hsz
  obtain ⟨v0, vs0, d0, ds0, p0, q0, hargs, rfl, rfl, h0, r0⟩ := trodAll_cons hA
  obtain ⟨v1, vs1, d1, ds1, p1, q1, rfl, rfl, rfl, h1, r1⟩ := trodAll_cons r0
  obtain ⟨v2, vs2, d2, ds2, p2, q2, rfl, rfl, rfl, h2, r2⟩ := trodAll_cons r1
  obtain ⟨rfl, rfl, rfl⟩ := trodAll_nil r2
  obtain rfl : args = #[v0, v1, v2] := by cases args; simp_all
  obtain ⟨rfl, rfl⟩ := trodVars_none hV
  have k0 := h0
  have lt0 : ∀ x ∈ p0, x.block < W.heap.size := by obtain ⟨m, hm⟩ := k0; exact DataW.trod_lt m _ _ _ hm
  obtain ⟨hs0, hr0, hd0x, rfl, ws0, wr0, wd0⟩ := Hand.open_head (hval 0 25 v0 rfl rfl) h0
  obtain ⟨A1, len1, c1, rfl⟩ := okWide_slice Try.underlying26 (hval 1 26 v1 rfl rfl)
  have k1 := h1
  have lt1 : ∀ x ∈ p1, x.block < W.heap.size := by obtain ⟨m, hm⟩ := k1; exact DataW.trod_lt m _ _ _ hm
  obtain ⟨l1, hl1, y1, w1, hx1⟩ : ∃ l : List PTraceWrites.S39, l.length = len1 ∧ len1 ≤ c1 ∧ Go.Proofs.YtmklmpajcomimaaW.PrintWords.Kd.C PTraceWrites.k39 W A1 len1 l ∧ (len1 = 0 ∨ ∃ sp : List (DataW H), d1 = .slice (l.map Hand.recD) sp) := by
    obtain ⟨fuel, hf⟩ := h1
    exact Hand.open_recs hf
  have z1 : ∀ o ∈ l1, o.f6.size ≤ 140737488355328 := by
    rcases hx1 with h0 | ⟨sp, hd⟩
    · intro o ho
      rw [List.eq_nil_of_length_eq_zero (hl1.trans h0)] at ho
      cases ho
    · exact fun o ho => Hand.sized_rec hsz (j := 1) rfl (congrArg some hd) o ho
  subst hl1
  obtain ⟨A2, len2, c2, rfl⟩ := okWide_slice Try.underlying29 (hval 2 29 v2 rfl rfl)
  have k2 := h2
  have lt2 : ∀ x ∈ p2, x.block < W.heap.size := by obtain ⟨m, hm⟩ := k2; exact DataW.trod_lt m _ _ _ hm
  obtain ⟨l2, hl2, y2, w2, z2⟩ := Hand.open_intsC Try.underlying29 Try.underlying5 (by kernel_rfl) h2
  have s2 : len2 * 1 ≤ 140737488351232 := Go.Proofs.YtmklmpajcomimaaW.PrintWords.sized_ints hsz (j := 2) (t := 29) rfl rfl Try.underlying29 Try.underlying5 (by kernel_rfl) (by kernel_rfl) h2
  subst hl2
  clear hA0 hval0 hsz0 hsz
  refine (walk W hs0 hr0 hd0x A1 c1 l1 A2 c2 l2 ws0 wr0 wd0 w1 y1 z1 w2 y2 z2 s2).mono fun e W' ⟨he, bel⟩ => ?_
  subst he
  exact ⟨_, rfl, _, _, _, [], _, [], hW', trodAll_mk1 (shut_bool Try.underlying4 _), (trodAll_cons_mk (Below.trod laidOut (by kernel_rfl) (of_decide_eq_true (by kernel_rfl)) k0 bel lt0) (trodAll_cons_mk (Below.trod laidOut (by kernel_rfl) (of_decide_eq_true (by kernel_rfl)) k1 bel lt1) (trodAll_cons_mk (Below.trod laidOut (by kernel_rfl) (of_decide_eq_true (by kernel_rfl)) k2 bel lt2) trodAll_mk0))), rfl, bel.frame _, fun h => by cases h⟩
theorem over : Rows.traceMoreRow.holds Try.pinned (OpenSpec.ofChange Rows.traceMoreSpec) :=
  OpenClaim.holds_of_wide 7 Try.f7 rfl rfl rfl rfl rfl rfl rfl ⟨rfl, rfl, rfl, rfl, rfl⟩ rfl rfl rfl rfl rfl (by kernel_rfl) Try.func7 (by kernel_rfl)
    (of_decide_eq_true (by kernel_rfl)) (by unfold Func.isWrapper; first | (rw [if_pos (by decide +kernel)]; kernel_rfl) | (rw [if_neg (by decide +kernel)]; exact ⟨rfl, rfl⟩))
    (fun os started H enc _ => lifted os started H enc)
theorem proved : Rows.TraceMoreSaid := over
#print axioms proved
end Go.Proofs.Ytmklmpajcomimaa.traceMore
namespace Go.Proofs.Ytmklmpajcomimaa
/-- The row, under a short name, for the claim. -/
theorem traceMore_holds : Rows.TraceMoreSaid := traceMore.proved
end Go.Proofs.Ytmklmpajcomimaa
end
