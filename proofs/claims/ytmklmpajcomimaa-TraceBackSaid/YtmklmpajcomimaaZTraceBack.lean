import Derived.Test.YtmklmpajcomimaaZAlive
import Derived.Deep.RegionHeld3
import Derived.Test.YtmklmpajcomimaaRows
import Derived.WalkKit
import Derived.ProofKit
import Derived.OpenShut
import Derived.ShutString
import Derived.ChangeOld
import Derived.Below
import Derived.SizedLaws
import Derived.Test.YtmklmpajcomimaaYWSized
section
/- TraceBack, walked. -/
namespace Go.Proofs.Ytmklmpajcomimaa.Hand
open Go.RowKit Go.Proofs.YtmklmpajcomimaaW.PrintWords Go.Proofs.YtmklmpajcomimaaW.PrintLast Go.Proofs.YtmklmpajcomimaaW.PrintMore Go.Proofs.Ytmklmpajcomimaa.PTraceWrites Go.Proofs.Ytmklmpajcomimaa.CrcMath
set_option linter.unusedVariables false
set_option linter.unusedSimpArgs false
attribute [local go_sem ↓] Go.wp_at_zero Go.wp_at_succ
set_option maxHeartbeats 16000000 in
set_option maxRecDepth 100000 in
theorem back_many (s r d : Int) (A : Option Addr) (c : Nat) (l : List S39) (w : World) (hr : Kd.C k39 w A l.length l) (hc : l.length ≤ c) (hl : l.length ≤ 9223372036854775807) (hf : fewB l = false) :
    Calls Try.prog 4 #[.agg #[.int .u64 s, .int .i64 r, .int .u32 d], .slice A l.length c] w fun e w' => e = .returned (.bool true) ∧ Below w.heap.size w w' := by
  have hb1 := below_alloc (Below.refl w.heap.size w) (.cells #[.int .u64 s, .int .i64 r, .int .u32 d] 25 (0, 0))
  have hg1 := blk_new w (.cells #[.int .u64 s, .int .i64 r, .int .u32 d] 25 (0, 0))
  have hz1 := alloc_size w (.cells #[.int .u64 s, .int .i64 r, .int .u32 d] 25 (0, 0))
  obtain ⟨w1, hw1⟩ : ∃ w1, w.alloc (.cells #[.int .u64 s, .int .i64 r, .int .u32 d] 25 (0, 0)) = w1 := ⟨_, rfl⟩
  rw [hw1] at hb1 hg1 hz1
  obtain ⟨q, hq⟩ : ∃ q, w.heap.size = q := ⟨_, rfl⟩
  rw [hq] at hg1 hz1
  have hfw := few_calls A c l w1 (Kd.C_below hr hb1) hc hl
  rw [hf] at hfw
  have HFW := Lib.hid hfw
  have HB1 := Lib.hid hb1
  clear hfw hb1 hg1 hz1 hr hf
  go_enter Try.func4, Try.ntmps4
  go_wp2_with fail
  (try rw [hw1])
  refine HFW.out.mono ?_
  rintro e w2 ⟨rfl, hb2⟩
  have HB2 := Lib.hid (below_step HB1.out hb2)
  clear hb2 HB1 HFW hw1
  go_wp2_with fail
  refine (alive_calls w2).mono ?_
  rintro e w3 ⟨rfl, hb3⟩
  have HB3 := Lib.hid (below_step HB2.out hb3)
  clear hb3 HB2
  go_wp2_with fail
  go_ret
  exact ⟨rfl, HB3.out⟩
set_option maxHeartbeats 16000000 in
set_option maxRecDepth 100000 in
theorem back_not (s r d : Int) (A : Option Addr) (c : Nat) (l : List S39) (w : World) (hr : Kd.C k39 w A l.length l) (hc : l.length ≤ c) (hf : fewB l = true) (hfo : FewOk l) (hfit : ¬ (fitP r l = true ∧ (encP s r d l).length ≤ 1048576)) :
    Calls Try.prog 4 #[.agg #[.int .u64 s, .int .i64 r, .int .u32 d], .slice A l.length c] w fun e w' => e = .returned (.bool true) ∧ Below w.heap.size w w' := by
  have hb1 := below_alloc (Below.refl w.heap.size w) (.cells #[.int .u64 s, .int .i64 r, .int .u32 d] 25 (0, 0))
  have hg1 := blk_new w (.cells #[.int .u64 s, .int .i64 r, .int .u32 d] 25 (0, 0))
  have hz1 := alloc_size w (.cells #[.int .u64 s, .int .i64 r, .int .u32 d] 25 (0, 0))
  obtain ⟨w1, hw1⟩ : ∃ w1, w.alloc (.cells #[.int .u64 s, .int .i64 r, .int .u32 d] 25 (0, 0)) = w1 := ⟨_, rfl⟩
  rw [hw1] at hb1 hg1 hz1
  obtain ⟨q, hq⟩ : ∃ q, w.heap.size = q := ⟨_, rfl⟩
  rw [hq] at hg1 hz1
  have hfw := few_calls A c l w1 (Kd.C_below hr hb1) hc (by have := hfo.1; omega)
  rw [hf] at hfw
  have HFW := Lib.hid hfw
  have HB1 := Lib.hid hb1
  have HG1 := Lib.hid hg1
  have HC1 := Lib.hid (Kd.C_below hr hb1)
  have henc := fun A3 c3 W (hW : Kd.C k39 W A3 l.length l) (h3 : l.length ≤ c3) => encode_not s r d A3 c3 l W hW h3 hfit
  have HENC := Lib.hid henc
  have HQ := Lib.hid hq
  have HW1 := Lib.hid hw1
  have HFO := Lib.hid hfo
  clear hfw hb1 hg1 hz1 hr hf henc hq hw1 hfo hfit
  go_enter Try.func4, Try.ntmps4
  go_wp2_with fail
  (try rw [HW1.out])
  (try rw [HQ.out])
  refine HFW.out.mono ?_
  rintro e w2 ⟨rfl, hb2⟩
  have hg2 := (hb2.block q (blk_lt HG1.out)).trans HG1.out
  have HG2 := Lib.hid hg2
  have HC2 := Lib.hid (Kd.C_below HC1.out hb2)
  have HB2 := Lib.hid (below_step HB1.out hb2)
  have hk0 : w2.cell? ⟨q, 0, none⟩ = some (.int .u64 s) := (blk_cell hg2 0).trans rfl
  have hk1 : w2.cell? ⟨q, 1, none⟩ = some (.int .i64 r) := (blk_cell hg2 1).trans rfl
  have hk2 : w2.cell? ⟨q, 2, none⟩ = some (.int .u32 d) := (blk_cell hg2 2).trans rfl
  have hS2 : w2.cell? ⟨q, 0, none⟩ = some (.int .u64 s) ∧ w2.cell? ⟨q, 1, none⟩ = some (.int .i64 r) ∧ w2.cell? ⟨q, 2, none⟩ = some (.int .u32 d) := ⟨hk0, hk1, hk2⟩
  have hbd := below_drew (Below.refl w2.heap.size w2)
  have HMADE := Lib.hid (made_good A c l w2.drew (Kd.C_drew HC2.out) hc (by have := HFO.out.1; omega))
  clear hb2 hg2 HG1 HC1 HB1 HFW
  go_wp2_with fail
  go_region_held3 (fun W => W.cell? ⟨q, 0, none⟩ = some (.int .u64 s) ∧ W.cell? ⟨q, 1, none⟩ = some (.int .i64 r) ∧ W.cell? ⟨q, 2, none⟩ = some (.int .u32 d)) (first | assumption | simp [*]) (first | (go_at_call 12; refine HMADE.out.mono ?_; rintro e w3 ⟨A3, c3, rfl, hl3, hC3, hb3'⟩; have hb3 := below_step hbd hb3'; have HG3 := Lib.hid ((hb3.block q (blk_lt HG2.out)).trans HG2.out); have HC3 := Lib.hid (Kd.C_below HC2.out hb3); have HB3 := Lib.hid (below_step HB2.out hb3); have hS3 : w3.cell? ⟨q, 0, none⟩ = some (.int .u64 s) ∧ w3.cell? ⟨q, 1, none⟩ = some (.int .i64 r) ∧ w3.cell? ⟨q, 2, none⟩ = some (.int .u32 d) := ⟨(blk_cell HG3.out 0).trans rfl, (blk_cell HG3.out 1).trans rfl, (blk_cell HG3.out 2).trans rfl⟩) | (go_at_call 11; refine (HENC.out A3 c3 w3 hC3 hl3).mono ?_; rintro e w4 ⟨rfl, hb4⟩; have HG4 := Lib.hid ((hb4.block q (blk_lt HG3.out)).trans HG3.out); have HC4 := Lib.hid (Kd.C_below HC3.out hb4); have HB4 := Lib.hid (below_step HB3.out hb4); have hS4 : w4.cell? ⟨q, 0, none⟩ = some (.int .u64 s) ∧ w4.cell? ⟨q, 1, none⟩ = some (.int .i64 r) ∧ w4.cell? ⟨q, 2, none⟩ = some (.int .u32 d) := ⟨(blk_cell HG4.out 0).trans rfl, (blk_cell HG4.out 1).trans rfl, (blk_cell HG4.out 2).trans rfl⟩))
  clear hk0 hk1 hk2 hS2 hS3 hS4 hb3 hb3' hb4 hbd hC3 HG2 HC2 HB2 HG3 HC3 HB3 HMADE HENC HW1 HQ
  go_wp2_with fail
  refine (alive_calls w4).mono ?_
  rintro e w5 ⟨rfl, hb5⟩
  have HB5 := Lib.hid (below_step HB4.out hb5)
  clear hb5 HB4 HG4 HC4
  go_wp2_with fail
  go_ret
  exact ⟨rfl, HB5.out⟩
set_option maxHeartbeats 16000000 in
set_option maxRecDepth 100000 in
theorem back_good (s r d : Int) (A : Option Addr) (c : Nat) (l : List S39) (w : World) (hr : Kd.C k39 w A l.length l) (hc : l.length ≤ c) (hh : HeadOk s r d) (hf : fewB l = true) (hfo : FewOk l) (hall : l.all rightP = true) :
    Calls Try.prog 4 #[.agg #[.int .u64 s, .int .i64 r, .int .u32 d], .slice A l.length c] w fun e w' => e = .returned (.bool true) ∧ Below w.heap.size w w' := by
  have hin : inNum r = true := decide_eq_true hh.2.1
  have hfit : fitP r l = true := by
    unfold fitP
    rw [hin, hall, decide_eq_true (show l.length ≤ 4096 by have := hfo.1; omega)]
    rfl
  have hll : l.length ≤ 4096 := by have := hfo.1; omega
  have hle := few_enc (s := s) (r := r) (d := d) hfo hall
  have hby := bytes_wf (encP_wf hh hll hall)
  have hrd := readE_enc s r d l hh hll hall
  obtain ⟨B, hB⟩ : ∃ B, encP s r d l = B := ⟨_, rfl⟩
  have henc2 := fun A3 c3 W (hW : Kd.C k39 W A3 l.length l) (h3 : l.length ≤ c3) => encode_good s r d A3 c3 l W hW h3 hfit (by omega)
  simp only [hB] at henc2
  have HENC2 := Lib.hid henc2
  rw [hB] at hrd hle hby
  have HRD := Lib.hid hrd
  have HBY := Lib.hid hby
  clear hrd hby hh hall hin henc2
  have hb1 := below_alloc (Below.refl w.heap.size w) (.cells #[.int .u64 s, .int .i64 r, .int .u32 d] 25 (0, 0))
  have hg1 := blk_new w (.cells #[.int .u64 s, .int .i64 r, .int .u32 d] 25 (0, 0))
  have hz1 := alloc_size w (.cells #[.int .u64 s, .int .i64 r, .int .u32 d] 25 (0, 0))
  obtain ⟨w1, hw1⟩ : ∃ w1, w.alloc (.cells #[.int .u64 s, .int .i64 r, .int .u32 d] 25 (0, 0)) = w1 := ⟨_, rfl⟩
  rw [hw1] at hb1 hg1 hz1
  obtain ⟨q, hq⟩ : ∃ q, w.heap.size = q := ⟨_, rfl⟩
  rw [hq] at hg1 hz1
  have hfw := few_calls A c l w1 (Kd.C_below hr hb1) hc (by have := hfo.1; omega)
  rw [hf] at hfw
  have HFW := Lib.hid hfw
  have HB1 := Lib.hid hb1
  have HG1 := Lib.hid hg1
  have HC1 := Lib.hid (Kd.C_below hr hb1)
  have henc := fun A3 c3 W (hW : Kd.C k39 W A3 l.length l) (h3 : l.length ≤ c3) => encode_good s r d A3 c3 l W hW h3 hfit (by rw [hB]; omega)
  simp only [hB] at henc
  have HENC := Lib.hid henc
  have HQ := Lib.hid hq
  have HW1 := Lib.hid hw1
  have HFO := Lib.hid hfo
  clear hfw hb1 hg1 hz1 hr hf henc hq hw1 hfo hfit
  go_enter Try.func4, Try.ntmps4
  go_wp2_with fail
  (try rw [HW1.out])
  (try rw [HQ.out])
  refine HFW.out.mono ?_
  rintro e w2 ⟨rfl, hb2⟩
  have hg2 := (hb2.block q (blk_lt HG1.out)).trans HG1.out
  have HG2 := Lib.hid hg2
  have HC2 := Lib.hid (Kd.C_below HC1.out hb2)
  have HB2 := Lib.hid (below_step HB1.out hb2)
  have hk0 : w2.cell? ⟨q, 0, none⟩ = some (.int .u64 s) := (blk_cell hg2 0).trans rfl
  have hk1 : w2.cell? ⟨q, 1, none⟩ = some (.int .i64 r) := (blk_cell hg2 1).trans rfl
  have hk2 : w2.cell? ⟨q, 2, none⟩ = some (.int .u32 d) := (blk_cell hg2 2).trans rfl
  have hS2 : w2.cell? ⟨q, 0, none⟩ = some (.int .u64 s) ∧ w2.cell? ⟨q, 1, none⟩ = some (.int .i64 r) ∧ w2.cell? ⟨q, 2, none⟩ = some (.int .u32 d) := ⟨hk0, hk1, hk2⟩
  have hbd := below_drew (Below.refl w2.heap.size w2)
  have HMADE := Lib.hid (made_good A c l w2.drew (Kd.C_drew HC2.out) hc (by have := HFO.out.1; omega))
  clear hb2 hg2 HG1 HC1 HB1 HFW
  go_wp2_with fail
  go_region_held3 (fun W => W.cell? ⟨q, 0, none⟩ = some (.int .u64 s) ∧ W.cell? ⟨q, 1, none⟩ = some (.int .i64 r) ∧ W.cell? ⟨q, 2, none⟩ = some (.int .u32 d)) (first | assumption | simp [*]) (first | (go_at_call 12; refine HMADE.out.mono ?_; rintro e w3 ⟨A3, c3, rfl, hl3, hC3, hb3'⟩; have hb3 := below_step hbd hb3'; have HG3 := Lib.hid ((hb3.block q (blk_lt HG2.out)).trans HG2.out); have HC3 := Lib.hid (Kd.C_below HC2.out hb3); have HB3 := Lib.hid (below_step HB2.out hb3); have hS3 : w3.cell? ⟨q, 0, none⟩ = some (.int .u64 s) ∧ w3.cell? ⟨q, 1, none⟩ = some (.int .i64 r) ∧ w3.cell? ⟨q, 2, none⟩ = some (.int .u32 d) := ⟨(blk_cell HG3.out 0).trans rfl, (blk_cell HG3.out 1).trans rfl, (blk_cell HG3.out 2).trans rfl⟩) | (go_at_call 11; refine (HENC.out A3 c3 w3 hC3 hl3).mono ?_; rintro e w4 ⟨A4, c4, rfl, hl4, hR4, hb4⟩; have HG4 := Lib.hid ((hb4.block q (blk_lt HG3.out)).trans HG3.out); have HC4 := Lib.hid (Kd.C_below HC3.out hb4); have HB4 := Lib.hid (below_step HB3.out hb4); have hS4 : w4.cell? ⟨q, 0, none⟩ = some (.int .u64 s) ∧ w4.cell? ⟨q, 1, none⟩ = some (.int .i64 r) ∧ w4.cell? ⟨q, 2, none⟩ = some (.int .u32 d) := ⟨(blk_cell HG4.out 0).trans rfl, (blk_cell HG4.out 1).trans rfl, (blk_cell HG4.out 2).trans rfl⟩))
  have HR4 := Lib.hid hR4
  clear hR4
  clear hk0 hk1 hk2 hS2 hS3 hS4 hb3 hb3' hb4 hbd hC3 HG2 HC2 HB2 HG3 HC3 HB3 HMADE HENC HW1 HQ
  have hR4c := (Kd.R_reads' HR4.out).2.2
  have HD4 := Lib.hid (decode_good A4 c4 B w4 hR4c hl4 HBY.out (by omega) HRD.out)
  have HBC4 := Lib.hid hR4c
  clear hR4c HR4
  go_wp2_with fail
  refine HD4.out.mono ?_
  rintro e w5 ⟨A5, c5, rfl, hl5, hR5, hb5⟩
  have HG5 := Lib.hid ((hb5.block q (blk_lt HG4.out)).trans HG4.out)
  have HC5 := Lib.hid (Kd.C_below HC4.out hb5)
  have HBC5 := Lib.hid (Kd.C_below HBC4.out hb5)
  have HB5 := Lib.hid (below_step HB4.out hb5)
  have HM5 := Lib.hid ((Kd.R_reads' hR5).2.2)
  have hg6 := blk_new w5 (.cells #[.int .u64 s, .int .i64 r, .int .u32 d] 33 (0, 0))
  have hb6 := below_alloc (Below.refl w5.heap.size w5) (.cells #[.int .u64 s, .int .i64 r, .int .u32 d] 33 (0, 0))
  obtain ⟨w6, hw6⟩ : ∃ w6, w5.alloc (.cells #[.int .u64 s, .int .i64 r, .int .u32 d] 33 (0, 0)) = w6 := ⟨_, rfl⟩
  obtain ⟨g, hg⟩ : ∃ g, w5.heap.size = g := ⟨_, rfl⟩
  rw [hw6] at hg6 hb6
  rw [hg] at hg6
  have HW6 := Lib.hid hw6
  have HGE := Lib.hid hg
  have HH6 := Lib.hid hg6
  have HG6 := Lib.hid ((hb6.block q (blk_lt HG5.out)).trans HG5.out)
  have HC6 := Lib.hid (Kd.C_below HC5.out hb6)
  have HBC6 := Lib.hid (Kd.C_below HBC5.out hb6)
  have HM6 := Lib.hid (Kd.C_below HM5.out hb6)
  have HB6 := Lib.hid (below_step HB5.out hb6)
  have HE6 := Lib.hid (HENC2.out A5 c5 w6 HM6.out hl5)
  clear hR5 hb5 hb6 hg6 hw6 hg HG4 HC4 HBC4 HB4 HD4 HG5 HC5 HBC5 HM5 HB5 HENC2
  go_wp2_with fail
  (try rw [HW6.out])
  (try rw [HGE.out])
  refine HE6.out.mono ?_
  rintro e w7 ⟨A7, c7, rfl, hl7, hR7, hb7⟩
  have HH7 := Lib.hid ((hb7.block g (blk_lt HH6.out)).trans HH6.out)
  have HG7 := Lib.hid ((hb7.block q (blk_lt HG6.out)).trans HG6.out)
  have HC7 := Lib.hid (Kd.C_below HC6.out hb7)
  have HBC7 := Lib.hid (Kd.C_below HBC6.out hb7)
  have HM7 := Lib.hid (Kd.C_below HM6.out hb7)
  have HB7 := Lib.hid (below_step HB6.out hb7)
  have HR7 := Lib.hid ((Kd.R_reads' hR7).2.2)
  clear hR7 hb7 HW6 HGE HH6 HG6 HC6 HBC6 HM6 HB6 HE6
  go_wp2_with fail
  refine (alive_calls w7).mono ?_
  rintro e w8 ⟨rfl, hb8⟩
  have HH8 := Lib.hid ((hb8.block g (blk_lt HH7.out)).trans HH7.out)
  have HG8 := Lib.hid ((hb8.block q (blk_lt HG7.out)).trans HG7.out)
  have HC8 := Lib.hid (Kd.C_below HC7.out hb8)
  have HBC8 := Lib.hid (Kd.C_below HBC7.out hb8)
  have HM8 := Lib.hid (Kd.C_below HM7.out hb8)
  have HR8 := Lib.hid (Kd.C_below HR7.out hb8)
  have HB8 := Lib.hid (below_step HB7.out hb8)
  have hh0 : w8.cell? ⟨g, 0, none⟩ = some (.int .u64 s) := (blk_cell HH8.out 0).trans rfl
  have hh1 : w8.cell? ⟨g, 1, none⟩ = some (.int .i64 r) := (blk_cell HH8.out 1).trans rfl
  have hh2 : w8.cell? ⟨g, 2, none⟩ = some (.int .u32 d) := (blk_cell HH8.out 2).trans rfl
  have hq0 : w8.cell? ⟨q, 0, none⟩ = some (.int .u64 s) := (blk_cell HG8.out 0).trans rfl
  have hq1 : w8.cell? ⟨q, 1, none⟩ = some (.int .i64 r) := (blk_cell HG8.out 1).trans rfl
  have hq2 : w8.cell? ⟨q, 2, none⟩ = some (.int .u32 d) := (blk_cell HG8.out 2).trans rfl
  clear hb8 HH7 HG7 HC7 HBC7 HM7 HR7 HB7
  go_wp2_with fail
  refine (rows_good A5 c5 l w8 HM8.out hl5 (by omega)).mono ?_
  rintro e w9 ⟨A9, c9, rfl, hl9, hC9, hb9⟩
  have HC9 := Lib.hid hC9
  have HCl9 := Lib.hid (Kd.C_below HC8.out hb9)
  have HB9 := Lib.hid (below_step HB8.out hb9)
  clear hC9
  go_wp2_with fail
  refine (same_calls A9 c9 A c l w9 HC9.out hl9 HCl9.out hc (by omega)).mono ?_
  rintro e w10 ⟨rfl, hb10⟩
  have HB10 := Lib.hid (below_step HB9.out hb10)
  have HBC10 := Lib.hid (Kd.C_below (Kd.C_below HBC8.out hb9) hb10)
  have HR10 := Lib.hid (Kd.C_below (Kd.C_below HR8.out hb9) hb10)
  clear HC9 HCl9 HB9
  have hs1 := Kd.C_string (P := Try.prog) (A := A7) (c := c7) Try.underlying29 Try.underlying5 Try.underlying9 HR10.out
  have hs2 := Kd.C_string (P := Try.prog) (A := A4) (c := c4) Try.underlying29 Try.underlying5 Try.underlying9 HBC10.out
  have hqe : ((B.length : Int) == (B.length : Int)) = true := beq_self_eq_true _
  clear hb9 hb10 HBC8 HR8 HB8 HC8 HM8
  go_wp2_with fail
  go_ret
  exact ⟨rfl, HB10.out⟩
end Go.Proofs.Ytmklmpajcomimaa.Hand
end

section
/- The statement TraceBackSaid: the law tells true for every input; no condition. -/
namespace Go.Proofs.Ytmklmpajcomimaa.traceBack
open Go.ChangeShapes Go.WideShapes Go.ChangeAt Go.RowKit
open Go.ChangeMaps (open_string shut_string)
set_option linter.unusedVariables false
theorem own : ownKnob Try.prog.godebug = none := by kernel_rfl
theorem laidOut : laidOutB Try.prog = true := by kernel_rfl
theorem walk (w : World) (s0 r0 d0 : Int) (A1 : Option Addr) (c1 : Nat) (l1 : List PTraceWrites.S39) (ws0 : (Lit.int .u64 s0).wf = true) (wr0 : (Lit.int .i64 r0).wf = true) (wd0 : (Lit.int .u32 d0).wf = true) (w1 : Go.Proofs.YtmklmpajcomimaaW.PrintWords.Kd.C PTraceWrites.k39 w A1 l1.length l1) (y1 : l1.length ≤ c1) (z1 : ∀ o ∈ l1, o.f6.size ≤ 140737488355328) :
    Calls Try.prog 4 #[.agg #[.int .u64 s0, .int .i64 r0, .int .u32 d0], .slice A1 l1.length c1] w fun e w' => e = .returned (.bool true) ∧ Below w.heap.size w w' := by
  have hs := Hand.wf_u64 ws0
  have hd := Hand.wf_u32 wd0
  cases hf : Hand.fewB l1 with
  | false => exact Hand.back_many s0 r0 d0 A1 c1 l1 w w1 y1 w1.2.1 hf
  | true =>
    have hfo := Hand.few_ok hf z1
    by_cases hfit : Hand.fitP r0 l1 = true ∧ (Hand.encP s0 r0 d0 l1).length ≤ 1048576
    · obtain ⟨hall, hh⟩ := Hand.fit_ok (s := s0) (d := d0) hfit.1 hs hd
      exact Hand.back_good s0 r0 d0 A1 c1 l1 w w1 y1 hh hf hfo hall
    · exact Hand.back_not s0 r0 d0 A1 c1 l1 w w1 y1 hf hfo hfit
set_option maxRecDepth 100000 in
theorem lifted (os : Os) (started : os.Started) (H : Type) (enc : TypeId × Value → H) :
    ReturnsInHanded {} Try.checked os 4 .any (Rows.traceBackSpec.pre6 enc Try.prog Try.f4 Rows.traceBackRow.domain false) (Rows.traceBackSpec.post enc Try.prog Try.f4 false true false false) := by
  refine returnsInHanded_of_change_sized (C := Try.checked) own started (by kernel_rfl) Try.func4
    (ChangeSpec.witness6 (enc := enc) (C := Try.checked) false ⟨#[], #[.agg #[.int .u64 0, .int .i64 0, .int .u32 0], .slice none 0 0], []⟩ 8 (by kernel_rfl) (by kernel_rfl) (by kernel_rfl) (by kernel_rfl)) ?_
  intro W base args ds gs before hval0 hW hcnd hsz0 _
  have hsz : (DataW.weightsEach Try.prog (Try.f4.params.toList ++ Rows.traceBackSpec.plain.varTypes Try.prog) (ds ++ gs)).all (· ≤ reachBytes) = true := hsz0
  have hval : ∀ (j : Nat) t v, Try.f4.params[j]? = some t → args[j]? = some v → Value.okWide Try.prog W .any base t v := hval0
  have hW' := hW
  obtain ⟨p, q, hA0, hV, rfl, hfz, hnd⟩ := hW
  have hA : DataW.TrodAll enc Try.prog W 0 (fun _ => true) true Try.f4.params.toList args.toList ds p := hA0
  rw [Try.params4] at hA hval hsz
  obtain ⟨v0, vs0, d0, ds0, p0, q0, hargs, rfl, rfl, h0, r0⟩ := trodAll_cons hA
  obtain ⟨v1, vs1, d1, ds1, p1, q1, rfl, rfl, rfl, h1, r1⟩ := trodAll_cons r0
  obtain ⟨rfl, rfl, rfl⟩ := trodAll_nil r1
  obtain rfl : args = #[v0, v1] := by cases args; simp_all
  obtain ⟨rfl, rfl⟩ := trodVars_none hV
  have k0 := h0
  have lt0 : ∀ x ∈ p0, x.block < W.heap.size := by obtain ⟨m, hm⟩ := k0; exact DataW.trod_lt m _ _ _ hm
  obtain ⟨hs0, hr0, hd0x, rfl, ws0, wr0, wd0⟩ := Hand.open_head (hval 0 25 v0 rfl rfl) h0
  obtain ⟨A1, len1, c1, rfl⟩ := okWide_slice Try.underlying26 (hval 1 26 v1 rfl rfl)
  have k1 := h1
  have lt1 : ∀ x ∈ p1, x.block < W.heap.size := by obtain ⟨m, hm⟩ := k1; exact DataW.trod_lt m _ _ _ hm
  obtain ⟨l1, hl1, y1, w1, hx1⟩ : ∃ l : List PTraceWrites.S39, l.length = len1 ∧ len1 ≤ c1 ∧ Go.Proofs.YtmklmpajcomimaaW.PrintWords.Kd.C PTraceWrites.k39 W A1 len1 l ∧ (len1 = 0 ∨ ∃ sp : List (DataW H), d1 = .slice (l.map Hand.recD) sp) := by
    obtain ⟨fuel, hf⟩ := h1
    exact Hand.open_recs hf
  have z1 : ∀ o ∈ l1, o.f6.size ≤ 140737488355328 := by
    rcases hx1 with h0 | ⟨sp, hd⟩
    · intro o ho
      rw [List.eq_nil_of_length_eq_zero (hl1.trans h0)] at ho
      cases ho
    · exact fun o ho => Hand.sized_rec hsz (j := 1) rfl (congrArg some hd) o ho
  subst hl1
  clear hA0 hval0 hsz0 hsz
  refine (walk W hs0 hr0 hd0x A1 c1 l1 ws0 wr0 wd0 w1 y1 z1).mono fun e W' ⟨he, bel⟩ => ?_
  subst he
  exact ⟨_, rfl, _, _, _, [], _, [], hW', trodAll_mk1 (shut_bool Try.underlying4 _), (trodAll_cons_mk (Below.trod laidOut (by kernel_rfl) (of_decide_eq_true (by kernel_rfl)) k0 bel lt0) (trodAll_cons_mk (Below.trod laidOut (by kernel_rfl) (of_decide_eq_true (by kernel_rfl)) k1 bel lt1) trodAll_mk0)), rfl, bel.frame _, fun h => by cases h⟩
theorem over : Rows.traceBackRow.holds Try.pinned (OpenSpec.ofChange Rows.traceBackSpec) :=
  OpenClaim.holds_of_wide 4 Try.f4 rfl rfl rfl rfl rfl rfl rfl ⟨rfl, rfl, rfl, rfl, rfl⟩ rfl rfl rfl rfl rfl (by kernel_rfl) Try.func4 (by kernel_rfl)
    (of_decide_eq_true (by kernel_rfl)) (by unfold Func.isWrapper; first | (rw [if_pos (by decide +kernel)]; kernel_rfl) | (rw [if_neg (by decide +kernel)]; exact ⟨rfl, rfl⟩))
    (fun os started H enc _ => lifted os started H enc)
theorem proved : Rows.TraceBackSaid := over
#print axioms proved
end Go.Proofs.Ytmklmpajcomimaa.traceBack
namespace Go.Proofs.Ytmklmpajcomimaa
/-- The row, under a short name, for the claim. -/
theorem traceBack_holds : Rows.TraceBackSaid := traceBack.proved
end Go.Proofs.Ytmklmpajcomimaa
end
