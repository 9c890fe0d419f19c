import Derived.Test.YtmklmpajcomimaaZAlive
import Derived.Deep.RegionHeld3
import Derived.Test.YtmklmpajcomimaaRows
import Derived.WalkKit
import Derived.ProofKit
import Derived.OpenShut
import Derived.ShutString
import Derived.ChangeOld
import Derived.Below
import Derived.SizedLaws
import Derived.Test.YtmklmpajcomimaaYWSized
section
/- TraceFrames, walked. -/
namespace Go.Proofs.Ytmklmpajcomimaa.Hand
open Go.RowKit Go.Proofs.YtmklmpajcomimaaW.PrintWords Go.Proofs.YtmklmpajcomimaaW.PrintLast Go.Proofs.YtmklmpajcomimaaW.PrintMore Go.Proofs.Ytmklmpajcomimaa.PTraceWrites Go.Proofs.Ytmklmpajcomimaa.CrcMath
set_option linter.unusedVariables false
set_option linter.unusedSimpArgs false
attribute [local go_sem ↓] Go.wp_at_zero Go.wp_at_succ
theorem framesX_lt (xs : List (List Int)) (i : Nat) (h : i < xs.length) : (framesX (xs.take i)).length < (framesX (xs.take (i + 1))).length := by
  rw [List.take_succ_eq_append_getElem h, framesX_append, List.length_append]
  have : (framesX [xs[i]]).length = (xs[i]).length + 12 := by
    show (frameP _ ++ []).length = _
    rw [List.append_nil, frameP_len]
  omega
theorem framesX_le (xs : List (List Int)) (i : Nat) : (framesX (xs.take i)).length ≤ (framesX xs).length := by
  have h : framesX xs = framesX (xs.take i) ++ framesX (xs.drop i) := by rw [← framesX_append, List.take_append_drop]
  rw [h, List.length_append]
  omega
theorem offs_rd (xs : List (List Int)) (i : Nat) (h : i < xs.length) : rd (offs 0 xs) (i : Int) = ((framesX (xs.take i)).length : Int) := by
  rw [rd_at (offs 0 xs) i (by rw [offs_len]; exact h), offs_at xs 0 i h, Nat.zero_add]
set_option maxHeartbeats 16000000 in
set_option maxRecDepth 100000 in
theorem frm_many (s r d : Int) (A : Option Addr) (c : Nat) (l : List S39) (w : World) (n : Int) (hr : Kd.C k39 w A l.length l) (hc : l.length ≤ c) (hl : l.length ≤ 9223372036854775807) (hf : fewB l = false) :
    Calls Try.prog 8 #[.agg #[.int .u64 s, .int .i64 r, .int .u32 d], .slice A l.length c, .int .i64 n] w fun e w' => e = .returned (.bool true) ∧ Below w.heap.size w w' := by
  have hb1 := below_alloc (Below.refl w.heap.size w) (.cells #[.int .u64 s, .int .i64 r, .int .u32 d] 25 (0, 0))
  have hg1 := blk_new w (.cells #[.int .u64 s, .int .i64 r, .int .u32 d] 25 (0, 0))
  have hz1 := alloc_size w (.cells #[.int .u64 s, .int .i64 r, .int .u32 d] 25 (0, 0))
  obtain ⟨w1, hw1⟩ : ∃ w1, w.alloc (.cells #[.int .u64 s, .int .i64 r, .int .u32 d] 25 (0, 0)) = w1 := ⟨_, rfl⟩
  rw [hw1] at hb1 hg1 hz1
  obtain ⟨q, hq⟩ : ∃ q, w.heap.size = q := ⟨_, rfl⟩
  rw [hq] at hg1 hz1
  have hfw := few_calls A c l w1 (Kd.C_below hr hb1) hc hl
  rw [hf] at hfw
  have HFW := Lib.hid hfw
  have HB1 := Lib.hid hb1
  clear hfw hb1 hg1 hz1 hr hf
  go_enter Try.func8, Try.ntmps8
  go_wp2_with fail
  (try rw [hw1])
  refine HFW.out.mono ?_
  rintro e w2 ⟨rfl, hb2⟩
  have HB2 := Lib.hid (below_step HB1.out hb2)
  clear hb2 HB1 HFW hw1
  go_wp2_with fail
  refine (alive_calls w2).mono ?_
  rintro e w3 ⟨rfl, hb3⟩
  have HB3 := Lib.hid (below_step HB2.out hb3)
  clear hb3 HB2
  go_wp2_with fail
  go_ret
  exact ⟨rfl, HB3.out⟩
set_option maxHeartbeats 16000000 in
set_option maxRecDepth 100000 in
theorem frm_not (s r d : Int) (A : Option Addr) (c : Nat) (l : List S39) (w : World) (n : Int) (hr : Kd.C k39 w A l.length l) (hc : l.length ≤ c) (hf : fewB l = true) (hfo : FewOk l) (hfit : ¬ (fitP r l = true ∧ (encP s r d l).length ≤ 1048576)) :
    Calls Try.prog 8 #[.agg #[.int .u64 s, .int .i64 r, .int .u32 d], .slice A l.length c, .int .i64 n] w fun e w' => e = .returned (.bool true) ∧ Below w.heap.size w w' := by
  have hb1 := below_alloc (Below.refl w.heap.size w) (.cells #[.int .u64 s, .int .i64 r, .int .u32 d] 25 (0, 0))
  have hg1 := blk_new w (.cells #[.int .u64 s, .int .i64 r, .int .u32 d] 25 (0, 0))
  have hz1 := alloc_size w (.cells #[.int .u64 s, .int .i64 r, .int .u32 d] 25 (0, 0))
  obtain ⟨w1, hw1⟩ : ∃ w1, w.alloc (.cells #[.int .u64 s, .int .i64 r, .int .u32 d] 25 (0, 0)) = w1 := ⟨_, rfl⟩
  rw [hw1] at hb1 hg1 hz1
  obtain ⟨q, hq⟩ : ∃ q, w.heap.size = q := ⟨_, rfl⟩
  rw [hq] at hg1 hz1
  have hfw := few_calls A c l w1 (Kd.C_below hr hb1) hc (by have := hfo.1; omega)
  rw [hf] at hfw
  have HFW := Lib.hid hfw
  have HB1 := Lib.hid hb1
  have HG1 := Lib.hid hg1
  have HC1 := Lib.hid (Kd.C_below hr hb1)
  have henc := fun A3 c3 W (hW : Kd.C k39 W A3 l.length l) (h3 : l.length ≤ c3) => encode_not s r d A3 c3 l W hW h3 hfit
  have HENC := Lib.hid henc
  have HQ := Lib.hid hq
  have HW1 := Lib.hid hw1
  have HFO := Lib.hid hfo
  clear hfw hb1 hg1 hz1 hr hf henc hq hw1 hfo hfit
  go_enter Try.func8, Try.ntmps8
  go_wp2_with fail
  (try rw [HW1.out])
  (try rw [HQ.out])
  refine HFW.out.mono ?_
  rintro e w2 ⟨rfl, hb2⟩
  have hg2 := (hb2.block q (blk_lt HG1.out)).trans HG1.out
  have HG2 := Lib.hid hg2
  have HC2 := Lib.hid (Kd.C_below HC1.out hb2)
  have HB2 := Lib.hid (below_step HB1.out hb2)
  have hk0 : w2.cell? ⟨q, 0, none⟩ = some (.int .u64 s) := (blk_cell hg2 0).trans rfl
  have hk1 : w2.cell? ⟨q, 1, none⟩ = some (.int .i64 r) := (blk_cell hg2 1).trans rfl
  have hk2 : w2.cell? ⟨q, 2, none⟩ = some (.int .u32 d) := (blk_cell hg2 2).trans rfl
  have hS2 : w2.cell? ⟨q, 0, none⟩ = some (.int .u64 s) ∧ w2.cell? ⟨q, 1, none⟩ = some (.int .i64 r) ∧ w2.cell? ⟨q, 2, none⟩ = some (.int .u32 d) := ⟨hk0, hk1, hk2⟩
  have hbd := below_drew (Below.refl w2.heap.size w2)
  have HMADE := Lib.hid (made_good A c l w2.drew (Kd.C_drew HC2.out) hc (by have := HFO.out.1; omega))
  clear hb2 hg2 HG1 HC1 HB1 HFW
  go_wp2_with fail
  go_region_held3 (fun W => W.cell? ⟨q, 0, none⟩ = some (.int .u64 s) ∧ W.cell? ⟨q, 1, none⟩ = some (.int .i64 r) ∧ W.cell? ⟨q, 2, none⟩ = some (.int .u32 d)) (first | assumption | simp [*]) (first | (go_at_call 12; refine HMADE.out.mono ?_; rintro e w3 ⟨A3, c3, rfl, hl3, hC3, hb3'⟩; have hb3 := below_step hbd hb3'; have HG3 := Lib.hid ((hb3.block q (blk_lt HG2.out)).trans HG2.out); have HC3 := Lib.hid (Kd.C_below HC2.out hb3); have HB3 := Lib.hid (below_step HB2.out hb3); have hS3 : w3.cell? ⟨q, 0, none⟩ = some (.int .u64 s) ∧ w3.cell? ⟨q, 1, none⟩ = some (.int .i64 r) ∧ w3.cell? ⟨q, 2, none⟩ = some (.int .u32 d) := ⟨(blk_cell HG3.out 0).trans rfl, (blk_cell HG3.out 1).trans rfl, (blk_cell HG3.out 2).trans rfl⟩) | (go_at_call 11; refine (HENC.out A3 c3 w3 hC3 hl3).mono ?_; rintro e w4 ⟨rfl, hb4⟩; have HG4 := Lib.hid ((hb4.block q (blk_lt HG3.out)).trans HG3.out); have HC4 := Lib.hid (Kd.C_below HC3.out hb4); have HB4 := Lib.hid (below_step HB3.out hb4); have hS4 : w4.cell? ⟨q, 0, none⟩ = some (.int .u64 s) ∧ w4.cell? ⟨q, 1, none⟩ = some (.int .i64 r) ∧ w4.cell? ⟨q, 2, none⟩ = some (.int .u32 d) := ⟨(blk_cell HG4.out 0).trans rfl, (blk_cell HG4.out 1).trans rfl, (blk_cell HG4.out 2).trans rfl⟩))
  clear hk0 hk1 hk2 hS2 hS3 hS4 hb3 hb3' hb4 hbd hC3 HG2 HC2 HB2 HG3 HC3 HB3 HMADE HENC HW1 HQ
  go_wp2_with fail
  refine (alive_calls w4).mono ?_
  rintro e w5 ⟨rfl, hb5⟩
  have HB5 := Lib.hid (below_step HB4.out hb5)
  clear hb5 HB4 HG4 HC4
  go_wp2_with fail
  go_ret
  exact ⟨rfl, HB5.out⟩
set_option maxHeartbeats 16000000 in
set_option maxRecDepth 100000 in
theorem frm_good (s r d : Int) (A : Option Addr) (c : Nat) (l : List S39) (w : World) (n : Int) (hr : Kd.C k39 w A l.length l) (hc : l.length ≤ c) (hh : HeadOk s r d) (hf : fewB l = true) (hfo : FewOk l) (hall : l.all rightP = true) :
    Calls Try.prog 8 #[.agg #[.int .u64 s, .int .i64 r, .int .u32 d], .slice A l.length c, .int .i64 n] w fun e w' => e = .returned (.bool true) ∧ Below w.heap.size w w' := by
  have hin : inNum r = true := decide_eq_true hh.2.1
  have hfit : fitP r l = true := by
    unfold fitP
    rw [hin, hall, decide_eq_true (show l.length ≤ 4096 by have := hfo.1; omega)]
    rfl
  have hll : l.length ≤ 4096 := by have := hfo.1; omega
  have hle := few_enc (s := s) (r := r) (d := d) hfo hall
  have hby := bytes_wf (encP_wf hh hll hall)
  obtain ⟨X, hX⟩ : ∃ X, starts (encP s r d l) 0 = X := ⟨_, rfl⟩
  have hpl := parts_len s r d l
  have hXo : X = offs 0 (parts s r d l) := by rw [← hX]; exact starts_enc s r d l hall
  have hXl : X.length = l.length + 2 := by rw [hXo, offs_len, hpl]
  have hx0 : rd X 0 = 0 := by
    have h := offs_rd (parts s r d l) 0 (by omega)
    rw [hXo]
    exact h
  have hxm : ∀ i : Nat, i + 1 < X.length → rd X (i : Int) < rd X ((i + 1 : Nat) : Int) := fun i hi => by
    have h1 := framesX_lt (parts s r d l) i (by omega)
    rw [hXo, offs_rd _ i (by omega), offs_rd _ (i + 1) (by omega)]
    omega
  have hxd : ∀ i : Nat, 1 ≤ i → i < X.length → ∃ p : Nat, rd X (i : Int) = (p : Int) ∧ p < (encP s r d l).length ∧ readE ((encP s r d l).drop p) = ((0, 0, 0), [], 0, 212) := fun i h1 hi => by
    refine ⟨(framesX ((parts s r d l).take i)).length, ?_, ?_, readE_from s r d l i hall h1 (by omega)⟩
    · rw [hXo, offs_rd _ i (by omega)]
    · have h2 := framesX_lt (parts s r d l) i (by omega)
      have h3 := framesX_le (parts s r d l) (i + 1)
      rw [enc_parts]
      omega
  clear hXo hpl
  have hrd := readE_enc s r d l hh hll hall
  obtain ⟨B, hB⟩ : ∃ B, encP s r d l = B := ⟨_, rfl⟩
  rw [hB] at hrd hle hby hX hxd
  have HRD := Lib.hid hrd
  have HBY := Lib.hid hby
  clear hrd hby hh hall hin HRD
  have hXi : (X.length : Int) = (l.length : Int) + 2 := by omega
  have HX := Lib.hid hX
  have HXL := Lib.hid hXl
  have HX0 := Lib.hid hx0
  have HXM := Lib.hid hxm
  have HXD := Lib.hid hxd
  have HLE := Lib.hid hle
  have hxq : ((X.length : Int) != (l.length : Int) + 2) = false := by rw [hXi]; exact bne_self_eq_false _
  have hwl : IntKind.i64.wrap ((l.length : Int) + 2) = (l.length : Int) + 2 := by rw [i64_w]; exact wrap_of (by omega) (by omega)
  have hx1 : 0 < X.length := by omega
  clear hX hXl hx0 hxm hxd hXi hll
  have hb1 := below_alloc (Below.refl w.heap.size w) (.cells #[.int .u64 s, .int .i64 r, .int .u32 d] 25 (0, 0))
  have hg1 := blk_new w (.cells #[.int .u64 s, .int .i64 r, .int .u32 d] 25 (0, 0))
  have hz1 := alloc_size w (.cells #[.int .u64 s, .int .i64 r, .int .u32 d] 25 (0, 0))
  obtain ⟨w1, hw1⟩ : ∃ w1, w.alloc (.cells #[.int .u64 s, .int .i64 r, .int .u32 d] 25 (0, 0)) = w1 := ⟨_, rfl⟩
  rw [hw1] at hb1 hg1 hz1
  obtain ⟨q, hq⟩ : ∃ q, w.heap.size = q := ⟨_, rfl⟩
  rw [hq] at hg1 hz1
  have hfw := few_calls A c l w1 (Kd.C_below hr hb1) hc (by have := hfo.1; omega)
  rw [hf] at hfw
  have HFW := Lib.hid hfw
  have HB1 := Lib.hid hb1
  have HG1 := Lib.hid hg1
  have HC1 := Lib.hid (Kd.C_below hr hb1)
  have henc := fun A3 c3 W (hW : Kd.C k39 W A3 l.length l) (h3 : l.length ≤ c3) => encode_good s r d A3 c3 l W hW h3 hfit (by rw [hB]; omega)
  simp only [hB] at henc
  have HENC := Lib.hid henc
  have HQ := Lib.hid hq
  have HW1 := Lib.hid hw1
  have HFO := Lib.hid hfo
  clear hfw hb1 hg1 hz1 hr hf henc hq hw1 hfo hfit
  go_enter Try.func8, Try.ntmps8
  go_wp2_with fail
  (try rw [HW1.out])
  (try rw [HQ.out])
  refine HFW.out.mono ?_
  rintro e w2 ⟨rfl, hb2⟩
  have hg2 := (hb2.block q (blk_lt HG1.out)).trans HG1.out
  have HG2 := Lib.hid hg2
  have HC2 := Lib.hid (Kd.C_below HC1.out hb2)
  have HB2 := Lib.hid (below_step HB1.out hb2)
  have hk0 : w2.cell? ⟨q, 0, none⟩ = some (.int .u64 s) := (blk_cell hg2 0).trans rfl
  have hk1 : w2.cell? ⟨q, 1, none⟩ = some (.int .i64 r) := (blk_cell hg2 1).trans rfl
  have hk2 : w2.cell? ⟨q, 2, none⟩ = some (.int .u32 d) := (blk_cell hg2 2).trans rfl
  have hS2 : w2.cell? ⟨q, 0, none⟩ = some (.int .u64 s) ∧ w2.cell? ⟨q, 1, none⟩ = some (.int .i64 r) ∧ w2.cell? ⟨q, 2, none⟩ = some (.int .u32 d) := ⟨hk0, hk1, hk2⟩
  have hbd := below_drew (Below.refl w2.heap.size w2)
  have HMADE := Lib.hid (made_good A c l w2.drew (Kd.C_drew HC2.out) hc (by have := HFO.out.1; omega))
  clear hb2 hg2 HG1 HC1 HB1 HFW
  go_wp2_with fail
  go_region_held3 (fun W => W.cell? ⟨q, 0, none⟩ = some (.int .u64 s) ∧ W.cell? ⟨q, 1, none⟩ = some (.int .i64 r) ∧ W.cell? ⟨q, 2, none⟩ = some (.int .u32 d)) (first | assumption | simp [*]) (first | (go_at_call 12; refine HMADE.out.mono ?_; rintro e w3 ⟨A3, c3, rfl, hl3, hC3, hb3'⟩; have hb3 := below_step hbd hb3'; have HG3 := Lib.hid ((hb3.block q (blk_lt HG2.out)).trans HG2.out); have HC3 := Lib.hid (Kd.C_below HC2.out hb3); have HB3 := Lib.hid (below_step HB2.out hb3); have hS3 : w3.cell? ⟨q, 0, none⟩ = some (.int .u64 s) ∧ w3.cell? ⟨q, 1, none⟩ = some (.int .i64 r) ∧ w3.cell? ⟨q, 2, none⟩ = some (.int .u32 d) := ⟨(blk_cell HG3.out 0).trans rfl, (blk_cell HG3.out 1).trans rfl, (blk_cell HG3.out 2).trans rfl⟩) | (go_at_call 11; refine (HENC.out A3 c3 w3 hC3 hl3).mono ?_; rintro e w4 ⟨A4, c4, rfl, hl4, hR4, hb4⟩; have HG4 := Lib.hid ((hb4.block q (blk_lt HG3.out)).trans HG3.out); have HC4 := Lib.hid (Kd.C_below HC3.out hb4); have HB4 := Lib.hid (below_step HB3.out hb4); have hS4 : w4.cell? ⟨q, 0, none⟩ = some (.int .u64 s) ∧ w4.cell? ⟨q, 1, none⟩ = some (.int .i64 r) ∧ w4.cell? ⟨q, 2, none⟩ = some (.int .u32 d) := ⟨(blk_cell HG4.out 0).trans rfl, (blk_cell HG4.out 1).trans rfl, (blk_cell HG4.out 2).trans rfl⟩))
  have HR4 := Lib.hid hR4
  clear hR4
  clear hk0 hk1 hk2 hS2 hS3 hS4 hb3 hb3' hb4 hbd hC3 HG2 HC2 HB2 HG3 HC3 HB3 HMADE HENC HW1 HQ
  have HBC4 := Lib.hid (Kd.R_reads' HR4.out).2.2
  have hf4 := frames_good A4 c4 B w4 HBC4.out hl4 HBY.out (by have := HLE.out; omega)
  rw [HX.out] at hf4
  have HF4 := Lib.hid hf4
  clear HR4 hf4
  go_wp2_with fail
  refine HF4.out.mono ?_
  rintro e w5 ⟨A5, c5, rfl, hC5, hb5⟩
  obtain ⟨ad, rfl, hx5⟩ := Kd.at_int hC5 0 (by omega) (by omega)
  rw [HX0.out] at hx5
  have hx5' : w5.cell? ad = some (.int .i64 0) := hx5
  have HXC5 := Lib.hid hC5
  clear hC5 HF4 hx5
  have HG5 := Lib.hid ((hb5.block q (blk_lt HG4.out)).trans HG4.out)
  have HC5 := Lib.hid (Kd.C_below HC4.out hb5)
  have HBC5 := Lib.hid (Kd.C_below HBC4.out hb5)
  have HB5 := Lib.hid (below_step HB4.out hb5)
  clear hb5 HG4 HB4 HC4 HBC4
  go_wp2_with fail
  clear hx5'
  go_loopw [10] (fun u10 wr => ∃ k : Nat, 1 ≤ k ∧ k ≤ X.length ∧ u10 = .int .i64 (k : Int) ∧ Aside0 (Below w5.heap.size w5 wr)) (fun u10 _ => X.length - (intOf u10).toNat)
  case atStart => exact ⟨1, Nat.le_refl _, hx1, rfl, Aside0.mk (Below.refl _ _)⟩
  case round =>
    obtain ⟨k, hk1, hk, rfl, HBr⟩ := hrel
    by_cases hlt : k < X.length
    · obtain ⟨i, hi⟩ : ∃ i, i + 1 = k := ⟨k - 1, by omega⟩
      obtain ⟨ad1, he1, hc1⟩ := Kd.at_int (Kd.C_below HXC5.out HBr.out) (k : Int) (by omega) (by omega)
      obtain rfl : ad = ad1 := by cases he1; rfl
      obtain ⟨ad2, he2, hc2⟩ := Kd.at_int (Kd.C_below HXC5.out HBr.out) (i : Int) (by omega) (by omega)
      obtain rfl : ad = ad2 := by cases he2; rfl
      have hab := HXM.out i (by omega)
      rw [hi] at hab
      obtain ⟨a, ha⟩ : ∃ a, rd X (k : Int) = a := ⟨_, rfl⟩
      obtain ⟨b, hb⟩ : ∃ b, rd X (i : Int) = b := ⟨_, rfl⟩
      rw [ha, hb] at hab
      rw [ha] at hc1
      rw [hb] at hc2
      simp only [Int.toNat_natCast] at hc1 hc2
      have hwk : IntKind.i64.wrap ((k : Int) - 1) = (i : Int) := by rw [i64_w, wrap_of (by omega) (by have := HXL.out; have := HFO.out.1; omega)]; omega
      have hwk1 : IntKind.i64.wrap ((k : Int) + 1) = ((k + 1 : Nat) : Int) := by rw [i64_w, wrap_of (by omega) (by have := HXL.out; have := HFO.out.1; omega)]; omega
      have hlx : i < X.length := by omega
      have hax : decide (a ≤ b) = false := decide_eq_false (by omega)
      have hS : wr.cell? (ad.add k) = some (.int .i64 a) ∧ wr.cell? (ad.add i) = some (.int .i64 b) := ⟨hc1, hc2⟩
      have HIK := Lib.hid hi
      have HDR := Lib.hid (below_drew HBr.out)
      clear hi ha hb hab he1 he2
      go_wp2_with fail
      go_region_held3 (fun W => W.cell? (ad.add k) = some (.int .i64 a) ∧ W.cell? (ad.add i) = some (.int .i64 b)) (first | assumption | simp [*]) (fail)
      clear hS hc1 hc2 hax hwk hlx
      go_wp2_with fail
      go_roundw
      case rel => exact ⟨k + 1, by omega, by omega, by go_num, Aside0.mk HDR.out⟩
      case measure => simp [intOf]; omega
    · have HG6 := Lib.hid ((HBr.out.block q (blk_lt HG5.out)).trans HG5.out)
      have HC6 := Lib.hid (Kd.C_below HC5.out HBr.out)
      have HBC6 := Lib.hid (Kd.C_below HBC5.out HBr.out)
      have HXC6 := Lib.hid (Kd.C_below HXC5.out HBr.out)
      have HB6 := Lib.hid (below_step HB5.out HBr.out)
      have hkd : decide (k < X.length) = false := decide_eq_false hlt
      clear HG5 HC5 HBC5 HXC5 HB5 HBr hk hk1 hxq hwl
      obtain ⟨w6, rfl⟩ : ∃ w6, w6 = wr := ⟨_, rfl⟩
      by_cases hn1 : n < 1
      · go_wp2_with fail
        refine (alive_calls w6).mono ?_
        rintro e w7 ⟨rfl, hb7⟩
        have HB7 := Lib.hid (below_step HB6.out hb7)
        clear hb7 HB6 HG6 HC6 HBC6 HXC6
        go_wp2_with fail
        go_ret
        exact ⟨rfl, HB7.out⟩
      by_cases hn2 : (X.length : Int) ≤ n
      · have hn1' : decide (n < 1) = false := decide_eq_false hn1
        go_wp2_with fail
        refine (alive_calls w6).mono ?_
        rintro e w7 ⟨rfl, hb7⟩
        have HB7 := Lib.hid (below_step HB6.out hb7)
        clear hb7 HB6 HG6 HC6 HBC6 HXC6
        go_wp2_with fail
        go_ret
        exact ⟨rfl, HB7.out⟩
      obtain ⟨m, rfl⟩ : ∃ m : Nat, n = (m : Int) := ⟨n.toNat, by omega⟩
      obtain ⟨p, hp1, hp2, hp3⟩ := HXD.out m (by omega) (by omega)
      obtain ⟨ad3, he3, hc3⟩ := Kd.at_int HXC6.out (m : Int) (by omega) (by omega)
      obtain rfl : ad = ad3 := by cases he3; rfl
      rw [hp1] at hc3
      simp only [Int.toNat_natCast] at hc3
      have hCD := Kd.C_drop (m := p) HBC6.out (by omega) hl4
      rw [if_neg (show ¬ c4 = p by omega)] at hCD
      have hsz : ∀ k, k * (Kd.int .u8).sz = k := fun k => Nat.mul_one k
      rw [hsz] at hCD
      have hdl : (B.drop p).length = B.length - p := List.length_drop ..
      have hdd := decode_good (A4.map (·.add p)) (c4 - p) (B.drop p) w6 hCD (by omega) (HBY.out.drop p) (by omega) hp3
      rw [hdl] at hdd
      have HDD := Lib.hid hdd
      have hm1 : decide ((m : Int) < 1) = false := decide_eq_false (by omega)
      have hm2 : decide (m < 1) = false := decide_eq_false (by omega)
      have hm3 : decide (m = 0) = false := decide_eq_false (by omega)
      have hm4 : decide (X.length ≤ m) = false := decide_eq_false (by omega)
      have hm5 : (m : Int) < (X.length : Int) := by omega
      have hm6 : m < X.length := by omega
      have hpB : (p : Int) ≤ (B.length : Int) := by omega
      have hpc : (p : Int) ≤ (c4 : Int) := by omega
      have hne : (c4 = p) = False := eq_false (by omega)
      clear hp1 hp2 hp3 he3 hCD hsz hdl hdd hn1 hn2
      go_wp2_with fail
      refine HDD.out.mono ?_
      rintro e w7 ⟨A7, c7, rfl, hl7, hR7, hb7⟩
      clear hR7 HDD
      have HG7 := Lib.hid ((hb7.block q (blk_lt HG6.out)).trans HG6.out)
      have HB7 := Lib.hid (below_step HB6.out hb7)
      clear hb7 HG6 HB6 
      have hg8 := blk_new w7 (.cells #[.int .u64 0, .int .i64 0, .int .u32 0] 33 (0, 0))
      have hb8 := below_alloc (Below.refl w7.heap.size w7) (.cells #[.int .u64 0, .int .i64 0, .int .u32 0] 33 (0, 0))
      obtain ⟨w8, hw8⟩ : ∃ w8, w7.alloc (.cells #[.int .u64 0, .int .i64 0, .int .u32 0] 33 (0, 0)) = w8 := ⟨_, rfl⟩
      obtain ⟨g, hg⟩ : ∃ g, w7.heap.size = g := ⟨_, rfl⟩
      rw [hw8] at hg8 hb8
      rw [hg] at hg8
      have HW8 := Lib.hid hw8
      have HGE := Lib.hid hg
      have HH8 := Lib.hid hg8
      have HG8 := Lib.hid ((hb8.block q (blk_lt HG7.out)).trans HG7.out)
      have HB8 := Lib.hid (below_step HB7.out hb8)
      clear hb8 hg8 hw8 hg HG7 HB7 
      go_wp2_with fail
      (try rw [HW8.out])
      (try rw [HGE.out])
      clear HW8 HGE
      refine (alive_calls w8).mono ?_
      rintro e w9 ⟨rfl, hb9⟩
      have HG9 := Lib.hid ((hb9.block q (blk_lt HG8.out)).trans HG8.out)
      have HH9 := Lib.hid ((hb9.block g (blk_lt HH8.out)).trans HH8.out)
      have HB9 := Lib.hid (below_step HB8.out hb9)
      clear hb9 HG8 HB8 HH8 
      go_wp2_with fail
      go_ret
      exact ⟨rfl, HB9.out⟩
end Go.Proofs.Ytmklmpajcomimaa.Hand
end

section
/- The statement TraceFramesSaid: the law tells true for every input; no condition. -/
namespace Go.Proofs.Ytmklmpajcomimaa.traceFrames
open Go.ChangeShapes Go.WideShapes Go.ChangeAt Go.RowKit
open Go.ChangeMaps (open_string shut_string)
set_option linter.unusedVariables false
theorem own : ownKnob Try.prog.godebug = none := by kernel_rfl
theorem laidOut : laidOutB Try.prog = true := by kernel_rfl
theorem walk (w : World) (s0 r0 d0 : Int) (A1 : Option Addr) (c1 : Nat) (l1 : List PTraceWrites.S39) (a2 : Int) (ws0 : (Lit.int .u64 s0).wf = true) (wr0 : (Lit.int .i64 r0).wf = true) (wd0 : (Lit.int .u32 d0).wf = true) (w1 : Go.Proofs.YtmklmpajcomimaaW.PrintWords.Kd.C PTraceWrites.k39 w A1 l1.length l1) (y1 : l1.length ≤ c1) (z1 : ∀ o ∈ l1, o.f6.size ≤ 140737488355328) (w2 : (Lit.int .i64 a2).wf = true) :
    Calls Try.prog 8 #[.agg #[.int .u64 s0, .int .i64 r0, .int .u32 d0], .slice A1 l1.length c1, .int .i64 a2] w fun e w' => e = .returned (.bool true) ∧ Below w.heap.size w w' := by
  have hs := Hand.wf_u64 ws0
  have hd := Hand.wf_u32 wd0
  cases hf : Hand.fewB l1 with
  | false => exact Hand.frm_many s0 r0 d0 A1 c1 l1 w a2 w1 y1 w1.2.1 hf
  | true =>
    have hfo := Hand.few_ok hf z1
    by_cases hfit : Hand.fitP r0 l1 = true ∧ (Hand.encP s0 r0 d0 l1).length ≤ 1048576
    · obtain ⟨hall, hh⟩ := Hand.fit_ok (s := s0) (d := d0) hfit.1 hs hd
      exact Hand.frm_good s0 r0 d0 A1 c1 l1 w a2 w1 y1 hh hf hfo hall
    · exact Hand.frm_not s0 r0 d0 A1 c1 l1 w a2 w1 y1 hf hfo hfit
set_option maxRecDepth 100000 in
theorem lifted (os : Os) (started : os.Started) (H : Type) (enc : TypeId × Value → H) :
    ReturnsInHanded {} Try.checked os 8 .any (Rows.traceFramesSpec.pre6 enc Try.prog Try.f8 Rows.traceFramesRow.domain false) (Rows.traceFramesSpec.post enc Try.prog Try.f8 false true false false) := by
  refine returnsInHanded_of_change_sized (C := Try.checked) own started (by kernel_rfl) Try.func8
    (ChangeSpec.witness6 (enc := enc) (C := Try.checked) false ⟨#[], #[.agg #[.int .u64 0, .int .i64 0, .int .u32 0], .slice none 0 0, .int .i64 0], []⟩ 8 (by kernel_rfl) (by kernel_rfl) (by kernel_rfl) (by kernel_rfl)) ?_
  intro W base args ds gs before hval0 hW hcnd hsz0 _
  have hsz : (DataW.weightsEach Try.prog (Try.f8.params.toList ++ Rows.traceFramesSpec.plain.varTypes Try.prog) (ds ++ gs)).all (· ≤ reachBytes) = true := hsz0
  have hval : ∀ (j : Nat) t v, Try.f8.params[j]? = some t → args[j]? = some v → Value.okWide Try.prog W .any base t v := hval0
  have hW' := hW
  obtain ⟨p, q, hA0, hV, rfl, hfz, hnd⟩ := hW
  have hA : DataW.TrodAll enc Try.prog W 0 (fun _ => true) true Try.f8.params.toList args.toList ds p := hA0
  rw [Try.params8] at hA hval hsz
  obtain ⟨v0, vs0, d0, ds0, p0, q0, hargs, rfl, rfl, h0, r0⟩ := trodAll_cons hA
  obtain ⟨v1, vs1, d1, ds1, p1, q1, rfl, rfl, rfl, h1, r1⟩ := trodAll_cons r0
  obtain ⟨v2, vs2, d2, ds2, p2, q2, rfl, rfl, rfl, h2, r2⟩ := trodAll_cons r1
  obtain ⟨rfl, rfl, rfl⟩ := trodAll_nil r2
  obtain rfl : args = #[v0, v1, v2] := by cases args; simp_all
  obtain ⟨rfl, rfl⟩ := trodVars_none hV
  have k0 := h0
  have lt0 : ∀ x ∈ p0, x.block < W.heap.size := by obtain ⟨m, hm⟩ := k0; exact DataW.trod_lt m _ _ _ hm
  obtain ⟨hs0, hr0, hd0x, rfl, ws0, wr0, wd0⟩ := Hand.open_head (hval 0 25 v0 rfl rfl) h0
  obtain ⟨A1, len1, c1, rfl⟩ := okWide_slice Try.underlying26 (hval 1 26 v1 rfl rfl)
  have k1 := h1
  have lt1 : ∀ x ∈ p1, x.block < W.heap.size := by obtain ⟨m, hm⟩ := k1; exact DataW.trod_lt m _ _ _ hm
  obtain ⟨l1, hl1, y1, w1, hx1⟩ : ∃ l : List PTraceWrites.S39, l.length = len1 ∧ len1 ≤ c1 ∧ Go.Proofs.YtmklmpajcomimaaW.PrintWords.Kd.C PTraceWrites.k39 W A1 len1 l ∧ (len1 = 0 ∨ ∃ sp : List (DataW H), d1 = .slice (l.map Hand.recD) sp) := by
    obtain ⟨fuel, hf⟩ := h1
    exact Hand.open_recs hf
  have z1 : ∀ o ∈ l1, o.f6.size ≤ 140737488355328 := by
    rcases hx1 with h0 | ⟨sp, hd⟩
    · intro o ho
      rw [List.eq_nil_of_length_eq_zero (hl1.trans h0)] at ho
      cases ho
    · exact fun o ho => Hand.sized_rec hsz (j := 1) rfl (congrArg some hd) o ho
  subst hl1
  obtain ⟨a2, rfl, rfl, rfl, w2⟩ := open_int Try.underlying3 (hval 2 3 v2 rfl rfl) h2
  clear hA0 hval0 hsz0 hsz
  refine (walk W hs0 hr0 hd0x A1 c1 l1 a2 ws0 wr0 wd0 w1 y1 z1 w2).mono fun e W' ⟨he, bel⟩ => ?_
  subst he
  exact ⟨_, rfl, _, _, _, [], _, [], hW', trodAll_mk1 (shut_bool Try.underlying4 _), (trodAll_cons_mk (Below.trod laidOut (by kernel_rfl) (of_decide_eq_true (by kernel_rfl)) k0 bel lt0) (trodAll_cons_mk (Below.trod laidOut (by kernel_rfl) (of_decide_eq_true (by kernel_rfl)) k1 bel lt1) (trodAll_cons_mk (shut_int Try.underlying3 w2) trodAll_mk0))), rfl, bel.frame _, fun h => by cases h⟩
theorem over : Rows.traceFramesRow.holds Try.pinned (OpenSpec.ofChange Rows.traceFramesSpec) :=
  OpenClaim.holds_of_wide 8 Try.f8 rfl rfl rfl rfl rfl rfl rfl ⟨rfl, rfl, rfl, rfl, rfl⟩ rfl rfl rfl rfl rfl (by kernel_rfl) Try.func8 (by kernel_rfl)
    (of_decide_eq_true (by kernel_rfl)) (by unfold Func.isWrapper; first | (rw [if_pos (by decide +kernel)]; kernel_rfl) | (rw [if_neg (by decide +kernel)]; exact ⟨rfl, rfl⟩))
    (fun os started H enc _ => lifted os started H enc)
theorem proved : Rows.TraceFramesSaid := over
#print axioms proved
end Go.Proofs.Ytmklmpajcomimaa.traceFrames
namespace Go.Proofs.Ytmklmpajcomimaa
/-- The row, under a short name, for the claim. -/
theorem traceFrames_holds : Rows.TraceFramesSaid := traceFrames.proved
end Go.Proofs.Ytmklmpajcomimaa
end
