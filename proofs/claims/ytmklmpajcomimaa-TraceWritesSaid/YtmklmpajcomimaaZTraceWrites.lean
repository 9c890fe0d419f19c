import Derived.Test.YtmklmpajcomimaaZAlive
import Derived.Deep.RegionHeld3
import Derived.Test.YtmklmpajcomimaaRows
import Derived.WalkKit
import Derived.ProofKit
import Derived.OpenShut
import Derived.ShutString
import Derived.ChangeOld
import Derived.Below
import Derived.SizedLaws
import Derived.Test.YtmklmpajcomimaaYWSized
section
/- TraceWrites, walked. -/
namespace Go.Proofs.Ytmklmpajcomimaa.Hand
open Go.RowKit Go.Proofs.YtmklmpajcomimaaW.PrintWords Go.Proofs.YtmklmpajcomimaaW.PrintLast Go.Proofs.YtmklmpajcomimaaW.PrintMore Go.Proofs.Ytmklmpajcomimaa.PTraceWrites Go.Proofs.Ytmklmpajcomimaa.CrcMath
set_option linter.unusedVariables false
set_option linter.unusedSimpArgs false
attribute [local go_sem ↓] Go.wp_at_zero Go.wp_at_succ
def TWri : Bool × List (List Nat × List Nat) := (true, [([], []), ([0], [0]), ([], []), ([2, 1], [2]), ([1, 3], [1, 3]), ([4, 3], [4]), ([5], [5]), ([6, 5], [5, 6]), ([7, 5, 5], [5, 7]), ([5], [5]), ([9, 5], [5, 9]), ([10, 5], [5, 10]), ([11, 8, 5], [5, 11]), ([12], [12]), ([13, 12], [12, 13]), ([14, 12], [12, 14]), ([12, 15, 5], [5, 12, 15]), ([8, 16, 5], [5, 8, 16]), ([5, 17], [5, 17])])
def BWri : List Nat := [0, 1, 0, 7, 15, 31, 63, 127, 255, 63, 575, 1599, 4095, 8191, 16383, 32767, 65535, 131071, 262143]
theorem tabWri : rtab .any (opsOf Try.f3 8) = TWri := by kernel_rfl
theorem bitsWri : waitsOk TWri.2 BWri = true := by kernel_rfl
set_option maxHeartbeats 16000000 in
set_option maxRecDepth 100000 in
theorem wri_many (s r d : Int) (A : Option Addr) (c : Nat) (l : List S39) (w : World) (hr : Kd.C k39 w A l.length l) (hc : l.length ≤ c) (hl : l.length ≤ 9223372036854775807) (hf : fewB l = false) :
    Calls Try.prog 3 #[.agg #[.int .u64 s, .int .i64 r, .int .u32 d], .slice A l.length c] w fun e w' => e = .returned (.bool true) ∧ Below w.heap.size w w' := by
  have hb1 := below_alloc (Below.refl w.heap.size w) (.cells #[.int .u64 s, .int .i64 r, .int .u32 d] 25 (0, 0))
  have hg1 := blk_new w (.cells #[.int .u64 s, .int .i64 r, .int .u32 d] 25 (0, 0))
  have hz1 := alloc_size w (.cells #[.int .u64 s, .int .i64 r, .int .u32 d] 25 (0, 0))
  obtain ⟨w1, hw1⟩ : ∃ w1, w.alloc (.cells #[.int .u64 s, .int .i64 r, .int .u32 d] 25 (0, 0)) = w1 := ⟨_, rfl⟩
  rw [hw1] at hb1 hg1 hz1
  obtain ⟨q, hq⟩ : ∃ q, w.heap.size = q := ⟨_, rfl⟩
  rw [hq] at hg1 hz1
  have hfw := few_calls A c l w1 (Kd.C_below hr hb1) hc hl
  rw [hf] at hfw
  have HFW := Lib.hid hfw
  have HB1 := Lib.hid hb1
  clear hfw hb1 hg1 hz1 hr hf
  go_enter Try.func3, Try.ntmps3
  go_wp2_with fail
  (try rw [hw1])
  refine HFW.out.mono ?_
  rintro e w2 ⟨rfl, hb2⟩
  have HB2 := Lib.hid (below_step HB1.out hb2)
  clear hb2 HB1 HFW hw1
  go_wp2_with fail
  refine (alive_calls w2).mono ?_
  rintro e w3 ⟨rfl, hb3⟩
  have HB3 := Lib.hid (below_step HB2.out hb3)
  clear hb3 HB2
  go_wp2_with fail
  go_ret
  exact ⟨rfl, HB3.out⟩
set_option maxHeartbeats 16000000 in
set_option maxRecDepth 100000 in
theorem wri_not (s r d : Int) (A : Option Addr) (c : Nat) (l : List S39) (w : World) (hr : Kd.C k39 w A l.length l) (hc : l.length ≤ c) (hf : fewB l = true) (hfo : FewOk l) (hfit : ¬ (fitP r l = true ∧ (encP s r d l).length ≤ 1048576)) (hsd : (0 ≤ s ∧ s < 18446744073709551616) ∧ (0 ≤ d ∧ d < 4294967296)) :
    Calls Try.prog 3 #[.agg #[.int .u64 s, .int .i64 r, .int .u32 d], .slice A l.length c] w fun e w' => e = .returned (.bool true) ∧ Below w.heap.size w w' := by
  have HRE : Hid (chicaneref21_Encode.f 5000100 s r d l = some (⟨#[]⟩, 1)) := Lib.hid ((encRef s r d l hsd hfo).trans (by unfold encR; rw [if_neg hfit]))
  clear hsd
  have hb1 := below_alloc (Below.refl w.heap.size w) (.cells #[.int .u64 s, .int .i64 r, .int .u32 d] 25 (0, 0))
  have hg1 := blk_new w (.cells #[.int .u64 s, .int .i64 r, .int .u32 d] 25 (0, 0))
  have hz1 := alloc_size w (.cells #[.int .u64 s, .int .i64 r, .int .u32 d] 25 (0, 0))
  obtain ⟨w1, hw1⟩ : ∃ w1, w.alloc (.cells #[.int .u64 s, .int .i64 r, .int .u32 d] 25 (0, 0)) = w1 := ⟨_, rfl⟩
  rw [hw1] at hb1 hg1 hz1
  obtain ⟨q, hq⟩ : ∃ q, w.heap.size = q := ⟨_, rfl⟩
  rw [hq] at hg1 hz1
  have hfw := few_calls A c l w1 (Kd.C_below hr hb1) hc (by have := hfo.1; omega)
  rw [hf] at hfw
  have HFW := Lib.hid hfw
  have HB1 := Lib.hid hb1
  have HG1 := Lib.hid hg1
  have HC1 := Lib.hid (Kd.C_below hr hb1)
  have henc := fun A3 c3 W (hW : Kd.C k39 W A3 l.length l) (h3 : l.length ≤ c3) => encode_not s r d A3 c3 l W hW h3 hfit
  have HENC := Lib.hid henc
  have HQ := Lib.hid hq
  have HW1 := Lib.hid hw1
  have HFO := Lib.hid hfo
  clear hfw hb1 hg1 hz1 hr hf henc hq hw1 hfo hfit
  go_enter Try.func3, Try.ntmps3
  go_wp2_with fail
  (try rw [HW1.out])
  (try rw [HQ.out])
  refine HFW.out.mono ?_
  rintro e w2 ⟨rfl, hb2⟩
  have hg2 := (hb2.block q (blk_lt HG1.out)).trans HG1.out
  have HG2 := Lib.hid hg2
  have HC2 := Lib.hid (Kd.C_below HC1.out hb2)
  have HB2 := Lib.hid (below_step HB1.out hb2)
  have hk0 : w2.cell? ⟨q, 0, none⟩ = some (.int .u64 s) := (blk_cell hg2 0).trans rfl
  have hk1 : w2.cell? ⟨q, 1, none⟩ = some (.int .i64 r) := (blk_cell hg2 1).trans rfl
  have hk2 : w2.cell? ⟨q, 2, none⟩ = some (.int .u32 d) := (blk_cell hg2 2).trans rfl
  have hS2 : w2.cell? ⟨q, 0, none⟩ = some (.int .u64 s) ∧ w2.cell? ⟨q, 1, none⟩ = some (.int .i64 r) ∧ w2.cell? ⟨q, 2, none⟩ = some (.int .u32 d) := ⟨hk0, hk1, hk2⟩
  have hbd := below_drew (Below.refl w2.heap.size w2)
  have HMADE := Lib.hid (made_good A c l w2.drew (Kd.C_drew HC2.out) hc (by have := HFO.out.1; omega))
  clear hb2 hg2 HG1 HC1 HB1 HFW
  go_wp2_with fail
  go_region_held3 (fun W => W.cell? ⟨q, 0, none⟩ = some (.int .u64 s) ∧ W.cell? ⟨q, 1, none⟩ = some (.int .i64 r) ∧ W.cell? ⟨q, 2, none⟩ = some (.int .u32 d)) (first | assumption | simp [*]) (first | (go_at_call 12; refine HMADE.out.mono ?_; rintro e w3 ⟨A3, c3, rfl, hl3, hC3, hb3'⟩; have hb3 := below_step hbd hb3'; have HG3 := Lib.hid ((hb3.block q (blk_lt HG2.out)).trans HG2.out); have HC3 := Lib.hid (Kd.C_below HC2.out hb3); have HB3 := Lib.hid (below_step HB2.out hb3); have hS3 : w3.cell? ⟨q, 0, none⟩ = some (.int .u64 s) ∧ w3.cell? ⟨q, 1, none⟩ = some (.int .i64 r) ∧ w3.cell? ⟨q, 2, none⟩ = some (.int .u32 d) := ⟨(blk_cell HG3.out 0).trans rfl, (blk_cell HG3.out 1).trans rfl, (blk_cell HG3.out 2).trans rfl⟩) | (go_at_call 11; refine (HENC.out A3 c3 w3 hC3 hl3).mono ?_; rintro e w4 ⟨rfl, hb4⟩; have HG4 := Lib.hid ((hb4.block q (blk_lt HG3.out)).trans HG3.out); have HC4 := Lib.hid (Kd.C_below HC3.out hb4); have HB4 := Lib.hid (below_step HB3.out hb4); have hS4 : w4.cell? ⟨q, 0, none⟩ = some (.int .u64 s) ∧ w4.cell? ⟨q, 1, none⟩ = some (.int .i64 r) ∧ w4.cell? ⟨q, 2, none⟩ = some (.int .u32 d) := ⟨(blk_cell HG4.out 0).trans rfl, (blk_cell HG4.out 1).trans rfl, (blk_cell HG4.out 2).trans rfl⟩))
  clear hk0 hk1 hk2 hS2 hS3 hS4 hb3 hb3' hb4 hbd hC3 HG2 HC2 HB2 HG3 HC3 HB3 HMADE HENC HW1 HQ
  have hq0 : w4.cell? ⟨q, 0, none⟩ = some (.int .u64 s) := (blk_cell HG4.out 0).trans rfl
  have hq1 : w4.cell? ⟨q, 1, none⟩ = some (.int .i64 r) := (blk_cell HG4.out 1).trans rfl
  have hq2 : w4.cell? ⟨q, 2, none⟩ = some (.int .u32 d) := (blk_cell HG4.out 2).trans rfl
  have HBC4 : Hid ((Kd.int .u8).C w4 none ([] : List Int).length []) := Lib.hid (Kd.C_nil _ w4)
  have HRF := Lib.hid (chicaneref21_Encode.calls 5000100 s r d A c l ⟨#[]⟩ 1 w4 HC4.out hc HRE.out)
  clear HRE
  go_wp2_with fail
  refine HRF.out.mono ?_
  rintro e w5 ⟨rfl, hb5⟩
  have HC5 := Lib.hid (Kd.C_below HC4.out hb5)
  have HBC5 := Lib.hid (Kd.C_below HBC4.out hb5)
  have HB5 := Lib.hid (below_step HB4.out hb5)
  clear hb5 HRF HG4 HC4 HBC4 HB4 hq0 hq1 hq2
  go_wp2_with fail
  go_loopw [30] (fun u30 wr => ∃ i : Nat, i ≤ l.length ∧ u30 = .int .i64 (i : Int) ∧ Aside0 (Below w5.heap.size w5 wr)) (fun u30 _ => l.length - (intOf u30).toNat)
  case atStart => exact ⟨0, Nat.zero_le _, rfl, Aside0.mk (Below.refl _ _)⟩
  case round =>
    obtain ⟨i, hi, rfl, HBr⟩ := hrel
    by_cases hlt : i < l.length
    · obtain ⟨w6, rfl⟩ : ∃ w6, w6 = wr := ⟨_, rfl⟩
      obtain ⟨ad, rfl, h0, h1, h2, h3, h4, h5, h6⟩ := at_T39 (Kd.C_below HC5.out HBr.out) (i : Int) (by omega) (by omega)
      simp only [Int.toNat_natCast] at h0 h1 h2 h3 h4 h5 h6
      obtain ⟨k, hk⟩ : ∃ k, rd_T39 l (i : Int) = k := ⟨_, rfl⟩
      rw [hk] at h0 h1 h2 h3 h4 h5 h6
      have hg7 := blk_new w6 (.cells #[.int .i64 k.f0, .int .i64 k.f1, .int .i64 k.f2, .int .i64 k.f3, .int .i64 k.f4, .int .i64 k.f5, .string k.f6] 39 (0, 0))
      have hb7 := below_alloc (Below.refl w6.heap.size w6) (.cells #[.int .i64 k.f0, .int .i64 k.f1, .int .i64 k.f2, .int .i64 k.f3, .int .i64 k.f4, .int .i64 k.f5, .string k.f6] 39 (0, 0))
      obtain ⟨w7, hw7⟩ : ∃ w7, w6.alloc (.cells #[.int .i64 k.f0, .int .i64 k.f1, .int .i64 k.f2, .int .i64 k.f3, .int .i64 k.f4, .int .i64 k.f5, .string k.f6] 39 (0, 0)) = w7 := ⟨_, rfl⟩
      obtain ⟨g, hg⟩ : ∃ g, w6.heap.size = g := ⟨_, rfl⟩
      rw [hw7] at hg7 hb7
      rw [hg] at hg7
      have HW7 := Lib.hid hw7
      have HGE := Lib.hid hg
      have HG7 := Lib.hid hg7
      have HB7 := Lib.hid (below_step HBr.out hb7)
      have hbd := below_drew (Below.refl w7.heap.size w7)
      have HRR := Lib.hid (fun W => right_calls k W)
      have HRG := Lib.hid (fun W => chicaneref21_Right.calls 1 k.f0 k.f1 k.f2 k.f3 k.f4 k.f5 k.f6 (rightP k) W (rightRef 0 k))
      obtain ⟨P, hP⟩ : ∃ P, rightP k = P := ⟨_, rfl⟩
      simp only [hP, recV] at HRR HRG
      have hPP : (P != P) = false := bne_self_eq_false _
      have hw1 : IntKind.i64.wrap ((i : Int) + 1) = ((i + 1 : Nat) : Int) := by rw [i64_w, wrap_of (by omega) (by have := HFO.out.1; omega)]; omega
      have hS7 : w7.cell? ⟨g, 0, none⟩ = some (.int .i64 k.f0) ∧ w7.cell? ⟨g, 1, none⟩ = some (.int .i64 k.f1) ∧ w7.cell? ⟨g, 2, none⟩ = some (.int .i64 k.f2) ∧ w7.cell? ⟨g, 3, none⟩ = some (.int .i64 k.f3) ∧ w7.cell? ⟨g, 4, none⟩ = some (.int .i64 k.f4) ∧ w7.cell? ⟨g, 5, none⟩ = some (.int .i64 k.f5) ∧ w7.cell? ⟨g, 6, none⟩ = some (.string k.f6) := ⟨(blk_cell HG7.out 0).trans rfl, (blk_cell HG7.out 1).trans rfl, (blk_cell HG7.out 2).trans rfl, (blk_cell HG7.out 3).trans rfl, (blk_cell HG7.out 4).trans rfl, (blk_cell HG7.out 5).trans rfl, (blk_cell HG7.out 6).trans rfl⟩
      clear hw7 hg hg7 hb7 hk hP
      go_wp2_with fail
      (try rw [HW7.out])
      (try rw [HGE.out])
      have HIN := Lib.hid (fun W => input_calls k.f0 W)
      by_cases hk1 : 1 ≤ k.f0
      by_cases hk6 : k.f0 ≤ 6
      · have hin : decide (1 ≤ k.f0 ∧ k.f0 ≤ 6) = true := by simp; omega
        have hge : decide (1 ≤ k.f0) = true := by simp; omega
        have hle6 : decide (k.f0 ≤ 6) = true := by simp; omega
        simp only [hin] at HIN
        clear hin
        first | (go_region_held3 (fun W => W.cell? ⟨g, 0, none⟩ = some (.int .i64 k.f0) ∧ W.cell? ⟨g, 1, none⟩ = some (.int .i64 k.f1) ∧ W.cell? ⟨g, 2, none⟩ = some (.int .i64 k.f2) ∧ W.cell? ⟨g, 3, none⟩ = some (.int .i64 k.f3) ∧ W.cell? ⟨g, 4, none⟩ = some (.int .i64 k.f4) ∧ W.cell? ⟨g, 5, none⟩ = some (.int .i64 k.f5) ∧ W.cell? ⟨g, 6, none⟩ = some (.string k.f6)) (first | assumption | simp [*]) (first | (go_at_call 14; refine (HRR.out _).mono ?_; rintro e w8 ⟨rfl, hb8'⟩; have hb8 := below_step hbd hb8'; have HG8 := Lib.hid ((hb8.block g (blk_lt HG7.out)).trans HG7.out); have hS8 : w8.cell? ⟨g, 0, none⟩ = some (.int .i64 k.f0) ∧ w8.cell? ⟨g, 1, none⟩ = some (.int .i64 k.f1) ∧ w8.cell? ⟨g, 2, none⟩ = some (.int .i64 k.f2) ∧ w8.cell? ⟨g, 3, none⟩ = some (.int .i64 k.f3) ∧ w8.cell? ⟨g, 4, none⟩ = some (.int .i64 k.f4) ∧ w8.cell? ⟨g, 5, none⟩ = some (.int .i64 k.f5) ∧ w8.cell? ⟨g, 6, none⟩ = some (.string k.f6) := ⟨(blk_cell HG8.out 0).trans rfl, (blk_cell HG8.out 1).trans rfl, (blk_cell HG8.out 2).trans rfl, (blk_cell HG8.out 3).trans rfl, (blk_cell HG8.out 4).trans rfl, (blk_cell HG8.out 5).trans rfl, (blk_cell HG8.out 6).trans rfl⟩; have HB8 := Lib.hid (below_step HB7.out hb8)) | (go_at_call 15; refine (HRG.out _).mono ?_; rintro e w9 ⟨rfl, hb9⟩; have HG9 := Lib.hid ((hb9.block g (blk_lt HG8.out)).trans HG8.out); have hS9 : w9.cell? ⟨g, 0, none⟩ = some (.int .i64 k.f0) ∧ w9.cell? ⟨g, 1, none⟩ = some (.int .i64 k.f1) ∧ w9.cell? ⟨g, 2, none⟩ = some (.int .i64 k.f2) ∧ w9.cell? ⟨g, 3, none⟩ = some (.int .i64 k.f3) ∧ w9.cell? ⟨g, 4, none⟩ = some (.int .i64 k.f4) ∧ w9.cell? ⟨g, 5, none⟩ = some (.int .i64 k.f5) ∧ w9.cell? ⟨g, 6, none⟩ = some (.string k.f6) := ⟨(blk_cell HG9.out 0).trans rfl, (blk_cell HG9.out 1).trans rfl, (blk_cell HG9.out 2).trans rfl, (blk_cell HG9.out 3).trans rfl, (blk_cell HG9.out 4).trans rfl, (blk_cell HG9.out 5).trans rfl, (blk_cell HG9.out 6).trans rfl⟩; have HB9 := Lib.hid (below_step HB8.out hb9)) | (go_at_call 16; refine (HIN.out _).mono ?_; rintro e w10 ⟨rfl, hb10⟩; have HG10 := Lib.hid ((hb10.block g (blk_lt HG9.out)).trans HG9.out); have hS10 : w10.cell? ⟨g, 0, none⟩ = some (.int .i64 k.f0) ∧ w10.cell? ⟨g, 1, none⟩ = some (.int .i64 k.f1) ∧ w10.cell? ⟨g, 2, none⟩ = some (.int .i64 k.f2) ∧ w10.cell? ⟨g, 3, none⟩ = some (.int .i64 k.f3) ∧ w10.cell? ⟨g, 4, none⟩ = some (.int .i64 k.f4) ∧ w10.cell? ⟨g, 5, none⟩ = some (.int .i64 k.f5) ∧ w10.cell? ⟨g, 6, none⟩ = some (.string k.f6) := ⟨(blk_cell HG10.out 0).trans rfl, (blk_cell HG10.out 1).trans rfl, (blk_cell HG10.out 2).trans rfl, (blk_cell HG10.out 3).trans rfl, (blk_cell HG10.out 4).trans rfl, (blk_cell HG10.out 5).trans rfl, (blk_cell HG10.out 6).trans rfl⟩; have HB10 := Lib.hid (below_step HB9.out hb10)))) | fail
        go_wp2_with fail
        go_roundw
        case rel => exact ⟨i + 1, by omega, by go_num, Aside0.mk HB10.out⟩
        case measure => simp [intOf]; omega
      · have hin : decide (1 ≤ k.f0 ∧ k.f0 ≤ 6) = false := by simp; omega
        have hge : decide (1 ≤ k.f0) = true := by simp; omega
        have hle6 : decide (k.f0 ≤ 6) = false := by simp; omega
        simp only [hin] at HIN
        clear hin
        first | (go_region_held3 (fun W => W.cell? ⟨g, 0, none⟩ = some (.int .i64 k.f0) ∧ W.cell? ⟨g, 1, none⟩ = some (.int .i64 k.f1) ∧ W.cell? ⟨g, 2, none⟩ = some (.int .i64 k.f2) ∧ W.cell? ⟨g, 3, none⟩ = some (.int .i64 k.f3) ∧ W.cell? ⟨g, 4, none⟩ = some (.int .i64 k.f4) ∧ W.cell? ⟨g, 5, none⟩ = some (.int .i64 k.f5) ∧ W.cell? ⟨g, 6, none⟩ = some (.string k.f6)) (first | assumption | simp [*]) (first | (go_at_call 14; refine (HRR.out _).mono ?_; rintro e w8 ⟨rfl, hb8'⟩; have hb8 := below_step hbd hb8'; have HG8 := Lib.hid ((hb8.block g (blk_lt HG7.out)).trans HG7.out); have hS8 : w8.cell? ⟨g, 0, none⟩ = some (.int .i64 k.f0) ∧ w8.cell? ⟨g, 1, none⟩ = some (.int .i64 k.f1) ∧ w8.cell? ⟨g, 2, none⟩ = some (.int .i64 k.f2) ∧ w8.cell? ⟨g, 3, none⟩ = some (.int .i64 k.f3) ∧ w8.cell? ⟨g, 4, none⟩ = some (.int .i64 k.f4) ∧ w8.cell? ⟨g, 5, none⟩ = some (.int .i64 k.f5) ∧ w8.cell? ⟨g, 6, none⟩ = some (.string k.f6) := ⟨(blk_cell HG8.out 0).trans rfl, (blk_cell HG8.out 1).trans rfl, (blk_cell HG8.out 2).trans rfl, (blk_cell HG8.out 3).trans rfl, (blk_cell HG8.out 4).trans rfl, (blk_cell HG8.out 5).trans rfl, (blk_cell HG8.out 6).trans rfl⟩; have HB8 := Lib.hid (below_step HB7.out hb8)) | (go_at_call 15; refine (HRG.out _).mono ?_; rintro e w9 ⟨rfl, hb9⟩; have HG9 := Lib.hid ((hb9.block g (blk_lt HG8.out)).trans HG8.out); have hS9 : w9.cell? ⟨g, 0, none⟩ = some (.int .i64 k.f0) ∧ w9.cell? ⟨g, 1, none⟩ = some (.int .i64 k.f1) ∧ w9.cell? ⟨g, 2, none⟩ = some (.int .i64 k.f2) ∧ w9.cell? ⟨g, 3, none⟩ = some (.int .i64 k.f3) ∧ w9.cell? ⟨g, 4, none⟩ = some (.int .i64 k.f4) ∧ w9.cell? ⟨g, 5, none⟩ = some (.int .i64 k.f5) ∧ w9.cell? ⟨g, 6, none⟩ = some (.string k.f6) := ⟨(blk_cell HG9.out 0).trans rfl, (blk_cell HG9.out 1).trans rfl, (blk_cell HG9.out 2).trans rfl, (blk_cell HG9.out 3).trans rfl, (blk_cell HG9.out 4).trans rfl, (blk_cell HG9.out 5).trans rfl, (blk_cell HG9.out 6).trans rfl⟩; have HB9 := Lib.hid (below_step HB8.out hb9)) | (go_at_call 16; refine (HIN.out _).mono ?_; rintro e w10 ⟨rfl, hb10⟩; have HG10 := Lib.hid ((hb10.block g (blk_lt HG9.out)).trans HG9.out); have hS10 : w10.cell? ⟨g, 0, none⟩ = some (.int .i64 k.f0) ∧ w10.cell? ⟨g, 1, none⟩ = some (.int .i64 k.f1) ∧ w10.cell? ⟨g, 2, none⟩ = some (.int .i64 k.f2) ∧ w10.cell? ⟨g, 3, none⟩ = some (.int .i64 k.f3) ∧ w10.cell? ⟨g, 4, none⟩ = some (.int .i64 k.f4) ∧ w10.cell? ⟨g, 5, none⟩ = some (.int .i64 k.f5) ∧ w10.cell? ⟨g, 6, none⟩ = some (.string k.f6) := ⟨(blk_cell HG10.out 0).trans rfl, (blk_cell HG10.out 1).trans rfl, (blk_cell HG10.out 2).trans rfl, (blk_cell HG10.out 3).trans rfl, (blk_cell HG10.out 4).trans rfl, (blk_cell HG10.out 5).trans rfl, (blk_cell HG10.out 6).trans rfl⟩; have HB10 := Lib.hid (below_step HB9.out hb10)))) | fail
        go_wp2_with fail
        go_roundw
        case rel => exact ⟨i + 1, by omega, by go_num, Aside0.mk HB10.out⟩
        case measure => simp [intOf]; omega
      · have hin : decide (1 ≤ k.f0 ∧ k.f0 ≤ 6) = false := by simp; omega
        have hge : decide (1 ≤ k.f0) = false := by simp; omega
        simp only [hin] at HIN
        clear hin
        refine start_ (n := 19) (S := fun w' => w'.cell? ⟨g, 0, none⟩ = some (.int .i64 k.f0) ∧ w'.cell? ⟨g, 1, none⟩ = some (.int .i64 k.f1) ∧ w'.cell? ⟨g, 2, none⟩ = some (.int .i64 k.f2) ∧ w'.cell? ⟨g, 3, none⟩ = some (.int .i64 k.f3) ∧ w'.cell? ⟨g, 4, none⟩ = some (.int .i64 k.f4) ∧ w'.cell? ⟨g, 5, none⟩ = some (.int .i64 k.f5) ∧ w'.cell? ⟨g, 6, none⟩ = some (.string k.f6)) (ds := []) #[false, false, false, false, false, false, false, false, false, false, false, false, false, false, false, false, false, false, false] (by kernel_rfl) rfl rfl (by first | exact hS10 | exact hS9 | exact hS8 | exact hS7) (fun hHeld => ?_); refine with_tabW tabWri bitsWri (fun HT_ HW_ => ?_)
        refine take_ (i := 0) (N := some 34) (v := ?_) (a' := ?_) #[true, false, false, false, false, false, false, false, false, false, false, false, false, false, false, false, false, false, false] rfl rfl (take_ofW HT_.out HW_.out (by kernel_rfl)) (fun _ _ _ h => h) (Or.inl ⟨by rfl, ?_⟩) hHeld ?_ ?_
        rotate_left
        · rintro w' ⟨s0, s1, s2, s3, s4, s5, s6⟩
          go_simp
          with_reducible rfl
        rotate_left
        · simp only [Act.put, List.setIfInBounds_toArray, List.set_cons_zero, List.set_cons_succ, i64_w, i32_w]
          rfl
        refine take_ (i := 2) (N := some 36) (v := ?_) (a' := ?_) #[true, false, true, false, false, false, false, false, false, false, false, false, false, false, false, false, false, false, false] rfl rfl (take_ofW HT_.out HW_.out (by kernel_rfl)) (fun _ _ _ h => h) (Or.inl ⟨by rfl, ?_⟩) hHeld ?_ ?_
        rotate_left
        · rintro w' ⟨s0, s1, s2, s3, s4, s5, s6⟩
          go_simp
          with_reducible rfl
        rotate_left
        · simp only [Act.put, List.setIfInBounds_toArray, List.set_cons_zero, List.set_cons_succ, i64_w, i32_w]
          rfl
        refine one_ (i := 1) (N := some 35) #[true, true, true, false, false, false, false, false, false, false, false, false, false, false, false, false, false, false, false] rfl rfl (one_of HT_.out (by kernel_rfl)) (by decide) (fun K hK => ?_)
        refine goes_ Try.func14 (by kernel_rfl) rfl #[.agg #[.int .i64 k.f0, .int .i64 k.f1, .int .i64 k.f2, .int .i64 k.f3, .int .i64 k.f4, .int .i64 k.f5, .string k.f6]] (by rfl) rfl rfl (by (try simp only [List.map_toArray, List.map_cons, List.map_nil]); first | done | rfl) ?_
        refine (HRR.out _).mono ?_
        rintro e w8 ⟨rfl, hb8'⟩
        have hb8 := below_step hbd hb8'
        have HG8 := Lib.hid ((hb8.block g (blk_lt HG7.out)).trans HG7.out)
        have hS8 : w8.cell? ⟨g, 0, none⟩ = some (.int .i64 k.f0) ∧ w8.cell? ⟨g, 1, none⟩ = some (.int .i64 k.f1) ∧ w8.cell? ⟨g, 2, none⟩ = some (.int .i64 k.f2) ∧ w8.cell? ⟨g, 3, none⟩ = some (.int .i64 k.f3) ∧ w8.cell? ⟨g, 4, none⟩ = some (.int .i64 k.f4) ∧ w8.cell? ⟨g, 5, none⟩ = some (.int .i64 k.f5) ∧ w8.cell? ⟨g, 6, none⟩ = some (.string k.f6) := ⟨(blk_cell HG8.out 0).trans rfl, (blk_cell HG8.out 1).trans rfl, (blk_cell HG8.out 2).trans rfl, (blk_cell HG8.out 3).trans rfl, (blk_cell HG8.out 4).trans rfl, (blk_cell HG8.out 5).trans rfl, (blk_cell HG8.out 6).trans rfl⟩
        have HB8 := Lib.hid (below_step HB7.out hb8)
        refine ⟨_, rfl, ?_⟩
        refine hK.out _ _ (by first | exact hS10 | exact hS9 | exact hS8 | exact hS7) (fun hHeld => ?_)
        clear hK K
        refine norm_ (a' := ?_) ?_ ?_
        rotate_left
        · show Act.put _ (some 35) _ = _
          simp only [Act.put, List.setIfInBounds_toArray, List.set_cons_zero, List.set_cons_succ, i64_w, i32_w]
          rfl
        refine one_ (i := 3) (N := some 37) #[true, true, true, true, false, false, false, false, false, false, false, false, false, false, false, false, false, false, false] rfl rfl (one_of HT_.out (by kernel_rfl)) (by decide) (fun K hK => ?_)
        refine goes_ Try.func15 (by kernel_rfl) rfl #[.agg #[.int .i64 k.f0, .int .i64 k.f1, .int .i64 k.f2, .int .i64 k.f3, .int .i64 k.f4, .int .i64 k.f5, .string k.f6]] (by rfl) rfl rfl (by (try simp only [List.map_toArray, List.map_cons, List.map_nil]); first | done | rfl) ?_
        refine (HRG.out _).mono ?_
        rintro e w9 ⟨rfl, hb9⟩
        have HG9 := Lib.hid ((hb9.block g (blk_lt HG8.out)).trans HG8.out)
        have hS9 : w9.cell? ⟨g, 0, none⟩ = some (.int .i64 k.f0) ∧ w9.cell? ⟨g, 1, none⟩ = some (.int .i64 k.f1) ∧ w9.cell? ⟨g, 2, none⟩ = some (.int .i64 k.f2) ∧ w9.cell? ⟨g, 3, none⟩ = some (.int .i64 k.f3) ∧ w9.cell? ⟨g, 4, none⟩ = some (.int .i64 k.f4) ∧ w9.cell? ⟨g, 5, none⟩ = some (.int .i64 k.f5) ∧ w9.cell? ⟨g, 6, none⟩ = some (.string k.f6) := ⟨(blk_cell HG9.out 0).trans rfl, (blk_cell HG9.out 1).trans rfl, (blk_cell HG9.out 2).trans rfl, (blk_cell HG9.out 3).trans rfl, (blk_cell HG9.out 4).trans rfl, (blk_cell HG9.out 5).trans rfl, (blk_cell HG9.out 6).trans rfl⟩
        have HB9 := Lib.hid (below_step HB8.out hb9)
        refine ⟨_, rfl, ?_⟩
        refine hK.out _ _ (by first | exact hS10 | exact hS9 | exact hS8 | exact hS7) (fun hHeld => ?_)
        clear hK K
        refine norm_ (a' := ?_) ?_ ?_
        rotate_left
        · show Act.put _ (some 37) _ = _
          simp only [Act.put, List.setIfInBounds_toArray, List.set_cons_zero, List.set_cons_succ, i64_w, i32_w]
          rfl
        refine pure_ (i := 4) (N := some 38) (v := ?_) (a' := ?_) #[true, true, true, true, true, false, false, false, false, false, false, false, false, false, false, false, false, false, false] rfl rfl (any_of HT_.out (by kernel_rfl)) (fun _ _ _ h => h) (Or.inl ⟨by rfl, ?_⟩) ?_ ?_
        rotate_left
        · intro w'
          go_simp
          with_reducible rfl
        rotate_left
        · simp only [Act.put, List.setIfInBounds_toArray, List.set_cons_zero, List.set_cons_succ, i64_w, i32_w]
          rfl
        refine pure_ (i := 5) (N := some 39) (v := ?_) (a' := ?_) #[true, true, true, true, true, true, false, false, false, false, false, false, false, false, false, false, false, false, false] rfl rfl (any_of HT_.out (by kernel_rfl)) (fun _ _ _ h => h) (Or.inl ⟨by rfl, ?_⟩) ?_ ?_
        rotate_left
        · intro w'
          go_simp
          with_reducible rfl
        rotate_left
        · simp only [Act.put, List.setIfInBounds_toArray, List.set_cons_zero, List.set_cons_succ, i64_w, i32_w]
          rfl
        refine pure_ (i := 6) (N := some 40) (v := ?_) (a' := ?_) #[true, true, true, true, true, true, true, false, false, false, false, false, false, false, false, false, false, false, false] rfl rfl (any_of HT_.out (by kernel_rfl)) (fun _ _ _ h => h) (Or.inl ⟨by rfl, ?_⟩) ?_ ?_
        rotate_left
        · intro w'
          go_simp
          with_reducible rfl
        rotate_left
        · simp only [Act.put, List.setIfInBounds_toArray, List.set_cons_zero, List.set_cons_succ, i64_w, i32_w]
          rfl
        refine take_ (i := 7) (N := some 41) (v := ?_) (a' := ?_) #[true, true, true, true, true, true, true, true, false, false, false, false, false, false, false, false, false, false, false] rfl rfl (take_ofW HT_.out HW_.out (by kernel_rfl)) (fun _ _ _ h => h) (Or.inl ⟨by rfl, ?_⟩) hHeld ?_ ?_
        rotate_left
        · rintro w' ⟨s0, s1, s2, s3, s4, s5, s6⟩
          go_simp
          with_reducible rfl
        rotate_left
        · simp only [Act.put, List.setIfInBounds_toArray, List.set_cons_zero, List.set_cons_succ, i64_w, i32_w]
          rfl
        refine pure_ (i := 9) (N := some 43) (v := ?_) (a' := ?_) #[true, true, true, true, true, true, true, true, false, true, false, false, false, false, false, false, false, false, false] rfl rfl (any_of HT_.out (by kernel_rfl)) (fun _ _ _ h => h) (Or.inl ⟨by rfl, ?_⟩) ?_ ?_
        rotate_left
        · intro w'
          go_simp
          with_reducible rfl
        rotate_left
        · simp only [Act.put, List.setIfInBounds_toArray, List.set_cons_zero, List.set_cons_succ, i64_w, i32_w]
          rfl
        refine take_ (i := 10) (N := some 44) (v := ?_) (a' := ?_) #[true, true, true, true, true, true, true, true, false, true, true, false, false, false, false, false, false, false, false] rfl rfl (take_ofW HT_.out HW_.out (by kernel_rfl)) (fun _ _ _ h => h) (Or.inl ⟨by rfl, ?_⟩) hHeld ?_ ?_
        rotate_left
        · rintro w' ⟨s0, s1, s2, s3, s4, s5, s6⟩
          go_simp
          with_reducible rfl
        rotate_left
        · simp only [Act.put, List.setIfInBounds_toArray, List.set_cons_zero, List.set_cons_succ, i64_w, i32_w]
          rfl
        refine pure_ (i := 11) (N := some 45) (v := ?_) (a' := ?_) #[true, true, true, true, true, true, true, true, false, true, true, true, false, false, false, false, false, false, false] rfl rfl (any_of HT_.out (by kernel_rfl)) (fun _ _ _ h => h) (Or.inl ⟨by rfl, ?_⟩) ?_ ?_
        rotate_left
        · intro w'
          go_simp
          with_reducible rfl
        rotate_left
        · simp only [Act.put, List.setIfInBounds_toArray, List.set_cons_zero, List.set_cons_succ, i64_w, i32_w]
          rfl
        refine one_ (i := 8) (N := some 42) #[true, true, true, true, true, true, true, true, true, true, true, true, false, false, false, false, false, false, false] rfl rfl (one_of HT_.out (by kernel_rfl)) (by decide) (fun K hK => ?_)
        refine goes_ Try.func16 (by kernel_rfl) rfl #[.int .i64 k.f0] (by rfl) rfl rfl (by (try simp only [List.map_toArray, List.map_cons, List.map_nil]); first | done | rfl) ?_
        refine (HIN.out _).mono ?_
        rintro e w10 ⟨rfl, hb10⟩
        have HG10 := Lib.hid ((hb10.block g (blk_lt HG9.out)).trans HG9.out)
        have hS10 : w10.cell? ⟨g, 0, none⟩ = some (.int .i64 k.f0) ∧ w10.cell? ⟨g, 1, none⟩ = some (.int .i64 k.f1) ∧ w10.cell? ⟨g, 2, none⟩ = some (.int .i64 k.f2) ∧ w10.cell? ⟨g, 3, none⟩ = some (.int .i64 k.f3) ∧ w10.cell? ⟨g, 4, none⟩ = some (.int .i64 k.f4) ∧ w10.cell? ⟨g, 5, none⟩ = some (.int .i64 k.f5) ∧ w10.cell? ⟨g, 6, none⟩ = some (.string k.f6) := ⟨(blk_cell HG10.out 0).trans rfl, (blk_cell HG10.out 1).trans rfl, (blk_cell HG10.out 2).trans rfl, (blk_cell HG10.out 3).trans rfl, (blk_cell HG10.out 4).trans rfl, (blk_cell HG10.out 5).trans rfl, (blk_cell HG10.out 6).trans rfl⟩
        have HB10 := Lib.hid (below_step HB9.out hb10)
        refine ⟨_, rfl, ?_⟩
        refine hK.out _ _ (by first | exact hS10 | exact hS9 | exact hS8 | exact hS7) (fun hHeld => ?_)
        clear hK K
        refine norm_ (a' := ?_) ?_ ?_
        rotate_left
        · show Act.put _ (some 42) _ = _
          simp only [Act.put, List.setIfInBounds_toArray, List.set_cons_zero, List.set_cons_succ, i64_w, i32_w]
          rfl
        refine pure_ (i := 12) (N := some 46) (v := ?_) (a' := ?_) #[true, true, true, true, true, true, true, true, true, true, true, true, true, false, false, false, false, false, false] rfl rfl (any_of HT_.out (by kernel_rfl)) (fun _ _ _ h => h) (Or.inl ⟨by rfl, ?_⟩) ?_ ?_
        rotate_left
        · intro w'
          go_simp
          with_reducible rfl
        rotate_left
        · simp only [Act.put, List.setIfInBounds_toArray, List.set_cons_zero, List.set_cons_succ, i64_w, i32_w]
          rfl
        refine pure_ (i := 13) (N := some 47) (v := undef) (a' := ?_) #[true, true, true, true, true, true, true, true, true, true, true, true, true, true, false, false, false, false, false] rfl rfl (any_of HT_.out (by kernel_rfl)) (fun _ _ _ h => h) (Or.inr ⟨by rfl, rfl⟩) ?_ ?_
        rotate_left
        · simp only [Act.put, List.setIfInBounds_toArray, List.set_cons_zero, List.set_cons_succ, i64_w, i32_w]
          rfl
        refine pure_ (i := 14) (N := some 48) (v := undef) (a' := ?_) #[true, true, true, true, true, true, true, true, true, true, true, true, true, true, true, false, false, false, false] rfl rfl (any_of HT_.out (by kernel_rfl)) (fun _ _ _ h => h) (Or.inr ⟨by rfl, rfl⟩) ?_ ?_
        rotate_left
        · simp only [Act.put, List.setIfInBounds_toArray, List.set_cons_zero, List.set_cons_succ, i64_w, i32_w]
          rfl
        refine pure_ (i := 15) (N := some 49) (v := undef) (a' := ?_) #[true, true, true, true, true, true, true, true, true, true, true, true, true, true, true, true, false, false, false] rfl rfl (any_of HT_.out (by kernel_rfl)) (fun _ _ _ h => h) (Or.inr ⟨by rfl, rfl⟩) ?_ ?_
        rotate_left
        · simp only [Act.put, List.setIfInBounds_toArray, List.set_cons_zero, List.set_cons_succ, i64_w, i32_w]
          rfl
        refine pure_ (i := 16) (N := some 50) (v := ?_) (a' := ?_) #[true, true, true, true, true, true, true, true, true, true, true, true, true, true, true, true, true, false, false] rfl rfl (any_of HT_.out (by kernel_rfl)) (fun _ _ _ h => h) (Or.inl ⟨by rfl, ?_⟩) ?_ ?_
        rotate_left
        · intro w'
          go_simp
          with_reducible rfl
        rotate_left
        · simp only [Act.put, List.setIfInBounds_toArray, List.set_cons_zero, List.set_cons_succ, i64_w, i32_w]
          rfl
        refine pure_ (i := 17) (N := some 51) (v := ?_) (a' := ?_) #[true, true, true, true, true, true, true, true, true, true, true, true, true, true, true, true, true, true, false] rfl rfl (any_of HT_.out (by kernel_rfl)) (fun _ _ _ h => h) (Or.inl ⟨by rfl, ?_⟩) ?_ ?_
        rotate_left
        · intro w'
          go_simp
          with_reducible rfl
        rotate_left
        · simp only [Act.put, List.setIfInBounds_toArray, List.set_cons_zero, List.set_cons_succ, i64_w, i32_w]
          rfl
        refine pure_ (i := 18) (N := some 52) (v := ?_) (a' := ?_) #[true, true, true, true, true, true, true, true, true, true, true, true, true, true, true, true, true, true, true] rfl rfl (any_of HT_.out (by kernel_rfl)) (fun _ _ _ h => h) (Or.inl ⟨by rfl, ?_⟩) ?_ ?_
        rotate_left
        · intro w'
          go_simp
          with_reducible rfl
        rotate_left
        · simp only [Act.put, List.setIfInBounds_toArray, List.set_cons_zero, List.set_cons_succ, i64_w, i32_w]
          rfl
        refine done_ (done_of HT_.out (by kernel_rfl)) ?_
        go_wp2_with fail
        go_roundw
        case rel => exact ⟨i + 1, by omega, by go_num, Aside0.mk HB10.out⟩
        case measure => simp [intOf]; omega
    · have HC6 := Lib.hid (Kd.C_below HC5.out HBr.out)
      have HBC6 := Lib.hid (Kd.C_below HBC5.out HBr.out)
      have HB6 := Lib.hid (below_step HB5.out HBr.out)
      have hid : decide (i < l.length) = false := decide_eq_false hlt
      clear HC5 HBC5 HB5 HBr hi
      go_wp2_with fail
      refine (alive_calls wr).mono ?_
      rintro e w7 ⟨rfl, hb7⟩
      have HB7 := Lib.hid (below_step HB6.out hb7)
      have hs1 := Kd.C_string (P := Try.prog) (A := none) (c := 0) Try.underlying29 Try.underlying5 Try.underlying9 (Kd.C_below HBC6.out hb7)
      have he0 : strOfNums ([] : List Int) = ⟨#[]⟩ := rfl
      rw [he0] at hs1
      simp only [List.length_nil] at hs1
      clear hb7 HB6 HC6 HBC6
      go_wp2_with fail
      go_ret
      exact ⟨rfl, HB7.out⟩
set_option maxHeartbeats 16000000 in
set_option maxRecDepth 100000 in
theorem wri_good (s r d : Int) (A : Option Addr) (c : Nat) (l : List S39) (w : World) (hr : Kd.C k39 w A l.length l) (hc : l.length ≤ c) (hh : HeadOk s r d) (hf : fewB l = true) (hfo : FewOk l) (hall : l.all rightP = true) :
    Calls Try.prog 3 #[.agg #[.int .u64 s, .int .i64 r, .int .u32 d], .slice A l.length c] w fun e w' => e = .returned (.bool true) ∧ Below w.heap.size w w' := by
  have hin : inNum r = true := decide_eq_true hh.2.1
  have hfit : fitP r l = true := by
    unfold fitP
    rw [hin, hall, decide_eq_true (show l.length ≤ 4096 by have := hfo.1; omega)]
    rfl
  have hll : l.length ≤ 4096 := by have := hfo.1; omega
  have hle := few_enc (s := s) (r := r) (d := d) hfo hall
  have hby := bytes_wf (encP_wf hh hll hall)
  have HRE : Hid (chicaneref21_Encode.f 5000100 s r d l = some (strOfNums (encP s r d l), 0)) := Lib.hid ((encRef s r d l ⟨hh.1, hh.2.2⟩ hfo).trans (by unfold encR; rw [if_pos ⟨hfit, by omega⟩]))
  have hrd := readE_enc s r d l hh hll hall
  obtain ⟨B, hB⟩ : ∃ B, encP s r d l = B := ⟨_, rfl⟩
  rw [hB] at hrd hle hby HRE
  have HRD := Lib.hid hrd
  have HBY := Lib.hid hby
  clear hrd hby hh hall hin HRD HBY
  have hb1 := below_alloc (Below.refl w.heap.size w) (.cells #[.int .u64 s, .int .i64 r, .int .u32 d] 25 (0, 0))
  have hg1 := blk_new w (.cells #[.int .u64 s, .int .i64 r, .int .u32 d] 25 (0, 0))
  have hz1 := alloc_size w (.cells #[.int .u64 s, .int .i64 r, .int .u32 d] 25 (0, 0))
  obtain ⟨w1, hw1⟩ : ∃ w1, w.alloc (.cells #[.int .u64 s, .int .i64 r, .int .u32 d] 25 (0, 0)) = w1 := ⟨_, rfl⟩
  rw [hw1] at hb1 hg1 hz1
  obtain ⟨q, hq⟩ : ∃ q, w.heap.size = q := ⟨_, rfl⟩
  rw [hq] at hg1 hz1
  have hfw := few_calls A c l w1 (Kd.C_below hr hb1) hc (by have := hfo.1; omega)
  rw [hf] at hfw
  have HFW := Lib.hid hfw
  have HB1 := Lib.hid hb1
  have HG1 := Lib.hid hg1
  have HC1 := Lib.hid (Kd.C_below hr hb1)
  have henc := fun A3 c3 W (hW : Kd.C k39 W A3 l.length l) (h3 : l.length ≤ c3) => encode_good s r d A3 c3 l W hW h3 hfit (by rw [hB]; omega)
  simp only [hB] at henc
  have HENC := Lib.hid henc
  have HQ := Lib.hid hq
  have HW1 := Lib.hid hw1
  have HFO := Lib.hid hfo
  clear hfw hb1 hg1 hz1 hr hf henc hq hw1 hfo hfit
  go_enter Try.func3, Try.ntmps3
  go_wp2_with fail
  (try rw [HW1.out])
  (try rw [HQ.out])
  refine HFW.out.mono ?_
  rintro e w2 ⟨rfl, hb2⟩
  have hg2 := (hb2.block q (blk_lt HG1.out)).trans HG1.out
  have HG2 := Lib.hid hg2
  have HC2 := Lib.hid (Kd.C_below HC1.out hb2)
  have HB2 := Lib.hid (below_step HB1.out hb2)
  have hk0 : w2.cell? ⟨q, 0, none⟩ = some (.int .u64 s) := (blk_cell hg2 0).trans rfl
  have hk1 : w2.cell? ⟨q, 1, none⟩ = some (.int .i64 r) := (blk_cell hg2 1).trans rfl
  have hk2 : w2.cell? ⟨q, 2, none⟩ = some (.int .u32 d) := (blk_cell hg2 2).trans rfl
  have hS2 : w2.cell? ⟨q, 0, none⟩ = some (.int .u64 s) ∧ w2.cell? ⟨q, 1, none⟩ = some (.int .i64 r) ∧ w2.cell? ⟨q, 2, none⟩ = some (.int .u32 d) := ⟨hk0, hk1, hk2⟩
  have hbd := below_drew (Below.refl w2.heap.size w2)
  have HMADE := Lib.hid (made_good A c l w2.drew (Kd.C_drew HC2.out) hc (by have := HFO.out.1; omega))
  clear hb2 hg2 HG1 HC1 HB1 HFW
  go_wp2_with fail
  go_region_held3 (fun W => W.cell? ⟨q, 0, none⟩ = some (.int .u64 s) ∧ W.cell? ⟨q, 1, none⟩ = some (.int .i64 r) ∧ W.cell? ⟨q, 2, none⟩ = some (.int .u32 d)) (first | assumption | simp [*]) (first | (go_at_call 12; refine HMADE.out.mono ?_; rintro e w3 ⟨A3, c3, rfl, hl3, hC3, hb3'⟩; have hb3 := below_step hbd hb3'; have HG3 := Lib.hid ((hb3.block q (blk_lt HG2.out)).trans HG2.out); have HC3 := Lib.hid (Kd.C_below HC2.out hb3); have HB3 := Lib.hid (below_step HB2.out hb3); have hS3 : w3.cell? ⟨q, 0, none⟩ = some (.int .u64 s) ∧ w3.cell? ⟨q, 1, none⟩ = some (.int .i64 r) ∧ w3.cell? ⟨q, 2, none⟩ = some (.int .u32 d) := ⟨(blk_cell HG3.out 0).trans rfl, (blk_cell HG3.out 1).trans rfl, (blk_cell HG3.out 2).trans rfl⟩) | (go_at_call 11; refine (HENC.out A3 c3 w3 hC3 hl3).mono ?_; rintro e w4 ⟨A4, c4, rfl, hl4, hR4, hb4⟩; have HG4 := Lib.hid ((hb4.block q (blk_lt HG3.out)).trans HG3.out); have HC4 := Lib.hid (Kd.C_below HC3.out hb4); have HB4 := Lib.hid (below_step HB3.out hb4); have hS4 : w4.cell? ⟨q, 0, none⟩ = some (.int .u64 s) ∧ w4.cell? ⟨q, 1, none⟩ = some (.int .i64 r) ∧ w4.cell? ⟨q, 2, none⟩ = some (.int .u32 d) := ⟨(blk_cell HG4.out 0).trans rfl, (blk_cell HG4.out 1).trans rfl, (blk_cell HG4.out 2).trans rfl⟩))
  have HR4 := Lib.hid hR4
  clear hR4
  clear hk0 hk1 hk2 hS2 hS3 hS4 hb3 hb3' hb4 hbd hC3 HG2 HC2 HB2 HG3 HC3 HB3 HMADE HENC HW1 HQ
  have hq0 : w4.cell? ⟨q, 0, none⟩ = some (.int .u64 s) := (blk_cell HG4.out 0).trans rfl
  have hq1 : w4.cell? ⟨q, 1, none⟩ = some (.int .i64 r) := (blk_cell HG4.out 1).trans rfl
  have hq2 : w4.cell? ⟨q, 2, none⟩ = some (.int .u32 d) := (blk_cell HG4.out 2).trans rfl
  have HBC4 := Lib.hid (Kd.R_reads' HR4.out).2.2
  clear HR4
  have HRF := Lib.hid (chicaneref21_Encode.calls 5000100 s r d A c l (strOfNums B) 0 w4 HC4.out hc HRE.out)
  clear HRE
  go_wp2_with fail
  refine HRF.out.mono ?_
  rintro e w5 ⟨rfl, hb5⟩
  have HC5 := Lib.hid (Kd.C_below HC4.out hb5)
  have HBC5 := Lib.hid (Kd.C_below HBC4.out hb5)
  have HB5 := Lib.hid (below_step HB4.out hb5)
  clear hb5 HRF HG4 HC4 HBC4 HB4 hq0 hq1 hq2
  go_wp2_with fail
  go_loopw [30] (fun u30 wr => ∃ i : Nat, i ≤ l.length ∧ u30 = .int .i64 (i : Int) ∧ Aside0 (Below w5.heap.size w5 wr)) (fun u30 _ => l.length - (intOf u30).toNat)
  case atStart => exact ⟨0, Nat.zero_le _, rfl, Aside0.mk (Below.refl _ _)⟩
  case round =>
    obtain ⟨i, hi, rfl, HBr⟩ := hrel
    by_cases hlt : i < l.length
    · obtain ⟨w6, rfl⟩ : ∃ w6, w6 = wr := ⟨_, rfl⟩
      obtain ⟨ad, rfl, h0, h1, h2, h3, h4, h5, h6⟩ := at_T39 (Kd.C_below HC5.out HBr.out) (i : Int) (by omega) (by omega)
      simp only [Int.toNat_natCast] at h0 h1 h2 h3 h4 h5 h6
      obtain ⟨k, hk⟩ : ∃ k, rd_T39 l (i : Int) = k := ⟨_, rfl⟩
      rw [hk] at h0 h1 h2 h3 h4 h5 h6
      have hg7 := blk_new w6 (.cells #[.int .i64 k.f0, .int .i64 k.f1, .int .i64 k.f2, .int .i64 k.f3, .int .i64 k.f4, .int .i64 k.f5, .string k.f6] 39 (0, 0))
      have hb7 := below_alloc (Below.refl w6.heap.size w6) (.cells #[.int .i64 k.f0, .int .i64 k.f1, .int .i64 k.f2, .int .i64 k.f3, .int .i64 k.f4, .int .i64 k.f5, .string k.f6] 39 (0, 0))
      obtain ⟨w7, hw7⟩ : ∃ w7, w6.alloc (.cells #[.int .i64 k.f0, .int .i64 k.f1, .int .i64 k.f2, .int .i64 k.f3, .int .i64 k.f4, .int .i64 k.f5, .string k.f6] 39 (0, 0)) = w7 := ⟨_, rfl⟩
      obtain ⟨g, hg⟩ : ∃ g, w6.heap.size = g := ⟨_, rfl⟩
      rw [hw7] at hg7 hb7
      rw [hg] at hg7
      have HW7 := Lib.hid hw7
      have HGE := Lib.hid hg
      have HG7 := Lib.hid hg7
      have HB7 := Lib.hid (below_step HBr.out hb7)
      have hbd := below_drew (Below.refl w7.heap.size w7)
      have HRR := Lib.hid (fun W => right_calls k W)
      have HRG := Lib.hid (fun W => chicaneref21_Right.calls 1 k.f0 k.f1 k.f2 k.f3 k.f4 k.f5 k.f6 (rightP k) W (rightRef 0 k))
      obtain ⟨P, hP⟩ : ∃ P, rightP k = P := ⟨_, rfl⟩
      simp only [hP, recV] at HRR HRG
      have hPP : (P != P) = false := bne_self_eq_false _
      have hw1 : IntKind.i64.wrap ((i : Int) + 1) = ((i + 1 : Nat) : Int) := by rw [i64_w, wrap_of (by omega) (by have := HFO.out.1; omega)]; omega
      have hS7 : w7.cell? ⟨g, 0, none⟩ = some (.int .i64 k.f0) ∧ w7.cell? ⟨g, 1, none⟩ = some (.int .i64 k.f1) ∧ w7.cell? ⟨g, 2, none⟩ = some (.int .i64 k.f2) ∧ w7.cell? ⟨g, 3, none⟩ = some (.int .i64 k.f3) ∧ w7.cell? ⟨g, 4, none⟩ = some (.int .i64 k.f4) ∧ w7.cell? ⟨g, 5, none⟩ = some (.int .i64 k.f5) ∧ w7.cell? ⟨g, 6, none⟩ = some (.string k.f6) := ⟨(blk_cell HG7.out 0).trans rfl, (blk_cell HG7.out 1).trans rfl, (blk_cell HG7.out 2).trans rfl, (blk_cell HG7.out 3).trans rfl, (blk_cell HG7.out 4).trans rfl, (blk_cell HG7.out 5).trans rfl, (blk_cell HG7.out 6).trans rfl⟩
      clear hw7 hg hg7 hb7 hk hP
      go_wp2_with fail
      (try rw [HW7.out])
      (try rw [HGE.out])
      have HIN := Lib.hid (fun W => input_calls k.f0 W)
      by_cases hk1 : 1 ≤ k.f0
      by_cases hk6 : k.f0 ≤ 6
      · have hin : decide (1 ≤ k.f0 ∧ k.f0 ≤ 6) = true := by simp; omega
        have hge : decide (1 ≤ k.f0) = true := by simp; omega
        have hle6 : decide (k.f0 ≤ 6) = true := by simp; omega
        simp only [hin] at HIN
        clear hin
        first | (go_region_held3 (fun W => W.cell? ⟨g, 0, none⟩ = some (.int .i64 k.f0) ∧ W.cell? ⟨g, 1, none⟩ = some (.int .i64 k.f1) ∧ W.cell? ⟨g, 2, none⟩ = some (.int .i64 k.f2) ∧ W.cell? ⟨g, 3, none⟩ = some (.int .i64 k.f3) ∧ W.cell? ⟨g, 4, none⟩ = some (.int .i64 k.f4) ∧ W.cell? ⟨g, 5, none⟩ = some (.int .i64 k.f5) ∧ W.cell? ⟨g, 6, none⟩ = some (.string k.f6)) (first | assumption | simp [*]) (first | (go_at_call 14; refine (HRR.out _).mono ?_; rintro e w8 ⟨rfl, hb8'⟩; have hb8 := below_step hbd hb8'; have HG8 := Lib.hid ((hb8.block g (blk_lt HG7.out)).trans HG7.out); have hS8 : w8.cell? ⟨g, 0, none⟩ = some (.int .i64 k.f0) ∧ w8.cell? ⟨g, 1, none⟩ = some (.int .i64 k.f1) ∧ w8.cell? ⟨g, 2, none⟩ = some (.int .i64 k.f2) ∧ w8.cell? ⟨g, 3, none⟩ = some (.int .i64 k.f3) ∧ w8.cell? ⟨g, 4, none⟩ = some (.int .i64 k.f4) ∧ w8.cell? ⟨g, 5, none⟩ = some (.int .i64 k.f5) ∧ w8.cell? ⟨g, 6, none⟩ = some (.string k.f6) := ⟨(blk_cell HG8.out 0).trans rfl, (blk_cell HG8.out 1).trans rfl, (blk_cell HG8.out 2).trans rfl, (blk_cell HG8.out 3).trans rfl, (blk_cell HG8.out 4).trans rfl, (blk_cell HG8.out 5).trans rfl, (blk_cell HG8.out 6).trans rfl⟩; have HB8 := Lib.hid (below_step HB7.out hb8)) | (go_at_call 15; refine (HRG.out _).mono ?_; rintro e w9 ⟨rfl, hb9⟩; have HG9 := Lib.hid ((hb9.block g (blk_lt HG8.out)).trans HG8.out); have hS9 : w9.cell? ⟨g, 0, none⟩ = some (.int .i64 k.f0) ∧ w9.cell? ⟨g, 1, none⟩ = some (.int .i64 k.f1) ∧ w9.cell? ⟨g, 2, none⟩ = some (.int .i64 k.f2) ∧ w9.cell? ⟨g, 3, none⟩ = some (.int .i64 k.f3) ∧ w9.cell? ⟨g, 4, none⟩ = some (.int .i64 k.f4) ∧ w9.cell? ⟨g, 5, none⟩ = some (.int .i64 k.f5) ∧ w9.cell? ⟨g, 6, none⟩ = some (.string k.f6) := ⟨(blk_cell HG9.out 0).trans rfl, (blk_cell HG9.out 1).trans rfl, (blk_cell HG9.out 2).trans rfl, (blk_cell HG9.out 3).trans rfl, (blk_cell HG9.out 4).trans rfl, (blk_cell HG9.out 5).trans rfl, (blk_cell HG9.out 6).trans rfl⟩; have HB9 := Lib.hid (below_step HB8.out hb9)) | (go_at_call 16; refine (HIN.out _).mono ?_; rintro e w10 ⟨rfl, hb10⟩; have HG10 := Lib.hid ((hb10.block g (blk_lt HG9.out)).trans HG9.out); have hS10 : w10.cell? ⟨g, 0, none⟩ = some (.int .i64 k.f0) ∧ w10.cell? ⟨g, 1, none⟩ = some (.int .i64 k.f1) ∧ w10.cell? ⟨g, 2, none⟩ = some (.int .i64 k.f2) ∧ w10.cell? ⟨g, 3, none⟩ = some (.int .i64 k.f3) ∧ w10.cell? ⟨g, 4, none⟩ = some (.int .i64 k.f4) ∧ w10.cell? ⟨g, 5, none⟩ = some (.int .i64 k.f5) ∧ w10.cell? ⟨g, 6, none⟩ = some (.string k.f6) := ⟨(blk_cell HG10.out 0).trans rfl, (blk_cell HG10.out 1).trans rfl, (blk_cell HG10.out 2).trans rfl, (blk_cell HG10.out 3).trans rfl, (blk_cell HG10.out 4).trans rfl, (blk_cell HG10.out 5).trans rfl, (blk_cell HG10.out 6).trans rfl⟩; have HB10 := Lib.hid (below_step HB9.out hb10)))) | fail
        go_wp2_with fail
        go_roundw
        case rel => exact ⟨i + 1, by omega, by go_num, Aside0.mk HB10.out⟩
        case measure => simp [intOf]; omega
      · have hin : decide (1 ≤ k.f0 ∧ k.f0 ≤ 6) = false := by simp; omega
        have hge : decide (1 ≤ k.f0) = true := by simp; omega
        have hle6 : decide (k.f0 ≤ 6) = false := by simp; omega
        simp only [hin] at HIN
        clear hin
        first | (go_region_held3 (fun W => W.cell? ⟨g, 0, none⟩ = some (.int .i64 k.f0) ∧ W.cell? ⟨g, 1, none⟩ = some (.int .i64 k.f1) ∧ W.cell? ⟨g, 2, none⟩ = some (.int .i64 k.f2) ∧ W.cell? ⟨g, 3, none⟩ = some (.int .i64 k.f3) ∧ W.cell? ⟨g, 4, none⟩ = some (.int .i64 k.f4) ∧ W.cell? ⟨g, 5, none⟩ = some (.int .i64 k.f5) ∧ W.cell? ⟨g, 6, none⟩ = some (.string k.f6)) (first | assumption | simp [*]) (first | (go_at_call 14; refine (HRR.out _).mono ?_; rintro e w8 ⟨rfl, hb8'⟩; have hb8 := below_step hbd hb8'; have HG8 := Lib.hid ((hb8.block g (blk_lt HG7.out)).trans HG7.out); have hS8 : w8.cell? ⟨g, 0, none⟩ = some (.int .i64 k.f0) ∧ w8.cell? ⟨g, 1, none⟩ = some (.int .i64 k.f1) ∧ w8.cell? ⟨g, 2, none⟩ = some (.int .i64 k.f2) ∧ w8.cell? ⟨g, 3, none⟩ = some (.int .i64 k.f3) ∧ w8.cell? ⟨g, 4, none⟩ = some (.int .i64 k.f4) ∧ w8.cell? ⟨g, 5, none⟩ = some (.int .i64 k.f5) ∧ w8.cell? ⟨g, 6, none⟩ = some (.string k.f6) := ⟨(blk_cell HG8.out 0).trans rfl, (blk_cell HG8.out 1).trans rfl, (blk_cell HG8.out 2).trans rfl, (blk_cell HG8.out 3).trans rfl, (blk_cell HG8.out 4).trans rfl, (blk_cell HG8.out 5).trans rfl, (blk_cell HG8.out 6).trans rfl⟩; have HB8 := Lib.hid (below_step HB7.out hb8)) | (go_at_call 15; refine (HRG.out _).mono ?_; rintro e w9 ⟨rfl, hb9⟩; have HG9 := Lib.hid ((hb9.block g (blk_lt HG8.out)).trans HG8.out); have hS9 : w9.cell? ⟨g, 0, none⟩ = some (.int .i64 k.f0) ∧ w9.cell? ⟨g, 1, none⟩ = some (.int .i64 k.f1) ∧ w9.cell? ⟨g, 2, none⟩ = some (.int .i64 k.f2) ∧ w9.cell? ⟨g, 3, none⟩ = some (.int .i64 k.f3) ∧ w9.cell? ⟨g, 4, none⟩ = some (.int .i64 k.f4) ∧ w9.cell? ⟨g, 5, none⟩ = some (.int .i64 k.f5) ∧ w9.cell? ⟨g, 6, none⟩ = some (.string k.f6) := ⟨(blk_cell HG9.out 0).trans rfl, (blk_cell HG9.out 1).trans rfl, (blk_cell HG9.out 2).trans rfl, (blk_cell HG9.out 3).trans rfl, (blk_cell HG9.out 4).trans rfl, (blk_cell HG9.out 5).trans rfl, (blk_cell HG9.out 6).trans rfl⟩; have HB9 := Lib.hid (below_step HB8.out hb9)) | (go_at_call 16; refine (HIN.out _).mono ?_; rintro e w10 ⟨rfl, hb10⟩; have HG10 := Lib.hid ((hb10.block g (blk_lt HG9.out)).trans HG9.out); have hS10 : w10.cell? ⟨g, 0, none⟩ = some (.int .i64 k.f0) ∧ w10.cell? ⟨g, 1, none⟩ = some (.int .i64 k.f1) ∧ w10.cell? ⟨g, 2, none⟩ = some (.int .i64 k.f2) ∧ w10.cell? ⟨g, 3, none⟩ = some (.int .i64 k.f3) ∧ w10.cell? ⟨g, 4, none⟩ = some (.int .i64 k.f4) ∧ w10.cell? ⟨g, 5, none⟩ = some (.int .i64 k.f5) ∧ w10.cell? ⟨g, 6, none⟩ = some (.string k.f6) := ⟨(blk_cell HG10.out 0).trans rfl, (blk_cell HG10.out 1).trans rfl, (blk_cell HG10.out 2).trans rfl, (blk_cell HG10.out 3).trans rfl, (blk_cell HG10.out 4).trans rfl, (blk_cell HG10.out 5).trans rfl, (blk_cell HG10.out 6).trans rfl⟩; have HB10 := Lib.hid (below_step HB9.out hb10)))) | fail
        go_wp2_with fail
        go_roundw
        case rel => exact ⟨i + 1, by omega, by go_num, Aside0.mk HB10.out⟩
        case measure => simp [intOf]; omega
      · have hin : decide (1 ≤ k.f0 ∧ k.f0 ≤ 6) = false := by simp; omega
        have hge : decide (1 ≤ k.f0) = false := by simp; omega
        simp only [hin] at HIN
        clear hin
        refine start_ (n := 19) (S := fun w' => w'.cell? ⟨g, 0, none⟩ = some (.int .i64 k.f0) ∧ w'.cell? ⟨g, 1, none⟩ = some (.int .i64 k.f1) ∧ w'.cell? ⟨g, 2, none⟩ = some (.int .i64 k.f2) ∧ w'.cell? ⟨g, 3, none⟩ = some (.int .i64 k.f3) ∧ w'.cell? ⟨g, 4, none⟩ = some (.int .i64 k.f4) ∧ w'.cell? ⟨g, 5, none⟩ = some (.int .i64 k.f5) ∧ w'.cell? ⟨g, 6, none⟩ = some (.string k.f6)) (ds := []) #[false, false, false, false, false, false, false, false, false, false, false, false, false, false, false, false, false, false, false] (by kernel_rfl) rfl rfl (by first | exact hS10 | exact hS9 | exact hS8 | exact hS7) (fun hHeld => ?_); refine with_tabW tabWri bitsWri (fun HT_ HW_ => ?_)
        refine take_ (i := 0) (N := some 34) (v := ?_) (a' := ?_) #[true, false, false, false, false, false, false, false, false, false, false, false, false, false, false, false, false, false, false] rfl rfl (take_ofW HT_.out HW_.out (by kernel_rfl)) (fun _ _ _ h => h) (Or.inl ⟨by rfl, ?_⟩) hHeld ?_ ?_
        rotate_left
        · rintro w' ⟨s0, s1, s2, s3, s4, s5, s6⟩
          go_simp
          with_reducible rfl
        rotate_left
        · simp only [Act.put, List.setIfInBounds_toArray, List.set_cons_zero, List.set_cons_succ, i64_w, i32_w]
          rfl
        refine take_ (i := 2) (N := some 36) (v := ?_) (a' := ?_) #[true, false, true, false, false, false, false, false, false, false, false, false, false, false, false, false, false, false, false] rfl rfl (take_ofW HT_.out HW_.out (by kernel_rfl)) (fun _ _ _ h => h) (Or.inl ⟨by rfl, ?_⟩) hHeld ?_ ?_
        rotate_left
        · rintro w' ⟨s0, s1, s2, s3, s4, s5, s6⟩
          go_simp
          with_reducible rfl
        rotate_left
        · simp only [Act.put, List.setIfInBounds_toArray, List.set_cons_zero, List.set_cons_succ, i64_w, i32_w]
          rfl
        refine one_ (i := 1) (N := some 35) #[true, true, true, false, false, false, false, false, false, false, false, false, false, false, false, false, false, false, false] rfl rfl (one_of HT_.out (by kernel_rfl)) (by decide) (fun K hK => ?_)
        refine goes_ Try.func14 (by kernel_rfl) rfl #[.agg #[.int .i64 k.f0, .int .i64 k.f1, .int .i64 k.f2, .int .i64 k.f3, .int .i64 k.f4, .int .i64 k.f5, .string k.f6]] (by rfl) rfl rfl (by (try simp only [List.map_toArray, List.map_cons, List.map_nil]); first | done | rfl) ?_
        refine (HRR.out _).mono ?_
        rintro e w8 ⟨rfl, hb8'⟩
        have hb8 := below_step hbd hb8'
        have HG8 := Lib.hid ((hb8.block g (blk_lt HG7.out)).trans HG7.out)
        have hS8 : w8.cell? ⟨g, 0, none⟩ = some (.int .i64 k.f0) ∧ w8.cell? ⟨g, 1, none⟩ = some (.int .i64 k.f1) ∧ w8.cell? ⟨g, 2, none⟩ = some (.int .i64 k.f2) ∧ w8.cell? ⟨g, 3, none⟩ = some (.int .i64 k.f3) ∧ w8.cell? ⟨g, 4, none⟩ = some (.int .i64 k.f4) ∧ w8.cell? ⟨g, 5, none⟩ = some (.int .i64 k.f5) ∧ w8.cell? ⟨g, 6, none⟩ = some (.string k.f6) := ⟨(blk_cell HG8.out 0).trans rfl, (blk_cell HG8.out 1).trans rfl, (blk_cell HG8.out 2).trans rfl, (blk_cell HG8.out 3).trans rfl, (blk_cell HG8.out 4).trans rfl, (blk_cell HG8.out 5).trans rfl, (blk_cell HG8.out 6).trans rfl⟩
        have HB8 := Lib.hid (below_step HB7.out hb8)
        refine ⟨_, rfl, ?_⟩
        refine hK.out _ _ (by first | exact hS10 | exact hS9 | exact hS8 | exact hS7) (fun hHeld => ?_)
        clear hK K
        refine norm_ (a' := ?_) ?_ ?_
        rotate_left
        · show Act.put _ (some 35) _ = _
          simp only [Act.put, List.setIfInBounds_toArray, List.set_cons_zero, List.set_cons_succ, i64_w, i32_w]
          rfl
        refine one_ (i := 3) (N := some 37) #[true, true, true, true, false, false, false, false, false, false, false, false, false, false, false, false, false, false, false] rfl rfl (one_of HT_.out (by kernel_rfl)) (by decide) (fun K hK => ?_)
        refine goes_ Try.func15 (by kernel_rfl) rfl #[.agg #[.int .i64 k.f0, .int .i64 k.f1, .int .i64 k.f2, .int .i64 k.f3, .int .i64 k.f4, .int .i64 k.f5, .string k.f6]] (by rfl) rfl rfl (by (try simp only [List.map_toArray, List.map_cons, List.map_nil]); first | done | rfl) ?_
        refine (HRG.out _).mono ?_
        rintro e w9 ⟨rfl, hb9⟩
        have HG9 := Lib.hid ((hb9.block g (blk_lt HG8.out)).trans HG8.out)
        have hS9 : w9.cell? ⟨g, 0, none⟩ = some (.int .i64 k.f0) ∧ w9.cell? ⟨g, 1, none⟩ = some (.int .i64 k.f1) ∧ w9.cell? ⟨g, 2, none⟩ = some (.int .i64 k.f2) ∧ w9.cell? ⟨g, 3, none⟩ = some (.int .i64 k.f3) ∧ w9.cell? ⟨g, 4, none⟩ = some (.int .i64 k.f4) ∧ w9.cell? ⟨g, 5, none⟩ = some (.int .i64 k.f5) ∧ w9.cell? ⟨g, 6, none⟩ = some (.string k.f6) := ⟨(blk_cell HG9.out 0).trans rfl, (blk_cell HG9.out 1).trans rfl, (blk_cell HG9.out 2).trans rfl, (blk_cell HG9.out 3).trans rfl, (blk_cell HG9.out 4).trans rfl, (blk_cell HG9.out 5).trans rfl, (blk_cell HG9.out 6).trans rfl⟩
        have HB9 := Lib.hid (below_step HB8.out hb9)
        refine ⟨_, rfl, ?_⟩
        refine hK.out _ _ (by first | exact hS10 | exact hS9 | exact hS8 | exact hS7) (fun hHeld => ?_)
        clear hK K
        refine norm_ (a' := ?_) ?_ ?_
        rotate_left
        · show Act.put _ (some 37) _ = _
          simp only [Act.put, List.setIfInBounds_toArray, List.set_cons_zero, List.set_cons_succ, i64_w, i32_w]
          rfl
        refine pure_ (i := 4) (N := some 38) (v := ?_) (a' := ?_) #[true, true, true, true, true, false, false, false, false, false, false, false, false, false, false, false, false, false, false] rfl rfl (any_of HT_.out (by kernel_rfl)) (fun _ _ _ h => h) (Or.inl ⟨by rfl, ?_⟩) ?_ ?_
        rotate_left
        · intro w'
          go_simp
          with_reducible rfl
        rotate_left
        · simp only [Act.put, List.setIfInBounds_toArray, List.set_cons_zero, List.set_cons_succ, i64_w, i32_w]
          rfl
        refine pure_ (i := 5) (N := some 39) (v := ?_) (a' := ?_) #[true, true, true, true, true, true, false, false, false, false, false, false, false, false, false, false, false, false, false] rfl rfl (any_of HT_.out (by kernel_rfl)) (fun _ _ _ h => h) (Or.inl ⟨by rfl, ?_⟩) ?_ ?_
        rotate_left
        · intro w'
          go_simp
          with_reducible rfl
        rotate_left
        · simp only [Act.put, List.setIfInBounds_toArray, List.set_cons_zero, List.set_cons_succ, i64_w, i32_w]
          rfl
        refine pure_ (i := 6) (N := some 40) (v := ?_) (a' := ?_) #[true, true, true, true, true, true, true, false, false, false, false, false, false, false, false, false, false, false, false] rfl rfl (any_of HT_.out (by kernel_rfl)) (fun _ _ _ h => h) (Or.inl ⟨by rfl, ?_⟩) ?_ ?_
        rotate_left
        · intro w'
          go_simp
          with_reducible rfl
        rotate_left
        · simp only [Act.put, List.setIfInBounds_toArray, List.set_cons_zero, List.set_cons_succ, i64_w, i32_w]
          rfl
        refine take_ (i := 7) (N := some 41) (v := ?_) (a' := ?_) #[true, true, true, true, true, true, true, true, false, false, false, false, false, false, false, false, false, false, false] rfl rfl (take_ofW HT_.out HW_.out (by kernel_rfl)) (fun _ _ _ h => h) (Or.inl ⟨by rfl, ?_⟩) hHeld ?_ ?_
        rotate_left
        · rintro w' ⟨s0, s1, s2, s3, s4, s5, s6⟩
          go_simp
          with_reducible rfl
        rotate_left
        · simp only [Act.put, List.setIfInBounds_toArray, List.set_cons_zero, List.set_cons_succ, i64_w, i32_w]
          rfl
        refine pure_ (i := 9) (N := some 43) (v := ?_) (a' := ?_) #[true, true, true, true, true, true, true, true, false, true, false, false, false, false, false, false, false, false, false] rfl rfl (any_of HT_.out (by kernel_rfl)) (fun _ _ _ h => h) (Or.inl ⟨by rfl, ?_⟩) ?_ ?_
        rotate_left
        · intro w'
          go_simp
          with_reducible rfl
        rotate_left
        · simp only [Act.put, List.setIfInBounds_toArray, List.set_cons_zero, List.set_cons_succ, i64_w, i32_w]
          rfl
        refine take_ (i := 10) (N := some 44) (v := ?_) (a' := ?_) #[true, true, true, true, true, true, true, true, false, true, true, false, false, false, false, false, false, false, false] rfl rfl (take_ofW HT_.out HW_.out (by kernel_rfl)) (fun _ _ _ h => h) (Or.inl ⟨by rfl, ?_⟩) hHeld ?_ ?_
        rotate_left
        · rintro w' ⟨s0, s1, s2, s3, s4, s5, s6⟩
          go_simp
          with_reducible rfl
        rotate_left
        · simp only [Act.put, List.setIfInBounds_toArray, List.set_cons_zero, List.set_cons_succ, i64_w, i32_w]
          rfl
        refine pure_ (i := 11) (N := some 45) (v := ?_) (a' := ?_) #[true, true, true, true, true, true, true, true, false, true, true, true, false, false, false, false, false, false, false] rfl rfl (any_of HT_.out (by kernel_rfl)) (fun _ _ _ h => h) (Or.inl ⟨by rfl, ?_⟩) ?_ ?_
        rotate_left
        · intro w'
          go_simp
          with_reducible rfl
        rotate_left
        · simp only [Act.put, List.setIfInBounds_toArray, List.set_cons_zero, List.set_cons_succ, i64_w, i32_w]
          rfl
        refine one_ (i := 8) (N := some 42) #[true, true, true, true, true, true, true, true, true, true, true, true, false, false, false, false, false, false, false] rfl rfl (one_of HT_.out (by kernel_rfl)) (by decide) (fun K hK => ?_)
        refine goes_ Try.func16 (by kernel_rfl) rfl #[.int .i64 k.f0] (by rfl) rfl rfl (by (try simp only [List.map_toArray, List.map_cons, List.map_nil]); first | done | rfl) ?_
        refine (HIN.out _).mono ?_
        rintro e w10 ⟨rfl, hb10⟩
        have HG10 := Lib.hid ((hb10.block g (blk_lt HG9.out)).trans HG9.out)
        have hS10 : w10.cell? ⟨g, 0, none⟩ = some (.int .i64 k.f0) ∧ w10.cell? ⟨g, 1, none⟩ = some (.int .i64 k.f1) ∧ w10.cell? ⟨g, 2, none⟩ = some (.int .i64 k.f2) ∧ w10.cell? ⟨g, 3, none⟩ = some (.int .i64 k.f3) ∧ w10.cell? ⟨g, 4, none⟩ = some (.int .i64 k.f4) ∧ w10.cell? ⟨g, 5, none⟩ = some (.int .i64 k.f5) ∧ w10.cell? ⟨g, 6, none⟩ = some (.string k.f6) := ⟨(blk_cell HG10.out 0).trans rfl, (blk_cell HG10.out 1).trans rfl, (blk_cell HG10.out 2).trans rfl, (blk_cell HG10.out 3).trans rfl, (blk_cell HG10.out 4).trans rfl, (blk_cell HG10.out 5).trans rfl, (blk_cell HG10.out 6).trans rfl⟩
        have HB10 := Lib.hid (below_step HB9.out hb10)
        refine ⟨_, rfl, ?_⟩
        refine hK.out _ _ (by first | exact hS10 | exact hS9 | exact hS8 | exact hS7) (fun hHeld => ?_)
        clear hK K
        refine norm_ (a' := ?_) ?_ ?_
        rotate_left
        · show Act.put _ (some 42) _ = _
          simp only [Act.put, List.setIfInBounds_toArray, List.set_cons_zero, List.set_cons_succ, i64_w, i32_w]
          rfl
        refine pure_ (i := 12) (N := some 46) (v := ?_) (a' := ?_) #[true, true, true, true, true, true, true, true, true, true, true, true, true, false, false, false, false, false, false] rfl rfl (any_of HT_.out (by kernel_rfl)) (fun _ _ _ h => h) (Or.inl ⟨by rfl, ?_⟩) ?_ ?_
        rotate_left
        · intro w'
          go_simp
          with_reducible rfl
        rotate_left
        · simp only [Act.put, List.setIfInBounds_toArray, List.set_cons_zero, List.set_cons_succ, i64_w, i32_w]
          rfl
        refine pure_ (i := 13) (N := some 47) (v := undef) (a' := ?_) #[true, true, true, true, true, true, true, true, true, true, true, true, true, true, false, false, false, false, false] rfl rfl (any_of HT_.out (by kernel_rfl)) (fun _ _ _ h => h) (Or.inr ⟨by rfl, rfl⟩) ?_ ?_
        rotate_left
        · simp only [Act.put, List.setIfInBounds_toArray, List.set_cons_zero, List.set_cons_succ, i64_w, i32_w]
          rfl
        refine pure_ (i := 14) (N := some 48) (v := undef) (a' := ?_) #[true, true, true, true, true, true, true, true, true, true, true, true, true, true, true, false, false, false, false] rfl rfl (any_of HT_.out (by kernel_rfl)) (fun _ _ _ h => h) (Or.inr ⟨by rfl, rfl⟩) ?_ ?_
        rotate_left
        · simp only [Act.put, List.setIfInBounds_toArray, List.set_cons_zero, List.set_cons_succ, i64_w, i32_w]
          rfl
        refine pure_ (i := 15) (N := some 49) (v := undef) (a' := ?_) #[true, true, true, true, true, true, true, true, true, true, true, true, true, true, true, true, false, false, false] rfl rfl (any_of HT_.out (by kernel_rfl)) (fun _ _ _ h => h) (Or.inr ⟨by rfl, rfl⟩) ?_ ?_
        rotate_left
        · simp only [Act.put, List.setIfInBounds_toArray, List.set_cons_zero, List.set_cons_succ, i64_w, i32_w]
          rfl
        refine pure_ (i := 16) (N := some 50) (v := ?_) (a' := ?_) #[true, true, true, true, true, true, true, true, true, true, true, true, true, true, true, true, true, false, false] rfl rfl (any_of HT_.out (by kernel_rfl)) (fun _ _ _ h => h) (Or.inl ⟨by rfl, ?_⟩) ?_ ?_
        rotate_left
        · intro w'
          go_simp
          with_reducible rfl
        rotate_left
        · simp only [Act.put, List.setIfInBounds_toArray, List.set_cons_zero, List.set_cons_succ, i64_w, i32_w]
          rfl
        refine pure_ (i := 17) (N := some 51) (v := ?_) (a' := ?_) #[true, true, true, true, true, true, true, true, true, true, true, true, true, true, true, true, true, true, false] rfl rfl (any_of HT_.out (by kernel_rfl)) (fun _ _ _ h => h) (Or.inl ⟨by rfl, ?_⟩) ?_ ?_
        rotate_left
        · intro w'
          go_simp
          with_reducible rfl
        rotate_left
        · simp only [Act.put, List.setIfInBounds_toArray, List.set_cons_zero, List.set_cons_succ, i64_w, i32_w]
          rfl
        refine pure_ (i := 18) (N := some 52) (v := ?_) (a' := ?_) #[true, true, true, true, true, true, true, true, true, true, true, true, true, true, true, true, true, true, true] rfl rfl (any_of HT_.out (by kernel_rfl)) (fun _ _ _ h => h) (Or.inl ⟨by rfl, ?_⟩) ?_ ?_
        rotate_left
        · intro w'
          go_simp
          with_reducible rfl
        rotate_left
        · simp only [Act.put, List.setIfInBounds_toArray, List.set_cons_zero, List.set_cons_succ, i64_w, i32_w]
          rfl
        refine done_ (done_of HT_.out (by kernel_rfl)) ?_
        go_wp2_with fail
        go_roundw
        case rel => exact ⟨i + 1, by omega, by go_num, Aside0.mk HB10.out⟩
        case measure => simp [intOf]; omega
    · have HC6 := Lib.hid (Kd.C_below HC5.out HBr.out)
      have HBC6 := Lib.hid (Kd.C_below HBC5.out HBr.out)
      have HB6 := Lib.hid (below_step HB5.out HBr.out)
      have hid : decide (i < l.length) = false := decide_eq_false hlt
      clear HC5 HBC5 HB5 HBr hi
      go_wp2_with fail
      refine (alive_calls wr).mono ?_
      rintro e w7 ⟨rfl, hb7⟩
      have HB7 := Lib.hid (below_step HB6.out hb7)
      have hs1 := Kd.C_string (P := Try.prog) (A := A4) (c := c4) Try.underlying29 Try.underlying5 Try.underlying9 (Kd.C_below HBC6.out hb7)
      clear hb7 HB6 HC6 HBC6
      go_wp2_with fail
      go_ret
      exact ⟨rfl, HB7.out⟩
end Go.Proofs.Ytmklmpajcomimaa.Hand
end

section
/- The statement TraceWritesSaid: the law tells true for every input; no condition. -/
namespace Go.Proofs.Ytmklmpajcomimaa.traceWrites
open Go.ChangeShapes Go.WideShapes Go.ChangeAt Go.RowKit
open Go.ChangeMaps (open_string shut_string)
set_option linter.unusedVariables false
theorem own : ownKnob Try.prog.godebug = none := by kernel_rfl
theorem laidOut : laidOutB Try.prog = true := by kernel_rfl
theorem walk (w : World) (s0 r0 d0 : Int) (A1 : Option Addr) (c1 : Nat) (l1 : List PTraceWrites.S39) (ws0 : (Lit.int .u64 s0).wf = true) (wr0 : (Lit.int .i64 r0).wf = true) (wd0 : (Lit.int .u32 d0).wf = true) (w1 : Go.Proofs.YtmklmpajcomimaaW.PrintWords.Kd.C PTraceWrites.k39 w A1 l1.length l1) (y1 : l1.length ≤ c1) (z1 : ∀ o ∈ l1, o.f6.size ≤ 140737488355328) :
    Calls Try.prog 3 #[.agg #[.int .u64 s0, .int .i64 r0, .int .u32 d0], .slice A1 l1.length c1] w fun e w' => e = .returned (.bool true) ∧ Below w.heap.size w w' := by
  have hs := Hand.wf_u64 ws0
  have hd := Hand.wf_u32 wd0
  cases hf : Hand.fewB l1 with
  | false => exact Hand.wri_many s0 r0 d0 A1 c1 l1 w w1 y1 w1.2.1 hf
  | true =>
    have hfo := Hand.few_ok hf z1
    by_cases hfit : Hand.fitP r0 l1 = true ∧ (Hand.encP s0 r0 d0 l1).length ≤ 1048576
    · obtain ⟨hall, hh⟩ := Hand.fit_ok (s := s0) (d := d0) hfit.1 hs hd
      exact Hand.wri_good s0 r0 d0 A1 c1 l1 w w1 y1 hh hf hfo hall
    · exact Hand.wri_not s0 r0 d0 A1 c1 l1 w w1 y1 hf hfo hfit ⟨hs, hd⟩
set_option maxRecDepth 100000 in
theorem lifted (os : Os) (started : os.Started) (H : Type) (enc : TypeId × Value → H) :
    ReturnsInHanded {} Try.checked os 3 .any (Rows.traceWritesSpec.pre6 enc Try.prog Try.f3 Rows.traceWritesRow.domain false) (Rows.traceWritesSpec.post enc Try.prog Try.f3 false true false false) := by
  refine returnsInHanded_of_change_sized (C := Try.checked) own started (by kernel_rfl) Try.func3
    (ChangeSpec.witness6 (enc := enc) (C := Try.checked) false ⟨#[], #[.agg #[.int .u64 0, .int .i64 0, .int .u32 0], .slice none 0 0], []⟩ 8 (by kernel_rfl) (by kernel_rfl) (by kernel_rfl) (by kernel_rfl)) ?_
  intro W base args ds gs before hval0 hW hcnd hsz0 _
  have hsz : (DataW.weightsEach Try.prog (Try.f3.params.toList ++ Rows.traceWritesSpec.plain.varTypes Try.prog) (ds ++ gs)).all (· ≤ reachBytes) = true := hsz0
  have hval : ∀ (j : Nat) t v, Try.f3.params[j]? = some t → args[j]? = some v → Value.okWide Try.prog W .any base t v := hval0
  have hW' := hW
  obtain ⟨p, q, hA0, hV, rfl, hfz, hnd⟩ := hW
  have hA : DataW.TrodAll enc Try.prog W 0 (fun _ => true) true Try.f3.params.toList args.toList ds p := hA0
  rw [Try.params3] at hA hval hsz
  obtain ⟨v0, vs0, d0, ds0, p0, q0, hargs, rfl, rfl, h0, r0⟩ := trodAll_cons hA
  obtain ⟨v1, vs1, d1, ds1, p1, q1, rfl, rfl, rfl, h1, r1⟩ := trodAll_cons r0
  obtain ⟨rfl, rfl, rfl⟩ := trodAll_nil r1
  obtain rfl : args = #[v0, v1] := by cases args; simp_all
  obtain ⟨rfl, rfl⟩ := trodVars_none hV
  have k0 := h0
  have lt0 : ∀ x ∈ p0, x.block < W.heap.size := by obtain ⟨m, hm⟩ := k0; exact DataW.trod_lt m _ _ _ hm
  obtain ⟨hs0, hr0, hd0x, rfl, ws0, wr0, wd0⟩ := Hand.open_head (hval 0 25 v0 rfl rfl) h0
  obtain ⟨A1, len1, c1, rfl⟩ := okWide_slice Try.underlying26 (hval 1 26 v1 rfl rfl)
  have k1 := h1
  have lt1 : ∀ x ∈ p1, x.block < W.heap.size := by obtain ⟨m, hm⟩ := k1; exact DataW.trod_lt m _ _ _ hm
  obtain ⟨l1, hl1, y1, w1, hx1⟩ : ∃ l : List PTraceWrites.S39, l.length = len1 ∧ len1 ≤ c1 ∧ Go.Proofs.YtmklmpajcomimaaW.PrintWords.Kd.C PTraceWrites.k39 W A1 len1 l ∧ (len1 = 0 ∨ ∃ sp : List (DataW H), d1 = .slice (l.map Hand.recD) sp) := by
    obtain ⟨fuel, hf⟩ := h1
    exact Hand.open_recs hf
  have z1 : ∀ o ∈ l1, o.f6.size ≤ 140737488355328 := by
    rcases hx1 with h0 | ⟨sp, hd⟩
    · intro o ho
      rw [List.eq_nil_of_length_eq_zero (hl1.trans h0)] at ho
      cases ho
    · exact fun o ho => Hand.sized_rec hsz (j := 1) rfl (congrArg some hd) o ho
  subst hl1
  clear hA0 hval0 hsz0 hsz
  refine (walk W hs0 hr0 hd0x A1 c1 l1 ws0 wr0 wd0 w1 y1 z1).mono fun e W' ⟨he, bel⟩ => ?_
  subst he
  exact ⟨_, rfl, _, _, _, [], _, [], hW', trodAll_mk1 (shut_bool Try.underlying4 _), (trodAll_cons_mk (Below.trod laidOut (by kernel_rfl) (of_decide_eq_true (by kernel_rfl)) k0 bel lt0) (trodAll_cons_mk (Below.trod laidOut (by kernel_rfl) (of_decide_eq_true (by kernel_rfl)) k1 bel lt1) trodAll_mk0)), rfl, bel.frame _, fun h => by cases h⟩
theorem over : Rows.traceWritesRow.holds Try.pinned (OpenSpec.ofChange Rows.traceWritesSpec) :=
  OpenClaim.holds_of_wide 3 Try.f3 rfl rfl rfl rfl rfl rfl rfl ⟨rfl, rfl, rfl, rfl, rfl⟩ rfl rfl rfl rfl rfl (by kernel_rfl) Try.func3 (by kernel_rfl)
    (of_decide_eq_true (by kernel_rfl)) (by unfold Func.isWrapper; first | (rw [if_pos (by decide +kernel)]; kernel_rfl) | (rw [if_neg (by decide +kernel)]; exact ⟨rfl, rfl⟩))
    (fun os started H enc _ => lifted os started H enc)
theorem proved : Rows.TraceWritesSaid := over
#print axioms proved
end Go.Proofs.Ytmklmpajcomimaa.traceWrites
namespace Go.Proofs.Ytmklmpajcomimaa
/-- The row, under a short name, for the claim. -/
theorem traceWrites_holds : Rows.TraceWritesSaid := traceWrites.proved
end Go.Proofs.Ytmklmpajcomimaa
end
