import Derived.Test.YtmklmpajcomimaaZMath
import Derived.Test.YtmklmpajcomimaaZAlive
import Derived.Deep.RegionHeld3
import Derived.Test.YtmklmpajcomimaaRows
import Derived.WalkKit
import Derived.ProofKit
import Derived.OpenShut
import Derived.ShutString
import Derived.ChangeOld
import Derived.Below
import Derived.SizedLaws
import Derived.Test.YtmklmpajcomimaaYWSized
section
/- Bits turned one by one. No program in sight. -/
namespace Go.Proofs.Ytmklmpajcomimaa.Hand
open Go.RowKit Go.Proofs.YtmklmpajcomimaaW.PrintWords Go.Proofs.YtmklmpajcomimaaW.PrintLast Go.Proofs.YtmklmpajcomimaaW.PrintMore Go.Proofs.Ytmklmpajcomimaa.PTraceWrites Go.Proofs.Ytmklmpajcomimaa.CrcMath
set_option linter.unusedVariables false
set_option linter.unusedSimpArgs false
theorem shl_one (j : Nat) (hj : j ≤ 7) : shl .u8 1 (j : Int) = ((2 ^ j : Nat) : Int) := by
  have : j = 0 ∨ j = 1 ∨ j = 2 ∨ j = 3 ∨ j = 4 ∨ j = 5 ∨ j = 6 ∨ j = 7 := by omega
  rcases this with rfl | rfl | rfl | rfl | rfl | rfl | rfl | rfl <;> decide
theorem ofInt_two (j : Nat) (hj : j ≤ 7) : BitVec.ofInt 32 ((2 ^ j : Nat) : Int) = 1#32 <<< j := by
  have : j = 0 ∨ j = 1 ∨ j = 2 ∨ j = 3 ∨ j = 4 ∨ j = 5 ∨ j = 6 ∨ j = 7 := by omega
  rcases this with rfl | rfl | rfl | rfl | rfl | rfl | rfl | rfl <;> decide
theorem two_range (j : Nat) (hj : j ≤ 7) : 0 ≤ ((2 ^ j : Nat) : Int) ∧ ((2 ^ j : Nat) : Int) ≤ 255 := by
  have : j = 0 ∨ j = 1 ∨ j = 2 ∨ j = 3 ∨ j = 4 ∨ j = 5 ∨ j = 6 ∨ j = 7 := by omega
  rcases this with rfl | rfl | rfl | rfl | rfl | rfl | rfl | rfl <;> decide
theorem xor_byte (x y : Int) : 0 ≤ Go.bits .xor .u8 x y ∧ Go.bits .xor .u8 x y ≤ 255 := by
  simp only [Go.bits, IntKind.wrap_u8]
  omega
theorem wf_put {l : List Int} (h : Wf l) (i : Nat) {c : Int} (hc : 0 ≤ c ∧ c ≤ 255) : Wf (l.set i c) := by
  intro x hx
  rcases List.mem_or_eq_of_mem_set hx with h1 | h1
  · exact h x h1
  · rw [h1]; exact hc
theorem wordB_get (bs : List Bool) : ∀ i, i < 32 → (wordB bs).getLsbD i = bs.getD i false := by
  induction bs with
  | nil => intro i _; simp [wordB]
  | cons b bs ih =>
    intro i hi
    unfold wordB
    rw [BitVec.getLsbD_xor, BitVec.getLsbD_shiftLeft]
    cases i with
    | zero => cases b <;> simp [bitB]
    | succ i =>
      rw [show i + 1 - 1 = i by omega, ih i (by omega)]
      cases b <;> simp [bitB, BitVec.getLsbD_one, hi]
theorem bitsOf_get : ∀ (q : List Int) (j : Nat), j < 8 * q.length → (bitsOf q).getD j false = (bitsN 8 (q.getD (j / 8) 0)).getD (j % 8) false
  | [], j, h => by simp at h
  | a :: q, j, h => by
    rw [bitsOf_cons]
    by_cases hj : j < 8
    · rw [show j / 8 = 0 by omega, show j % 8 = j by omega, List.getD_eq_getElem?_getD, List.getElem?_append_left (by rw [bitsN_len]; exact hj), ← List.getD_eq_getElem?_getD]
      rfl
    · rw [List.getD_eq_getElem?_getD, List.getElem?_append_right (by rw [bitsN_len]; omega), ← List.getD_eq_getElem?_getD, bitsN_len, bitsOf_get q (j - 8) (by rw [List.length_cons] at h; omega)]
      obtain ⟨m, rfl⟩ : ∃ m, j = m + 8 := ⟨j - 8, by omega⟩
      rw [show m + 8 - 8 = m by omega, show (m + 8) / 8 = m / 8 + 1 by omega, show (m + 8) % 8 = m % 8 by omega]
      rfl
def bitAt (q : List Int) (j : Nat) : Bool := (bitsOf q).getD j false
theorem bitAt_is {q : List Int} (hw : Wf q) {j : Nat} (hj : j < 8 * q.length) : bitAt q j = (BitVec.ofInt 32 (q.getD (j / 8) 0)).getLsbD (j % 8) := by
  unfold bitAt
  rw [bitsOf_get q j hj, ← wordB_get _ _ (by omega), word_byte _ (wf_getD hw _)]
def flip (q : List Int) (i : Nat) : List Int := q.set (i / 8) (Go.bits .xor .u8 (q.getD (i / 8) 0) (shl .u8 1 ((i % 8 : Nat) : Int)))
theorem flip_wf {q : List Int} (hw : Wf q) (i : Nat) : Wf (flip q i) := wf_put hw _ (xor_byte _ _)
theorem flip_len (q : List Int) (i : Nat) : (flip q i).length = q.length := List.length_set
theorem flip_bit {q : List Int} (hw : Wf q) {i j : Nat} (hi : i < 8 * q.length) (hj : j < 8 * q.length) : bitAt (flip q i) j = (bitAt q j ^^ decide (j = i)) := by
  rw [bitAt_is (flip_wf hw i) (by rw [flip_len]; exact hj), bitAt_is hw hj]
  unfold flip
  by_cases he : i / 8 = j / 8
  · have hg : ∀ v : Int, (q.set (i / 8) v).getD (j / 8) 0 = v := fun v => by
      rw [← he, List.getD_eq_getElem?_getD, List.getElem?_set_self (by omega)]
      rfl
    rw [hg, shl_one _ (by omega), bits_u8' (wf_getD hw _) (two_range _ (by omega)), ofInt_two _ (by omega), BitVec.getLsbD_xor, he]
    congr 1
    rw [BitVec.getLsbD_shiftLeft, BitVec.getLsbD_one]
    by_cases hji : j = i
    · subst hji
      have : j % 8 < 32 := by omega
      simp [this]
    · have h1 : j % 8 ≠ i % 8 := by omega
      rw [decide_eq_false hji]
      by_cases h2 : j % 8 < i % 8
      · simp [h2]
      · have : ¬ (j % 8 - i % 8 = 0) := by omega
        simp [this]
  · have hg : ∀ v : Int, (q.set (i / 8) v).getD (j / 8) 0 = q.getD (j / 8) 0 := fun v => by
      rw [List.getD_eq_getElem?_getD, List.getElem?_set_ne he, ← List.getD_eq_getElem?_getD]
    rw [hg, decide_eq_false (fun h => he (by rw [h])), Bool.xor_false]
/-- q is B, some bits from at_ on turned, among the first k from there; t: is one? -/
structure Turned (B q : List Int) (at_ k : Nat) (t : Bool) : Prop where
  len : q.length = B.length
  wf : Wf q
  near : ∀ j, j < 8 * B.length → bitAt B j ≠ bitAt q j → at_ ≤ j ∧ j < at_ + k
  same : t = false → q = B
  some : t = true → ∃ j, j < 8 * B.length ∧ bitAt B j ≠ bitAt q j
theorem Turned.none {B : List Int} (h : Wf B) (at_ : Nat) : Turned B B at_ 0 false := ⟨rfl, h, fun j _ hn => absurd rfl hn, fun _ => rfl, fun h => by cases h⟩
theorem Turned.stay {B q : List Int} {at_ k : Nat} {t : Bool} (h : Turned B q at_ k t) : Turned B q at_ (k + 1) t :=
  ⟨h.len, h.wf, fun j hj hn => by have := h.near j hj hn; omega, h.same, h.some⟩
theorem Turned.flip {B q : List Int} {at_ k : Nat} {t : Bool} (h : Turned B q at_ k t) (hi : at_ + k < 8 * B.length) : Turned B (Hand.flip q (at_ + k)) at_ (k + 1) true := by
  have hl := h.len
  have hb : ∀ j, j < 8 * B.length → bitAt (Hand.flip q (at_ + k)) j = (bitAt q j ^^ decide (j = at_ + k)) := fun j hj => flip_bit h.wf (by omega) (by omega)
  refine ⟨(flip_len _ _).trans h.len, flip_wf h.wf _, fun j hj hn => ?_, fun h => (by cases h), fun _ => ⟨at_ + k, hi, ?_⟩⟩
  · by_cases hji : j = at_ + k
    · omega
    · rw [hb j hj, decide_eq_false hji, Bool.xor_false] at hn
      have := h.near j hj hn
      omega
  · rw [hb _ hi, decide_eq_true rfl]
    have : bitAt B (at_ + k) = bitAt q (at_ + k) := by
      by_cases he : bitAt B (at_ + k) = bitAt q (at_ + k)
      · exact he
      · have := h.near _ hi he
        omega
    rw [this]
    cases bitAt q (at_ + k) <;> decide
theorem Turned.bur {B q : List Int} {at_ : Nat} {t : Bool} (h : Turned B q at_ 32 t) : Bur B q := by
  refine ⟨h.len.symm, at_, fun i hi => ?_⟩
  by_cases hb : i < 8 * B.length
  · refine h.near i hb (fun he => hi ?_)
    unfold bitAt at he
    have h1 : i < (bitsOf B).length := by rw [bitsOf_len]; exact hb
    have h2 : i < (bitsOf q).length := by rw [bitsOf_len, h.len]; exact hb
    rw [List.getElem?_eq_getElem h1, List.getElem?_eq_getElem h2]
    rw [List.getD_eq_getElem?_getD, List.getD_eq_getElem?_getD, List.getElem?_eq_getElem h1, List.getElem?_eq_getElem h2] at he
    exact congrArg _ he
  · exact absurd (by rw [List.getElem?_eq_none (by rw [bitsOf_len]; omega), List.getElem?_eq_none (by rw [bitsOf_len, h.len]; omega)]) hi
theorem Turned.ne {B q : List Int} {at_ k : Nat} (h : Turned B q at_ k true) : q ≠ B := fun he => by
  obtain ⟨j, _, hn⟩ := h.some rfl
  exact hn (by rw [he])
end Go.Proofs.Ytmklmpajcomimaa.Hand
end

section
/- TraceBursts, walked. -/
namespace Go.Proofs.Ytmklmpajcomimaa.Hand
open Go.RowKit Go.Proofs.YtmklmpajcomimaaW.PrintWords Go.Proofs.YtmklmpajcomimaaW.PrintLast Go.Proofs.YtmklmpajcomimaaW.PrintMore Go.Proofs.Ytmklmpajcomimaa.PTraceWrites Go.Proofs.Ytmklmpajcomimaa.CrcMath
set_option linter.unusedVariables false
set_option linter.unusedSimpArgs false
attribute [local go_sem ↓] Go.wp_at_zero Go.wp_at_succ
def TBur : Bool × List (List Nat × List Nat) := (true, [([], []), ([], []), ([], []), ([1, 2], [1, 2]), ([3], [3]), ([0, 4], [0, 4]), ([5], [5]), ([], []), ([], []), ([7, 8], [7, 8]), ([9], [9]), ([10], [10]), ([6, 11], [6, 11]), ([0, 4, 0, 1, 2, 3, 4, 5, 6, 7, 8, 9, 10, 11, 12], [0, 4]), ([13, 12, 0, 1, 2, 3, 4, 5, 6, 7, 8, 9, 10, 11, 12], [12, 13])])
def BBur : List Nat := [0, 0, 0, 6, 14, 31, 63, 0, 0, 384, 896, 1920, 4095, 8191, 16383]
theorem tabBur : rtab .any (opsOf Try.f6 12) = TBur := by kernel_rfl
theorem bitsBur : waitsOk TBur.2 BBur = true := by kernel_rfl
set_option maxHeartbeats 16000000 in
set_option maxRecDepth 100000 in
theorem bur_many (s r d : Int) (A : Option Addr) (c : Nat) (l : List S39) (w : World) (x y : Int) (hr : Kd.C k39 w A l.length l) (hc : l.length ≤ c) (hl : l.length ≤ 9223372036854775807) (hf : fewB l = false) :
    Calls Try.prog 6 #[.agg #[.int .u64 s, .int .i64 r, .int .u32 d], .slice A l.length c, .agg #[.int .i64 x, .int .i64 y]] w fun e w' => e = .returned (.bool true) ∧ Below w.heap.size w w' := by
  have hb0 := below_alloc (Below.refl w.heap.size w) (.cells #[.int .u64 s, .int .i64 r, .int .u32 d] 25 (0, 0))
  have hb1 := below_alloc hb0 (.cells #[.int .i64 x, .int .i64 y] 52 (0, 0))
  have hg1 := blk_alloc (blk_new w (.cells #[.int .u64 s, .int .i64 r, .int .u32 d] 25 (0, 0))) (.cells #[.int .i64 x, .int .i64 y] 52 (0, 0))
  have ha1 := blk_new (w.alloc (.cells #[.int .u64 s, .int .i64 r, .int .u32 d] 25 (0, 0))) (.cells #[.int .i64 x, .int .i64 y] 52 (0, 0))
  rw [World.size_alloc] at ha1
  obtain ⟨w0, hw0⟩ : ∃ w0, w.alloc (.cells #[.int .u64 s, .int .i64 r, .int .u32 d] 25 (0, 0)) = w0 := ⟨_, rfl⟩
  rw [hw0] at hb1 hg1 ha1
  obtain ⟨w1, hw1⟩ : ∃ w1, w0.alloc (.cells #[.int .i64 x, .int .i64 y] 52 (0, 0)) = w1 := ⟨_, rfl⟩
  rw [hw1] at hb1 hg1 ha1
  obtain ⟨q2, hq2⟩ : ∃ q2, w.heap.size + 1 = q2 := ⟨_, rfl⟩
  rw [hq2] at ha1
  obtain ⟨q, hq⟩ : ∃ q, w.heap.size = q := ⟨_, rfl⟩
  rw [hq] at hg1
  have HW0 := Lib.hid hw0
  have HW1 := Lib.hid hw1
  have HQ2 := Lib.hid hq2
  have HQ := Lib.hid hq
  have hfw := few_calls A c l w1 (Kd.C_below hr hb1) hc hl
  rw [hf] at hfw
  have HFW := Lib.hid hfw
  have HB1 := Lib.hid hb1
  clear hfw hb0 hb1 hg1 ha1 hr hf hw0 hw1 hq2 hq
  go_enter Try.func6, Try.ntmps6
  go_wp2_with fail
  (try rw [HW0.out])
  (try rw [HW1.out])
  (try rw [HQ2.out])
  (try rw [HQ.out])
  refine HFW.out.mono ?_
  rintro e w2 ⟨rfl, hb2⟩
  have HB2 := Lib.hid (below_step HB1.out hb2)
  clear hb2 HB1 HFW
  go_wp2_with fail
  refine (alive_calls w2).mono ?_
  rintro e w3 ⟨rfl, hb3⟩
  have HB3 := Lib.hid (below_step HB2.out hb3)
  clear hb3 HB2
  go_wp2_with fail
  go_ret
  exact ⟨rfl, HB3.out⟩
set_option maxHeartbeats 16000000 in
set_option maxRecDepth 100000 in
theorem bur_not (s r d : Int) (A : Option Addr) (c : Nat) (l : List S39) (w : World) (x y : Int) (hr : Kd.C k39 w A l.length l) (hc : l.length ≤ c) (hf : fewB l = true) (hfo : FewOk l) (hfit : ¬ (fitP r l = true ∧ (encP s r d l).length ≤ 1048576)) :
    Calls Try.prog 6 #[.agg #[.int .u64 s, .int .i64 r, .int .u32 d], .slice A l.length c, .agg #[.int .i64 x, .int .i64 y]] w fun e w' => e = .returned (.bool true) ∧ Below w.heap.size w w' := by
  have hb0 := below_alloc (Below.refl w.heap.size w) (.cells #[.int .u64 s, .int .i64 r, .int .u32 d] 25 (0, 0))
  have hb1 := below_alloc hb0 (.cells #[.int .i64 x, .int .i64 y] 52 (0, 0))
  have hg1 := blk_alloc (blk_new w (.cells #[.int .u64 s, .int .i64 r, .int .u32 d] 25 (0, 0))) (.cells #[.int .i64 x, .int .i64 y] 52 (0, 0))
  have ha1 := blk_new (w.alloc (.cells #[.int .u64 s, .int .i64 r, .int .u32 d] 25 (0, 0))) (.cells #[.int .i64 x, .int .i64 y] 52 (0, 0))
  rw [World.size_alloc] at ha1
  obtain ⟨w0, hw0⟩ : ∃ w0, w.alloc (.cells #[.int .u64 s, .int .i64 r, .int .u32 d] 25 (0, 0)) = w0 := ⟨_, rfl⟩
  rw [hw0] at hb1 hg1 ha1
  obtain ⟨w1, hw1⟩ : ∃ w1, w0.alloc (.cells #[.int .i64 x, .int .i64 y] 52 (0, 0)) = w1 := ⟨_, rfl⟩
  rw [hw1] at hb1 hg1 ha1
  obtain ⟨q2, hq2⟩ : ∃ q2, w.heap.size + 1 = q2 := ⟨_, rfl⟩
  rw [hq2] at ha1
  obtain ⟨q, hq⟩ : ∃ q, w.heap.size = q := ⟨_, rfl⟩
  rw [hq] at hg1
  have HW0 := Lib.hid hw0
  have HW1 := Lib.hid hw1
  have HQ2 := Lib.hid hq2
  have HQ := Lib.hid hq
  have hfw := few_calls A c l w1 (Kd.C_below hr hb1) hc (by have := hfo.1; omega)
  rw [hf] at hfw
  have HFW := Lib.hid hfw
  have HB1 := Lib.hid hb1
  have HG1 := Lib.hid hg1
  have HA1 := Lib.hid ha1
  have HC1 := Lib.hid (Kd.C_below hr hb1)
  have henc := fun A3 c3 W (hW : Kd.C k39 W A3 l.length l) (h3 : l.length ≤ c3) => encode_not s r d A3 c3 l W hW h3 hfit
  have HENC := Lib.hid henc
  have HFO := Lib.hid hfo
  obtain ⟨tu, htu⟩ : ∃ tu, IntKind.u32.wrap y = tu := ⟨_, rfl⟩
  have hU32 := Try.underlying23
  clear hfw hb0 hb1 hg1 ha1 hr hf henc hq hq2 hw0 hw1 hfo hfit
  go_enter Try.func6, Try.ntmps6
  go_wp2_with fail
  (try rw [HW0.out])
  (try rw [HW1.out])
  (try rw [HQ2.out])
  (try rw [HQ.out])
  refine HFW.out.mono ?_
  rintro e wf ⟨rfl, hbf⟩
  have HGf := Lib.hid ((hbf.block q (blk_lt HG1.out)).trans HG1.out)
  have haf := (hbf.block q2 (blk_lt HA1.out)).trans HA1.out
  have HCf := Lib.hid (Kd.C_below HC1.out hbf)
  have HBf := Lib.hid (below_step HB1.out hbf)
  have hSf : (wf.cell? ⟨q2, 0, none⟩ = some (.int .i64 x) ∧ wf.cell? ⟨q2, 1, none⟩ = some (.int .i64 y)) := ⟨(blk_cell haf 0).trans rfl, (blk_cell haf 1).trans rfl⟩
  have hbdf := below_drew (Below.refl wf.heap.size wf)
  clear hbf haf HG1 HA1 HC1 HB1 HFW
  go_wp2_with fail
  go_region_held3 (fun W => (W.cell? ⟨q2, 0, none⟩ = some (.int .i64 x) ∧ W.cell? ⟨q2, 1, none⟩ = some (.int .i64 y))) (first | assumption | simp [*]) (fail)
  have HG2 := Lib.hid ((hbdf.block q (blk_lt HGf.out)).trans HGf.out)
  have HC2 := Lib.hid (Kd.C_below HCf.out hbdf)
  have HB2 := Lib.hid (below_step HBf.out hbdf)
  clear HGf HCf HBf hbdf hSf
  generalize wf.drew = w2 at HG2 HC2 HB2 ⊢
  have hS2 : w2.cell? ⟨q, 0, none⟩ = some (.int .u64 s) ∧ w2.cell? ⟨q, 1, none⟩ = some (.int .i64 r) ∧ w2.cell? ⟨q, 2, none⟩ = some (.int .u32 d) := ⟨(blk_cell HG2.out 0).trans rfl, (blk_cell HG2.out 1).trans rfl, (blk_cell HG2.out 2).trans rfl⟩
  have hbd := below_drew (Below.refl w2.heap.size w2)
  have HMADE := Lib.hid (made_good A c l w2.drew (Kd.C_drew HC2.out) hc (by have := HFO.out.1; omega))
  go_wp2_with fail
  go_region_held3 (fun W => W.cell? ⟨q, 0, none⟩ = some (.int .u64 s) ∧ W.cell? ⟨q, 1, none⟩ = some (.int .i64 r) ∧ W.cell? ⟨q, 2, none⟩ = some (.int .u32 d)) (first | assumption | simp [*]) (first | (go_at_call 12; refine HMADE.out.mono ?_; rintro e w3 ⟨A3, c3, rfl, hl3, hC3, hb3'⟩; have hb3 := below_step hbd hb3'; have HG3 := Lib.hid ((hb3.block q (blk_lt HG2.out)).trans HG2.out); have HC3 := Lib.hid (Kd.C_below HC2.out hb3); have HB3 := Lib.hid (below_step HB2.out hb3); have hS3 : w3.cell? ⟨q, 0, none⟩ = some (.int .u64 s) ∧ w3.cell? ⟨q, 1, none⟩ = some (.int .i64 r) ∧ w3.cell? ⟨q, 2, none⟩ = some (.int .u32 d) := ⟨(blk_cell HG3.out 0).trans rfl, (blk_cell HG3.out 1).trans rfl, (blk_cell HG3.out 2).trans rfl⟩) | (go_at_call 11; refine (HENC.out A3 c3 w3 hC3 hl3).mono ?_; rintro e w4 ⟨rfl, hb4⟩; have HG4 := Lib.hid ((hb4.block q (blk_lt HG3.out)).trans HG3.out); have HC4 := Lib.hid (Kd.C_below HC3.out hb4); have HB4 := Lib.hid (below_step HB3.out hb4); have hS4 : w4.cell? ⟨q, 0, none⟩ = some (.int .u64 s) ∧ w4.cell? ⟨q, 1, none⟩ = some (.int .i64 r) ∧ w4.cell? ⟨q, 2, none⟩ = some (.int .u32 d) := ⟨(blk_cell HG4.out 0).trans rfl, (blk_cell HG4.out 1).trans rfl, (blk_cell HG4.out 2).trans rfl⟩))
  clear hS2 hS3 hS4 hb3 hb3' hb4 hbd hC3 HG2 HC2 HB2 HG3 HC3 HB3 HMADE HENC HW0 HW1 HQ HQ2
  go_wp2_with fail
  refine (alive_calls w4).mono ?_
  rintro e w5 ⟨rfl, hb5⟩
  have HB5 := Lib.hid (below_step HB4.out hb5)
  clear hb5 HB4 HG4 HC4
  go_wp2_with fail
  go_ret
  exact ⟨rfl, HB5.out⟩
set_option maxHeartbeats 16000000 in
set_option maxRecDepth 100000 in
theorem bur_neg (s r d : Int) (A : Option Addr) (c : Nat) (l : List S39) (w : World) (x y : Int) (hr : Kd.C k39 w A l.length l) (hc : l.length ≤ c) (hh : HeadOk s r d) (hf : fewB l = true) (hfo : FewOk l) (hall : l.all rightP = true) (h0 : x < 0) :
    Calls Try.prog 6 #[.agg #[.int .u64 s, .int .i64 r, .int .u32 d], .slice A l.length c, .agg #[.int .i64 x, .int .i64 y]] w fun e w' => e = .returned (.bool true) ∧ Below w.heap.size w w' := by
  have hin : inNum r = true := decide_eq_true hh.2.1
  have hfit : fitP r l = true := by
    unfold fitP
    rw [hin, hall, decide_eq_true (show l.length ≤ 4096 by have := hfo.1; omega)]
    rfl
  have hll : l.length ≤ 4096 := by have := hfo.1; omega
  have hle := few_enc (s := s) (r := r) (d := d) hfo hall
  have hby := bytes_wf (encP_wf hh hll hall)
  have hrd := readE_enc s r d l hh hll hall
  obtain ⟨B, hB⟩ : ∃ B, encP s r d l = B := ⟨_, rfl⟩
  rw [hB] at hrd hle hby
  have HRD := Lib.hid hrd
  have HBY := Lib.hid hby
  clear hrd hby hh hall hin HRD HBY
  have hb0 := below_alloc (Below.refl w.heap.size w) (.cells #[.int .u64 s, .int .i64 r, .int .u32 d] 25 (0, 0))
  have hb1 := below_alloc hb0 (.cells #[.int .i64 x, .int .i64 y] 52 (0, 0))
  have hg1 := blk_alloc (blk_new w (.cells #[.int .u64 s, .int .i64 r, .int .u32 d] 25 (0, 0))) (.cells #[.int .i64 x, .int .i64 y] 52 (0, 0))
  have ha1 := blk_new (w.alloc (.cells #[.int .u64 s, .int .i64 r, .int .u32 d] 25 (0, 0))) (.cells #[.int .i64 x, .int .i64 y] 52 (0, 0))
  rw [World.size_alloc] at ha1
  obtain ⟨w0, hw0⟩ : ∃ w0, w.alloc (.cells #[.int .u64 s, .int .i64 r, .int .u32 d] 25 (0, 0)) = w0 := ⟨_, rfl⟩
  rw [hw0] at hb1 hg1 ha1
  obtain ⟨w1, hw1⟩ : ∃ w1, w0.alloc (.cells #[.int .i64 x, .int .i64 y] 52 (0, 0)) = w1 := ⟨_, rfl⟩
  rw [hw1] at hb1 hg1 ha1
  obtain ⟨q2, hq2⟩ : ∃ q2, w.heap.size + 1 = q2 := ⟨_, rfl⟩
  rw [hq2] at ha1
  obtain ⟨q, hq⟩ : ∃ q, w.heap.size = q := ⟨_, rfl⟩
  rw [hq] at hg1
  have HW0 := Lib.hid hw0
  have HW1 := Lib.hid hw1
  have HQ2 := Lib.hid hq2
  have HQ := Lib.hid hq
  have hfw := few_calls A c l w1 (Kd.C_below hr hb1) hc (by have := hfo.1; omega)
  rw [hf] at hfw
  have HFW := Lib.hid hfw
  have HB1 := Lib.hid hb1
  have HG1 := Lib.hid hg1
  have HA1 := Lib.hid ha1
  have HC1 := Lib.hid (Kd.C_below hr hb1)
  have henc := fun A3 c3 W (hW : Kd.C k39 W A3 l.length l) (h3 : l.length ≤ c3) => encode_good s r d A3 c3 l W hW h3 hfit (by rw [hB]; omega)
  simp only [hB] at henc
  have HENC := Lib.hid henc
  have HFO := Lib.hid hfo
  obtain ⟨tu, htu⟩ : ∃ tu, IntKind.u32.wrap y = tu := ⟨_, rfl⟩
  have hU32 := Try.underlying23
  clear hfw hb0 hb1 hg1 ha1 hr hf henc hq hq2 hw0 hw1 hfo hfit
  go_enter Try.func6, Try.ntmps6
  go_wp2_with fail
  (try rw [HW0.out])
  (try rw [HW1.out])
  (try rw [HQ2.out])
  (try rw [HQ.out])
  refine HFW.out.mono ?_
  rintro e wf ⟨rfl, hbf⟩
  have HGf := Lib.hid ((hbf.block q (blk_lt HG1.out)).trans HG1.out)
  have haf := (hbf.block q2 (blk_lt HA1.out)).trans HA1.out
  have HCf := Lib.hid (Kd.C_below HC1.out hbf)
  have HBf := Lib.hid (below_step HB1.out hbf)
  have hSf : (wf.cell? ⟨q2, 0, none⟩ = some (.int .i64 x) ∧ wf.cell? ⟨q2, 1, none⟩ = some (.int .i64 y)) := ⟨(blk_cell haf 0).trans rfl, (blk_cell haf 1).trans rfl⟩
  have hbdf := below_drew (Below.refl wf.heap.size wf)
  clear hbf haf HG1 HA1 HC1 HB1 HFW
  go_wp2_with fail
  go_region_held3 (fun W => (W.cell? ⟨q2, 0, none⟩ = some (.int .i64 x) ∧ W.cell? ⟨q2, 1, none⟩ = some (.int .i64 y))) (first | assumption | simp [*]) (fail)
  have HG2 := Lib.hid ((hbdf.block q (blk_lt HGf.out)).trans HGf.out)
  have HC2 := Lib.hid (Kd.C_below HCf.out hbdf)
  have HB2 := Lib.hid (below_step HBf.out hbdf)
  clear HGf HCf HBf hbdf hSf
  generalize wf.drew = w2 at HG2 HC2 HB2 ⊢
  have hS2 : w2.cell? ⟨q, 0, none⟩ = some (.int .u64 s) ∧ w2.cell? ⟨q, 1, none⟩ = some (.int .i64 r) ∧ w2.cell? ⟨q, 2, none⟩ = some (.int .u32 d) := ⟨(blk_cell HG2.out 0).trans rfl, (blk_cell HG2.out 1).trans rfl, (blk_cell HG2.out 2).trans rfl⟩
  have hbd := below_drew (Below.refl w2.heap.size w2)
  have HMADE := Lib.hid (made_good A c l w2.drew (Kd.C_drew HC2.out) hc (by have := HFO.out.1; omega))
  go_wp2_with fail
  go_region_held3 (fun W => W.cell? ⟨q, 0, none⟩ = some (.int .u64 s) ∧ W.cell? ⟨q, 1, none⟩ = some (.int .i64 r) ∧ W.cell? ⟨q, 2, none⟩ = some (.int .u32 d)) (first | assumption | simp [*]) (first | (go_at_call 12; refine HMADE.out.mono ?_; rintro e w3 ⟨A3, c3, rfl, hl3, hC3, hb3'⟩; have hb3 := below_step hbd hb3'; have HG3 := Lib.hid ((hb3.block q (blk_lt HG2.out)).trans HG2.out); have HC3 := Lib.hid (Kd.C_below HC2.out hb3); have HB3 := Lib.hid (below_step HB2.out hb3); have hS3 : w3.cell? ⟨q, 0, none⟩ = some (.int .u64 s) ∧ w3.cell? ⟨q, 1, none⟩ = some (.int .i64 r) ∧ w3.cell? ⟨q, 2, none⟩ = some (.int .u32 d) := ⟨(blk_cell HG3.out 0).trans rfl, (blk_cell HG3.out 1).trans rfl, (blk_cell HG3.out 2).trans rfl⟩) | (go_at_call 11; refine (HENC.out A3 c3 w3 hC3 hl3).mono ?_; rintro e w4 ⟨A4, c4, rfl, hl4, hR4, hb4⟩; have HG4 := Lib.hid ((hb4.block q (blk_lt HG3.out)).trans HG3.out); have HC4 := Lib.hid (Kd.C_below HC3.out hb4); have HB4 := Lib.hid (below_step HB3.out hb4); have hS4 : w4.cell? ⟨q, 0, none⟩ = some (.int .u64 s) ∧ w4.cell? ⟨q, 1, none⟩ = some (.int .i64 r) ∧ w4.cell? ⟨q, 2, none⟩ = some (.int .u32 d) := ⟨(blk_cell HG4.out 0).trans rfl, (blk_cell HG4.out 1).trans rfl, (blk_cell HG4.out 2).trans rfl⟩))
  have HR4 := Lib.hid (Kd.R_lower hR4 HB3.out.size)
  clear hR4
  clear hS2 hS3 hS4 hb3 hb3' hb4 hbd hC3 HG2 HC2 HB2 HG3 HC3 HB3 HMADE HENC HW0 HW1 HQ HQ2
  clear HR4
  go_wp2_with fail
  refine (alive_calls w4).mono ?_
  rintro e w5 ⟨rfl, hb5⟩
  have HB5 := Lib.hid (below_step HB4.out hb5)
  clear hb5 HB4 HG4 HC4
  go_wp2_with fail
  go_ret
  exact ⟨rfl, HB5.out⟩
set_option maxHeartbeats 16000000 in
set_option maxRecDepth 100000 in
theorem bur_far (s r d : Int) (A : Option Addr) (c : Nat) (l : List S39) (w : World) (x y : Int) (hr : Kd.C k39 w A l.length l) (hc : l.length ≤ c) (hh : HeadOk s r d) (hf : fewB l = true) (hfo : FewOk l) (hall : l.all rightP = true) (h0 : 0 ≤ x) (h1 : (8 * (encP s r d l).length : Int) ≤ x) :
    Calls Try.prog 6 #[.agg #[.int .u64 s, .int .i64 r, .int .u32 d], .slice A l.length c, .agg #[.int .i64 x, .int .i64 y]] w fun e w' => e = .returned (.bool true) ∧ Below w.heap.size w w' := by
  have hin : inNum r = true := decide_eq_true hh.2.1
  have hfit : fitP r l = true := by
    unfold fitP
    rw [hin, hall, decide_eq_true (show l.length ≤ 4096 by have := hfo.1; omega)]
    rfl
  have hll : l.length ≤ 4096 := by have := hfo.1; omega
  have hle := few_enc (s := s) (r := r) (d := d) hfo hall
  have hby := bytes_wf (encP_wf hh hll hall)
  have hrd := readE_enc s r d l hh hll hall
  obtain ⟨B, hB⟩ : ∃ B, encP s r d l = B := ⟨_, rfl⟩
  rw [hB] at hrd hle hby h1
  have HRD := Lib.hid hrd
  have HBY := Lib.hid hby
  clear hrd hby hh hall hin HRD HBY
  have hm0 : decide (x < 0) = false := decide_eq_false (by omega)
  have hw8 : IntKind.i64.wrap (8 * (B.length : Int)) = 8 * (B.length : Int) := by rw [i64_w]; exact wrap_of (by omega) (by omega)
  have hb0 := below_alloc (Below.refl w.heap.size w) (.cells #[.int .u64 s, .int .i64 r, .int .u32 d] 25 (0, 0))
  have hb1 := below_alloc hb0 (.cells #[.int .i64 x, .int .i64 y] 52 (0, 0))
  have hg1 := blk_alloc (blk_new w (.cells #[.int .u64 s, .int .i64 r, .int .u32 d] 25 (0, 0))) (.cells #[.int .i64 x, .int .i64 y] 52 (0, 0))
  have ha1 := blk_new (w.alloc (.cells #[.int .u64 s, .int .i64 r, .int .u32 d] 25 (0, 0))) (.cells #[.int .i64 x, .int .i64 y] 52 (0, 0))
  rw [World.size_alloc] at ha1
  obtain ⟨w0, hw0⟩ : ∃ w0, w.alloc (.cells #[.int .u64 s, .int .i64 r, .int .u32 d] 25 (0, 0)) = w0 := ⟨_, rfl⟩
  rw [hw0] at hb1 hg1 ha1
  obtain ⟨w1, hw1⟩ : ∃ w1, w0.alloc (.cells #[.int .i64 x, .int .i64 y] 52 (0, 0)) = w1 := ⟨_, rfl⟩
  rw [hw1] at hb1 hg1 ha1
  obtain ⟨q2, hq2⟩ : ∃ q2, w.heap.size + 1 = q2 := ⟨_, rfl⟩
  rw [hq2] at ha1
  obtain ⟨q, hq⟩ : ∃ q, w.heap.size = q := ⟨_, rfl⟩
  rw [hq] at hg1
  have HW0 := Lib.hid hw0
  have HW1 := Lib.hid hw1
  have HQ2 := Lib.hid hq2
  have HQ := Lib.hid hq
  have hfw := few_calls A c l w1 (Kd.C_below hr hb1) hc (by have := hfo.1; omega)
  rw [hf] at hfw
  have HFW := Lib.hid hfw
  have HB1 := Lib.hid hb1
  have HG1 := Lib.hid hg1
  have HA1 := Lib.hid ha1
  have HC1 := Lib.hid (Kd.C_below hr hb1)
  have henc := fun A3 c3 W (hW : Kd.C k39 W A3 l.length l) (h3 : l.length ≤ c3) => encode_good s r d A3 c3 l W hW h3 hfit (by rw [hB]; omega)
  simp only [hB] at henc
  have HENC := Lib.hid henc
  have HFO := Lib.hid hfo
  obtain ⟨tu, htu⟩ : ∃ tu, IntKind.u32.wrap y = tu := ⟨_, rfl⟩
  have hU32 := Try.underlying23
  clear hfw hb0 hb1 hg1 ha1 hr hf henc hq hq2 hw0 hw1 hfo hfit
  go_enter Try.func6, Try.ntmps6
  go_wp2_with fail
  (try rw [HW0.out])
  (try rw [HW1.out])
  (try rw [HQ2.out])
  (try rw [HQ.out])
  refine HFW.out.mono ?_
  rintro e wf ⟨rfl, hbf⟩
  have HGf := Lib.hid ((hbf.block q (blk_lt HG1.out)).trans HG1.out)
  have haf := (hbf.block q2 (blk_lt HA1.out)).trans HA1.out
  have HCf := Lib.hid (Kd.C_below HC1.out hbf)
  have HBf := Lib.hid (below_step HB1.out hbf)
  have hSf : (wf.cell? ⟨q2, 0, none⟩ = some (.int .i64 x) ∧ wf.cell? ⟨q2, 1, none⟩ = some (.int .i64 y)) := ⟨(blk_cell haf 0).trans rfl, (blk_cell haf 1).trans rfl⟩
  have hbdf := below_drew (Below.refl wf.heap.size wf)
  clear hbf haf HG1 HA1 HC1 HB1 HFW
  go_wp2_with fail
  go_region_held3 (fun W => (W.cell? ⟨q2, 0, none⟩ = some (.int .i64 x) ∧ W.cell? ⟨q2, 1, none⟩ = some (.int .i64 y))) (first | assumption | simp [*]) (fail)
  have HG2 := Lib.hid ((hbdf.block q (blk_lt HGf.out)).trans HGf.out)
  have HC2 := Lib.hid (Kd.C_below HCf.out hbdf)
  have HB2 := Lib.hid (below_step HBf.out hbdf)
  clear HGf HCf HBf hbdf hSf
  generalize wf.drew = w2 at HG2 HC2 HB2 ⊢
  have hS2 : w2.cell? ⟨q, 0, none⟩ = some (.int .u64 s) ∧ w2.cell? ⟨q, 1, none⟩ = some (.int .i64 r) ∧ w2.cell? ⟨q, 2, none⟩ = some (.int .u32 d) := ⟨(blk_cell HG2.out 0).trans rfl, (blk_cell HG2.out 1).trans rfl, (blk_cell HG2.out 2).trans rfl⟩
  have hbd := below_drew (Below.refl w2.heap.size w2)
  have HMADE := Lib.hid (made_good A c l w2.drew (Kd.C_drew HC2.out) hc (by have := HFO.out.1; omega))
  go_wp2_with fail
  go_region_held3 (fun W => W.cell? ⟨q, 0, none⟩ = some (.int .u64 s) ∧ W.cell? ⟨q, 1, none⟩ = some (.int .i64 r) ∧ W.cell? ⟨q, 2, none⟩ = some (.int .u32 d)) (first | assumption | simp [*]) (first | (go_at_call 12; refine HMADE.out.mono ?_; rintro e w3 ⟨A3, c3, rfl, hl3, hC3, hb3'⟩; have hb3 := below_step hbd hb3'; have HG3 := Lib.hid ((hb3.block q (blk_lt HG2.out)).trans HG2.out); have HC3 := Lib.hid (Kd.C_below HC2.out hb3); have HB3 := Lib.hid (below_step HB2.out hb3); have hS3 : w3.cell? ⟨q, 0, none⟩ = some (.int .u64 s) ∧ w3.cell? ⟨q, 1, none⟩ = some (.int .i64 r) ∧ w3.cell? ⟨q, 2, none⟩ = some (.int .u32 d) := ⟨(blk_cell HG3.out 0).trans rfl, (blk_cell HG3.out 1).trans rfl, (blk_cell HG3.out 2).trans rfl⟩) | (go_at_call 11; refine (HENC.out A3 c3 w3 hC3 hl3).mono ?_; rintro e w4 ⟨A4, c4, rfl, hl4, hR4, hb4⟩; have HG4 := Lib.hid ((hb4.block q (blk_lt HG3.out)).trans HG3.out); have HC4 := Lib.hid (Kd.C_below HC3.out hb4); have HB4 := Lib.hid (below_step HB3.out hb4); have hS4 : w4.cell? ⟨q, 0, none⟩ = some (.int .u64 s) ∧ w4.cell? ⟨q, 1, none⟩ = some (.int .i64 r) ∧ w4.cell? ⟨q, 2, none⟩ = some (.int .u32 d) := ⟨(blk_cell HG4.out 0).trans rfl, (blk_cell HG4.out 1).trans rfl, (blk_cell HG4.out 2).trans rfl⟩))
  have HR4 := Lib.hid (Kd.R_lower hR4 HB3.out.size)
  clear hR4
  clear hS2 hS3 hS4 hb3 hb3' hb4 hbd hC3 HG2 HC2 HB2 HG3 HC3 HB3 HMADE HENC HW0 HW1 HQ HQ2
  clear HR4
  go_wp2_with fail
  refine (alive_calls w4).mono ?_
  rintro e w5 ⟨rfl, hb5⟩
  have HB5 := Lib.hid (below_step HB4.out hb5)
  clear hb5 HB4 HG4 HC4
  go_wp2_with fail
  go_ret
  exact ⟨rfl, HB5.out⟩
set_option maxHeartbeats 16000000 in
set_option maxRecDepth 100000 in
theorem bur_good (s r d : Int) (A : Option Addr) (c : Nat) (l : List S39) (w : World) (at_ : Nat) (x y : Int) (hr : Kd.C k39 w A l.length l) (hc : l.length ≤ c) (hh : HeadOk s r d) (hf : fewB l = true) (hfo : FewOk l) (hall : l.all rightP = true) (h0 : x = (at_ : Int)) (h1 : at_ < 8 * (encP s r d l).length) :
    Calls Try.prog 6 #[.agg #[.int .u64 s, .int .i64 r, .int .u32 d], .slice A l.length c, .agg #[.int .i64 x, .int .i64 y]] w fun e w' => e = .returned (.bool true) ∧ Below w.heap.size w w' := by
  have hin : inNum r = true := decide_eq_true hh.2.1
  have hfit : fitP r l = true := by
    unfold fitP
    rw [hin, hall, decide_eq_true (show l.length ≤ 4096 by have := hfo.1; omega)]
    rfl
  have hll : l.length ≤ 4096 := by have := hfo.1; omega
  have hle := few_enc (s := s) (r := r) (d := d) hfo hall
  have hby := bytes_wf (encP_wf hh hll hall)
  have hwf := encP_wf hh hll hall
  have hbu : ∀ p : List Int, Wf p → Bur (encP s r d l) p → p ≠ encP s r d l → (readE p).2.2.2 = 211 := fun p hw hb hn => readE_burst hh hll hall hw hb hn
  have hrd := readE_enc s r d l hh hll hall
  obtain ⟨B, hB⟩ : ∃ B, encP s r d l = B := ⟨_, rfl⟩
  rw [hB] at hrd hle hby h1 hwf hbu
  have HRD := Lib.hid hrd
  have HBY := Lib.hid hby
  clear hrd hby hh hall hin
  have HBU := Lib.hid hbu
  have HWF := Lib.hid hwf
  have HX := Lib.hid h0
  have HAT := Lib.hid h1
  have HL0 := Lib.hid hr
  have HLE := Lib.hid hle
  have hm0 : decide (x < 0) = false := decide_eq_false (by omega)
  have hm1 : decide (8 * (B.length : Int) ≤ x) = false := decide_eq_false (by omega)
  have hw8 : IntKind.i64.wrap (8 * (B.length : Int)) = 8 * (B.length : Int) := by rw [i64_w]; exact wrap_of (by omega) (by omega)
  have hw9 : IntKind.i64.wrap (8 * (B.length : Int) - x) = 8 * (B.length : Int) - x := by rw [i64_w]; exact wrap_of (by omega) (by omega)
  clear hbu hwf h0 h1
  have hb0 := below_alloc (Below.refl w.heap.size w) (.cells #[.int .u64 s, .int .i64 r, .int .u32 d] 25 (0, 0))
  have hb1 := below_alloc hb0 (.cells #[.int .i64 x, .int .i64 y] 52 (0, 0))
  have hg1 := blk_alloc (blk_new w (.cells #[.int .u64 s, .int .i64 r, .int .u32 d] 25 (0, 0))) (.cells #[.int .i64 x, .int .i64 y] 52 (0, 0))
  have ha1 := blk_new (w.alloc (.cells #[.int .u64 s, .int .i64 r, .int .u32 d] 25 (0, 0))) (.cells #[.int .i64 x, .int .i64 y] 52 (0, 0))
  rw [World.size_alloc] at ha1
  obtain ⟨w0, hw0⟩ : ∃ w0, w.alloc (.cells #[.int .u64 s, .int .i64 r, .int .u32 d] 25 (0, 0)) = w0 := ⟨_, rfl⟩
  rw [hw0] at hb1 hg1 ha1
  obtain ⟨w1, hw1⟩ : ∃ w1, w0.alloc (.cells #[.int .i64 x, .int .i64 y] 52 (0, 0)) = w1 := ⟨_, rfl⟩
  rw [hw1] at hb1 hg1 ha1
  obtain ⟨q2, hq2⟩ : ∃ q2, w.heap.size + 1 = q2 := ⟨_, rfl⟩
  rw [hq2] at ha1
  obtain ⟨q, hq⟩ : ∃ q, w.heap.size = q := ⟨_, rfl⟩
  rw [hq] at hg1
  have HW0 := Lib.hid hw0
  have HW1 := Lib.hid hw1
  have HQ2 := Lib.hid hq2
  have HQ := Lib.hid hq
  have hfw := few_calls A c l w1 (Kd.C_below hr hb1) hc (by have := hfo.1; omega)
  rw [hf] at hfw
  have HFW := Lib.hid hfw
  have HB1 := Lib.hid hb1
  have HG1 := Lib.hid hg1
  have HA1 := Lib.hid ha1
  have HC1 := Lib.hid (Kd.C_below hr hb1)
  have henc := fun A3 c3 W (hW : Kd.C k39 W A3 l.length l) (h3 : l.length ≤ c3) => encode_good s r d A3 c3 l W hW h3 hfit (by rw [hB]; omega)
  simp only [hB] at henc
  have HENC := Lib.hid henc
  have HFO := Lib.hid hfo
  obtain ⟨tu, htu⟩ : ∃ tu, IntKind.u32.wrap y = tu := ⟨_, rfl⟩
  have hU32 := Try.underlying23
  clear hfw hb0 hb1 hg1 ha1 hr hf henc hq hq2 hw0 hw1 hfo hfit
  go_enter Try.func6, Try.ntmps6
  go_wp2_with fail
  (try rw [HW0.out])
  (try rw [HW1.out])
  (try rw [HQ2.out])
  (try rw [HQ.out])
  refine HFW.out.mono ?_
  rintro e wf ⟨rfl, hbf⟩
  have HGf := Lib.hid ((hbf.block q (blk_lt HG1.out)).trans HG1.out)
  have haf := (hbf.block q2 (blk_lt HA1.out)).trans HA1.out
  have HCf := Lib.hid (Kd.C_below HC1.out hbf)
  have HBf := Lib.hid (below_step HB1.out hbf)
  have hSf : (wf.cell? ⟨q2, 0, none⟩ = some (.int .i64 x) ∧ wf.cell? ⟨q2, 1, none⟩ = some (.int .i64 y)) := ⟨(blk_cell haf 0).trans rfl, (blk_cell haf 1).trans rfl⟩
  have hbdf := below_drew (Below.refl wf.heap.size wf)
  clear hbf haf HG1 HA1 HC1 HB1 HFW
  go_wp2_with fail
  go_region_held3 (fun W => (W.cell? ⟨q2, 0, none⟩ = some (.int .i64 x) ∧ W.cell? ⟨q2, 1, none⟩ = some (.int .i64 y))) (first | assumption | simp [*]) (fail)
  have HG2 := Lib.hid ((hbdf.block q (blk_lt HGf.out)).trans HGf.out)
  have HC2 := Lib.hid (Kd.C_below HCf.out hbdf)
  have HB2 := Lib.hid (below_step HBf.out hbdf)
  clear HGf HCf HBf hbdf hSf
  generalize wf.drew = w2 at HG2 HC2 HB2 ⊢
  have hS2 : w2.cell? ⟨q, 0, none⟩ = some (.int .u64 s) ∧ w2.cell? ⟨q, 1, none⟩ = some (.int .i64 r) ∧ w2.cell? ⟨q, 2, none⟩ = some (.int .u32 d) := ⟨(blk_cell HG2.out 0).trans rfl, (blk_cell HG2.out 1).trans rfl, (blk_cell HG2.out 2).trans rfl⟩
  have hbd := below_drew (Below.refl w2.heap.size w2)
  have HMADE := Lib.hid (made_good A c l w2.drew (Kd.C_drew HC2.out) hc (by have := HFO.out.1; omega))
  go_wp2_with fail
  go_region_held3 (fun W => W.cell? ⟨q, 0, none⟩ = some (.int .u64 s) ∧ W.cell? ⟨q, 1, none⟩ = some (.int .i64 r) ∧ W.cell? ⟨q, 2, none⟩ = some (.int .u32 d)) (first | assumption | simp [*]) (first | (go_at_call 12; refine HMADE.out.mono ?_; rintro e w3 ⟨A3, c3, rfl, hl3, hC3, hb3'⟩; have hb3 := below_step hbd hb3'; have HG3 := Lib.hid ((hb3.block q (blk_lt HG2.out)).trans HG2.out); have HC3 := Lib.hid (Kd.C_below HC2.out hb3); have HB3 := Lib.hid (below_step HB2.out hb3); have hS3 : w3.cell? ⟨q, 0, none⟩ = some (.int .u64 s) ∧ w3.cell? ⟨q, 1, none⟩ = some (.int .i64 r) ∧ w3.cell? ⟨q, 2, none⟩ = some (.int .u32 d) := ⟨(blk_cell HG3.out 0).trans rfl, (blk_cell HG3.out 1).trans rfl, (blk_cell HG3.out 2).trans rfl⟩) | (go_at_call 11; refine (HENC.out A3 c3 w3 hC3 hl3).mono ?_; rintro e w4 ⟨A4, c4, rfl, hl4, hR4, hb4⟩; have HG4 := Lib.hid ((hb4.block q (blk_lt HG3.out)).trans HG3.out); have HC4 := Lib.hid (Kd.C_below HC3.out hb4); have HB4 := Lib.hid (below_step HB3.out hb4); have hS4 : w4.cell? ⟨q, 0, none⟩ = some (.int .u64 s) ∧ w4.cell? ⟨q, 1, none⟩ = some (.int .i64 r) ∧ w4.cell? ⟨q, 2, none⟩ = some (.int .u32 d) := ⟨(blk_cell HG4.out 0).trans rfl, (blk_cell HG4.out 1).trans rfl, (blk_cell HG4.out 2).trans rfl⟩))
  have HR4 := Lib.hid (Kd.R_lower hR4 HB3.out.size)
  clear hR4
  clear hS2 hS3 hS4 hb3 hb3' hb4 hbd hC3 HG2 HC2 HB2 HG3 HC3 HB3 HMADE HENC HW0 HW1 HQ HQ2
  obtain ⟨go, co, eo, gb, gl, cl, hG⟩ := Kd.R_form HR4.out (by have := HAT.out; omega)
  injection eo with ea en ec
  subst ea
  subst ec
  have GB := Lib.hid gb
  clear en gb gl hG cl HG4 HC4
  go_wp2_with fail
  go_loopw [11, 47] (fun u11 u47 wr => ∃ (k : Nat) (p : List Int) (t : Bool), k ≤ 32 ∧ u11 = .bool t ∧ u47 = .int .i64 (k : Int) ∧ Hid (Turned B p at_ k t) ∧ Aside0 (Kd.R (Kd.int .u8) 5 wr w.heap.size (fun _ => True) (.slice (some ⟨go, 0, none⟩) B.length c4) p) ∧ Aside0 (Below w.heap.size w wr)) (fun _ u47 _ => 32 - (intOf u47).toNat)
  case atStart => exact ⟨0, B, false, by omega, rfl, rfl, Lib.hid (Turned.none HWF.out at_), Aside0.mk HR4.out, Aside0.mk HB4.out⟩
  case round =>
    obtain ⟨k, p, t, hk, rfl, rfl, HT, HRr, HBr⟩ := hrel
    clear HR4 HB4
    have hpl := HT.out.len
    have hwk : IntKind.i64.wrap ((k : Int) + 1) = ((k + 1 : Nat) : Int) := by rw [i64_w, wrap_of (by omega) (by omega)]; omega
    obtain ⟨kx, hkx⟩ : ∃ kx : Int, (k : Int) = kx := ⟨_, rfl⟩
    rw [hkx] at hwk ⊢
    obtain ⟨ky, hky⟩ : ∃ ky : Int, ((k + 1 : Nat) : Int) = ky := ⟨_, rfl⟩
    rw [hky] at hwk
    have hwk3 : Value.int .i64 ky = .int .i64 ((k + 1 : Nat) : Int) := by rw [hky]
    have HKX := Lib.hid hkx
    have HKY := Lib.hid hky
    have HWK3 := Lib.hid hwk3
    have HK := Lib.hid hk
    clear hwk3
    have HPL := Lib.hid hpl
    by_cases c20 : kx < 32
    · have c20b0 : decide (kx < 32) = true := decide_eq_true c20
      have C20 := Lib.hid c20
      have c21b0 : (0 ≤ kx) = True := eq_true (by omega)
      have c21b1 : decide (0 ≤ kx) = true := decide_eq_true (by omega)
      have hwa : IntKind.i64.wrap (x + kx) = x + kx := by rw [i64_w]; exact wrap_of (by have := HX.out; omega) (by have := HX.out; have := HAT.out; have := HLE.out; omega)
      clear hk hkx hky hpl
      obtain ⟨ji22, hji22⟩ : ∃ j_ : Int, (shr .u32 tu kx) = j_ := ⟨_, rfl⟩
      have hji22_ : (tu / 2 ^ min kx.toNat 32) = ji22 := hji22
      have hji22z : kx ≤ 32 → (tu / 2 ^ kx.toNat) = ji22 := shr_small hji22
      by_cases c23 : Go.bits .and .u32 ji22 1 = 1
      · have c23b0 : (Go.bits .and .u32 ji22 1 == 1) = true := beq_iff_eq.mpr c23
        have c23b1 : (Go.bits .and .u32 ji22 1 != 1) = false := bne_eq_false_iff_eq.mpr c23
        clear c23
        by_cases c24 : kx < 8 * (B.length : Int) - x
        · have c24b0 : decide (kx < 8 * (B.length : Int) - x) = true := decide_eq_true c24
          obtain ⟨HJ, hJ⟩ : ∃ m : Nat, m = at_ + k := ⟨_, rfl⟩
          have hmB : HJ < 8 * B.length := by have := HX.out; have := HKX.out; omega
          have hxm : x + kx = (HJ : Int) := by have := HX.out; have := HKX.out; omega
          have e2 : Int.tdiv (HJ : Int) 8 = ((HJ / 8 : Nat) : Int) := by rw [Int.tdiv_eq_ediv_of_nonneg (by omega)]; omega
          have e3 : Int.tmod (HJ : Int) 8 = ((HJ % 8 : Nat) : Int) := by rw [Int.tmod_eq_emod_of_nonneg (by omega)]; omega
          obtain ⟨ji25, hji25⟩ : ∃ j_ : Int, Int.tdiv (x + kx) 8 = j_ := ⟨_, rfl⟩
          obtain ⟨ji28, hji28⟩ : ∃ j_ : Int, Int.tmod (x + kx) 8 = j_ := ⟨_, rfl⟩
          have e4 : ji25 = ((HJ / 8 : Nat) : Int) := by rw [← hji25, hxm, e2]
          have e5 : ji28 = ((HJ % 8 : Nat) : Int) := by rw [← hji28, hxm, e3]
          have p31 : 0 ≤ ji25 := by omega
          have q31 : ji25 < (B.length : Int) := by omega
          have hji25w : IntKind.i64.wrap ji25 = ji25 := by rw [i64_w]; exact wrap_of (by omega) (by have := HLE.out; omega)
          have hji25v : wrap64 ji25 = ji25 := wrap_of (by omega) (by have := HLE.out; omega)
          have hwa' : wrap64 (x + kx) = x + kx := wrap_of (by omega) (by have := HLE.out; omega)
          have c26b0 : decide (0 ≤ ji25) = true := decide_eq_true p31
          have c27b0 : decide (ji25 < (B.length : Int)) = true := decide_eq_true q31
          have c29 : 0 ≤ ji28 := by omega
          have c29b0 := eq_true c29
          have c29b1 : decide (0 ≤ ji28) = true := decide_eq_true c29
          have hrdp : rd p ji25 = p.getD (HJ / 8) 0 := by rw [e4]; unfold rd; rw [Int.toNat_natCast]
          obtain ⟨ji30, hji30⟩ : ∃ j_ : Int, (shl .u8 1 ji28) = j_ := ⟨_, rfl⟩
          have hji30_ : (IntKind.u8.wrap (1 * 2 ^ min (ji28).toNat 8)) = ji30 := hji30
          have hji30z : (ji28) ≤ 8 → (IntKind.u8.wrap (1 * 2 ^ (ji28).toNat)) = ji30 := shl_small hji30
          have hji30u : (IntKind.u8.wrap (2 ^ min (ji28).toNat 8)) = ji30 := by have h_ := hji30_; rw [Int.one_mul] at h_; exact h_
          have hji30v : (ji28) ≤ 8 → (IntKind.u8.wrap (2 ^ (ji28).toNat)) = ji30 := fun hle_ => by have h_ := hji30z hle_; rw [Int.one_mul] at h_; exact h_
          obtain ⟨p2, hp2⟩ : ∃ p2, p.set ji25.toNat (Go.bits .xor .u8 (rd p ji25) ji30) = p2 := ⟨_, rfl⟩
          have HT2 : Hid (Turned B p2 at_ (k + 1) true) := Lib.hid (by
            have h := HT.out.flip (by rw [← hJ]; exact hmB)
            have e : Hand.flip p (at_ + k) = p2 := by
              rw [← hp2, hrdp, ← hji30, e5, e4, Int.toNat_natCast, ← hJ]
              rfl
            rw [e] at h
            exact h)
          have HP := Lib.hid hp2
          have HRd := Lib.hid (Kd.R_drew HRr.out)
          have HBd := Lib.hid (below_drew1 HBr.out)
          clear hrdp e2 e3 e4 e5 hmB hxm hJ c29 c24 hp2
          go_wp2_with fail
          obtain ⟨ad170, e170, hx170⟩ := Kd.at_int (Kd.R_reads' HRd.out).2.2 ji25 p31 (by rw [HPL.out]; exact q31)
          cases e170
          simp only [add_plain] at hx170
          obtain ⟨hx31, hf31⟩ := Kd.R_celln 0 HRd.out ji25 p31 q31
          replace p31 := eq_true p31
          replace q31 := eq_true q31
          have hp2' := Kd.R_putn HRd.out ji25 (Go.bits .xor .u8 (rd p ji25) ji30)
          rw [HP.out] at hp2'
          have HP2 := Lib.hid hp2'
          clear hp2'
          refine start_ (n := 15) (S := fun w' => w'.cell? ⟨go, ji25.toNat, none⟩ = some (.int .u8 (rd p ji25))) (ds := [14]) #[false, false, false, false, false, false, false, false, false, false, false, false, false, false, false] (by kernel_rfl) rfl rfl hx170 (fun hHeld => ?_); refine with_tabW tabBur bitsBur (fun HT_ HW_ => ?_)
          generalize wr.drew = w33 at HRd HBd HP2 hf31 hx170 hx31 hHeld ⊢
          refine pure_ (i := 0) (N := some 64) (v := ?_) (a' := ?_) #[true, false, false, false, false, false, false, false, false, false, false, false, false, false, false] rfl rfl (any_of HT_.out (by kernel_rfl)) (fun _ _ _ h => h) (Or.inl ⟨by rfl, ?_⟩) ?_ ?_
          rotate_left
          · intro w'
            go_simp
            with_reducible rfl
          rotate_left
          · simp only [Act.put, List.setIfInBounds_toArray, List.set_cons_zero, List.set_cons_succ, i64_w, i32_w]
            rfl
          refine pure_ (i := 1) (N := some 65) (v := ?_) (a' := ?_) #[true, true, false, false, false, false, false, false, false, false, false, false, false, false, false] rfl rfl (any_of HT_.out (by kernel_rfl)) (fun _ _ _ h => h) (Or.inl ⟨by rfl, ?_⟩) ?_ ?_
          rotate_left
          · intro w'
            go_simp
            with_reducible rfl
          rotate_left
          · simp only [Act.put, List.setIfInBounds_toArray, List.set_cons_zero, List.set_cons_succ, i64_w, i32_w]
            rfl
          refine pure_ (i := 2) (N := some 66) (v := ?_) (a' := ?_) #[true, true, true, false, false, false, false, false, false, false, false, false, false, false, false] rfl rfl (any_of HT_.out (by kernel_rfl)) (fun _ _ _ h => h) (Or.inl ⟨by rfl, ?_⟩) ?_ ?_
          rotate_left
          · intro w'
            go_simp
            with_reducible rfl
          rotate_left
          · simp only [Act.put, List.setIfInBounds_toArray, List.set_cons_zero, List.set_cons_succ, i64_w, i32_w]
            rfl
          refine pure_ (i := 3) (N := some 67) (v := ?_) (a' := ?_) #[true, true, true, true, false, false, false, false, false, false, false, false, false, false, false] rfl rfl (any_of HT_.out (by kernel_rfl)) (fun _ _ _ h => h) (Or.inl ⟨by rfl, ?_⟩) ?_ ?_
          rotate_left
          · intro w'
            go_simp
            with_reducible rfl
          rotate_left
          · simp only [Act.put, List.setIfInBounds_toArray, List.set_cons_zero, List.set_cons_succ, i64_w, i32_w]
            rfl
          refine pure_ (i := 4) (N := some 68) (v := ?_) (a' := ?_) #[true, true, true, true, true, false, false, false, false, false, false, false, false, false, false] rfl rfl (any_of HT_.out (by kernel_rfl)) (fun _ _ _ h => h) (Or.inl ⟨by rfl, ?_⟩) ?_ ?_
          rotate_left
          · intro w'
            go_simp
            with_reducible rfl
          rotate_left
          · simp only [Act.put, List.setIfInBounds_toArray, List.set_cons_zero, List.set_cons_succ, i64_w, i32_w]
            rfl
          refine pure_ (i := 5) (N := some 69) (v := ?_) (a' := ?_) #[true, true, true, true, true, true, false, false, false, false, false, false, false, false, false] rfl rfl (any_of HT_.out (by kernel_rfl)) (fun _ _ _ h => h) (Or.inl ⟨by rfl, ?_⟩) ?_ ?_
          rotate_left
          · intro w'
            go_simp
            with_reducible rfl
          rotate_left
          · simp only [Act.put, List.setIfInBounds_toArray, List.set_cons_zero, List.set_cons_succ, i64_w, i32_w]
            rfl
          refine take_ (i := 6) (N := some 70) (v := ?_) (a' := ?_) #[true, true, true, true, true, true, true, false, false, false, false, false, false, false, false] rfl rfl (take_ofW HT_.out HW_.out (by kernel_rfl)) (fun _ _ _ h => h) (Or.inl ⟨by rfl, ?_⟩) hHeld ?_ ?_
          rotate_left
          · rintro w' s0
            go_simp
            with_reducible rfl
          rotate_left
          · simp only [Act.put, List.setIfInBounds_toArray, List.set_cons_zero, List.set_cons_succ, i64_w, i32_w]
            rfl
          refine pure_ (i := 7) (N := some 71) (v := ?_) (a' := ?_) #[true, true, true, true, true, true, true, true, false, false, false, false, false, false, false] rfl rfl (any_of HT_.out (by kernel_rfl)) (fun _ _ _ h => h) (Or.inl ⟨by rfl, ?_⟩) ?_ ?_
          rotate_left
          · intro w'
            go_simp
            with_reducible rfl
          rotate_left
          · simp only [Act.put, List.setIfInBounds_toArray, List.set_cons_zero, List.set_cons_succ, i64_w, i32_w]
            rfl
          refine pure_ (i := 8) (N := some 72) (v := ?_) (a' := ?_) #[true, true, true, true, true, true, true, true, true, false, false, false, false, false, false] rfl rfl (any_of HT_.out (by kernel_rfl)) (fun _ _ _ h => h) (Or.inl ⟨by rfl, ?_⟩) ?_ ?_
          rotate_left
          · intro w'
            go_simp
            with_reducible rfl
          rotate_left
          · simp only [Act.put, List.setIfInBounds_toArray, List.set_cons_zero, List.set_cons_succ, i64_w, i32_w]
            rfl
          refine pure_ (i := 9) (N := some 73) (v := ?_) (a' := ?_) #[true, true, true, true, true, true, true, true, true, true, false, false, false, false, false] rfl rfl (any_of HT_.out (by kernel_rfl)) (fun _ _ _ h => h) (Or.inl ⟨by rfl, ?_⟩) ?_ ?_
          rotate_left
          · intro w'
            go_simp
            with_reducible rfl
          rotate_left
          · simp only [Act.put, List.setIfInBounds_toArray, List.set_cons_zero, List.set_cons_succ, i64_w, i32_w]
            rfl
          refine pure_ (i := 10) (N := some 74) (v := ?_) (a' := ?_) #[true, true, true, true, true, true, true, true, true, true, true, false, false, false, false] rfl rfl (any_of HT_.out (by kernel_rfl)) (fun _ _ _ h => h) (Or.inl ⟨by rfl, ?_⟩) ?_ ?_
          rotate_left
          · intro w'
            go_simp
            with_reducible rfl
          rotate_left
          · simp only [Act.put, List.setIfInBounds_toArray, List.set_cons_zero, List.set_cons_succ, i64_w, i32_w]
            rfl
          refine pure_ (i := 11) (N := some 75) (v := ?_) (a' := ?_) #[true, true, true, true, true, true, true, true, true, true, true, true, false, false, false] rfl rfl (any_of HT_.out (by kernel_rfl)) (fun _ _ _ h => h) (Or.inl ⟨by rfl, ?_⟩) ?_ ?_
          rotate_left
          · intro w'
            go_simp
            with_reducible rfl
          rotate_left
          · simp only [Act.put, List.setIfInBounds_toArray, List.set_cons_zero, List.set_cons_succ, i64_w, i32_w]
            rfl
          refine pure_ (i := 12) (N := some 76) (v := ?_) (a' := ?_) #[true, true, true, true, true, true, true, true, true, true, true, true, true, false, false] rfl rfl (any_of HT_.out (by kernel_rfl)) (fun _ _ _ h => h) (Or.inl ⟨by rfl, ?_⟩) ?_ ?_
          rotate_left
          · intro w'
            go_simp
            with_reducible rfl
          rotate_left
          · simp only [Act.put, List.setIfInBounds_toArray, List.set_cons_zero, List.set_cons_succ, i64_w, i32_w]
            rfl
          refine pure_ (i := 13) (N := some 77) (v := ?_) (a' := ?_) #[true, true, true, true, true, true, true, true, true, true, true, true, true, true, false] rfl rfl (any_of HT_.out (by kernel_rfl)) (fun _ _ _ h => h) (Or.inl ⟨by rfl, ?_⟩) ?_ ?_
          rotate_left
          · intro w'
            go_simp
            with_reducible rfl
          rotate_left
          · simp only [Act.put, List.setIfInBounds_toArray, List.set_cons_zero, List.set_cons_succ, i64_w, i32_w]
            rfl
          refine last_ (i := 14) (N := none) #[true, true, true, true, true, true, true, true, true, true, true, true, true, true, true] rfl rfl (one_of HT_.out (by kernel_rfl)) (by decide) (fun K hK => ?_)
          refine skip_ (w1 := ?_) (by rfl) rfl ?_ ?_
          rotate_left
          · go_simp
            rfl
          refine hK.out _ _ ?_
          clear hK K
          refine done_ (done_of HT_.out (by kernel_rfl)) ?_
          go_wp2_with fail
          go_roundw
          case rel => exact ⟨k + 1, p2, true, by have := HKX.out; omega, rfl, HWK3.out, HT2, Aside0.mk HP2.out, Aside0.mk (below_set HBd.out GB.out)⟩
          case measure => have h1_ := HKX.out; have h2_ := HKY.out; simp [intOf]; omega
        · have c24b0 : decide (kx < 8 * (B.length : Int) - x) = false := decide_eq_false c24
          go_wp2_with fail
          go_roundw
          case rel => exact ⟨k + 1, p, t, by have := HKX.out; omega, rfl, HWK3.out, Lib.hid HT.out.stay, HRr, HBr⟩
          case measure => have h1_ := HKX.out; have h2_ := HKY.out; simp [intOf]; omega
      · have c23b0 : (Go.bits .and .u32 ji22 1 == 1) = false := beq_eq_false_iff_ne.mpr c23
        have c23b1 : (Go.bits .and .u32 ji22 1 != 1) = true := bne_iff_ne.mpr c23
        go_wp2_with fail
        go_roundw
        case rel => exact ⟨k + 1, p, t, by have := HKX.out; omega, rfl, HWK3.out, Lib.hid HT.out.stay, HRr, HBr⟩
        case measure => have h1_ := HKX.out; have h2_ := HKY.out; simp [intOf]; omega
    · have c20b0 : decide (kx < 32) = false := decide_eq_false c20
      obtain rfl : k = 32 := by omega
      obtain ⟨w5, rfl⟩ : ∃ w5, w5 = wr := ⟨_, rfl⟩
      have HC5 := Lib.hid (Kd.C_below HL0.out HBr.out)
      have hP5 := (Kd.R_reads' HRr.out).2.2
      have HB5 := Lib.hid HBr.out
      cases t with
      | false =>
        obtain rfl : p = B := HT.out.same rfl
        have HD5 := Lib.hid (decode_good (some ⟨go, 0, none⟩) c4 p w5 hP5 hl4 HBY.out (by have := HLE.out; omega) HRD.out)
        clear HT HRr HBr hP5 hk hkx hky hpl
        go_wp2_with fail
        refine HD5.out.mono ?_
        rintro e w6 ⟨A6, c6, rfl, hl6, hR6, hb6⟩
        have HM6 := Lib.hid ((Kd.R_reads' hR6).2.2)
        have HC6 := Lib.hid (Kd.C_below HC5.out hb6)
        have HB6 := Lib.hid (below_step HB5.out hb6)
        have hb7 := below_alloc (Below.refl w6.heap.size w6) (.cells #[.int .u64 s, .int .i64 r, .int .u32 d] 33 (0, 0))
        obtain ⟨w7, hw7⟩ : ∃ w7, w6.alloc (.cells #[.int .u64 s, .int .i64 r, .int .u32 d] 33 (0, 0)) = w7 := ⟨_, rfl⟩
        rw [hw7] at hb7
        have HW7 := Lib.hid hw7
        have HC7 := Lib.hid (Kd.C_below HC6.out hb7)
        have HM7 := Lib.hid (Kd.C_below HM6.out hb7)
        have HB7 := Lib.hid (below_step HB6.out hb7)
        clear hw7 hb6 hb7 hR6 HC6 HM6 HB6 HC5 HB5 HD5
        go_wp2_with fail
        (try rw [HW7.out])
        clear HW7
        refine (alive_calls w7).mono ?_
        rintro e w8 ⟨rfl, hb8⟩
        have HC8 := Lib.hid (Kd.C_below HC7.out hb8)
        have HM8 := Lib.hid (Kd.C_below HM7.out hb8)
        have HB8 := Lib.hid (below_step HB7.out hb8)
        clear hb8 HC7 HM7 HB7
        go_wp2_with fail
        refine (rows_good A6 c6 l w8 HM8.out hl6 (by omega)).mono ?_
        rintro e w9 ⟨AR, cR, rfl, hlR, hCR, hb9⟩
        have HCR := Lib.hid hCR
        have HClR := Lib.hid (Kd.C_below HC8.out hb9)
        have HB9 := Lib.hid (below_step HB8.out hb9)
        clear hCR
        go_wp2_with fail
        refine (same_calls AR cR A c l w9 HCR.out hlR HClR.out hc (by omega)).mono ?_
        rintro e w10 ⟨rfl, hb10⟩
        have HB10 := Lib.hid (below_step HB9.out hb10)
        clear HCR HClR HB9
        go_wp2_with fail
        go_ret
        exact ⟨rfl, HB10.out⟩
      | true =>
        obtain ⟨⟨⟨S, R, D⟩, m, pp, er⟩, hrq⟩ : ∃ z, readE p = z := ⟨_, rfl⟩
        have h211 := HBU.out p HT.out.wf HT.out.bur HT.out.ne
        rw [hrq] at h211
        obtain rfl : er = 211 := h211
        have hd5 := decode_good (some ⟨go, 0, none⟩) c4 p w5 hP5 (by rw [HPL.out]; exact hl4) (bytes_wf HT.out.wf) (by rw [HPL.out]; have := HLE.out; omega) hrq
        rw [HPL.out] at hd5
        have HD5 := Lib.hid hd5
        clear HT HRr HBr hP5 hk hkx hky hpl hrq hd5
        go_wp2_with fail
        refine HD5.out.mono ?_
        rintro e w6 ⟨A6, c6, rfl, hl6, hR6, hb6⟩
        have HM6 := Lib.hid ((Kd.R_reads' hR6).2.2)
        have HC6 := Lib.hid (Kd.C_below HC5.out hb6)
        have HB6 := Lib.hid (below_step HB5.out hb6)
        have hb7 := below_alloc (Below.refl w6.heap.size w6) (.cells #[.int .u64 S, .int .i64 R, .int .u32 D] 33 (0, 0))
        obtain ⟨w7, hw7⟩ : ∃ w7, w6.alloc (.cells #[.int .u64 S, .int .i64 R, .int .u32 D] 33 (0, 0)) = w7 := ⟨_, rfl⟩
        rw [hw7] at hb7
        have HW7 := Lib.hid hw7
        have HC7 := Lib.hid (Kd.C_below HC6.out hb7)
        have HM7 := Lib.hid (Kd.C_below HM6.out hb7)
        have HB7 := Lib.hid (below_step HB6.out hb7)
        clear hw7 hb6 hb7 hR6 HC6 HM6 HB6 HC5 HB5 HD5
        go_wp2_with fail
        (try rw [HW7.out])
        clear HW7
        refine (alive_calls w7).mono ?_
        rintro e w8 ⟨rfl, hb8⟩
        have HC8 := Lib.hid (Kd.C_below HC7.out hb8)
        have HM8 := Lib.hid (Kd.C_below HM7.out hb8)
        have HB8 := Lib.hid (below_step HB7.out hb8)
        clear hb8 HC7 HM7 HB7
        go_wp2_with fail
        go_ret
        exact ⟨rfl, HB8.out⟩
end Go.Proofs.Ytmklmpajcomimaa.Hand
end

section
/- The statement TraceBurstsSaid: the law tells true for every input; no condition. -/
namespace Go.Proofs.Ytmklmpajcomimaa.traceBursts
open Go.ChangeShapes Go.WideShapes Go.ChangeAt Go.RowKit
open Go.ChangeMaps (open_string shut_string)
set_option linter.unusedVariables false
theorem own : ownKnob Try.prog.godebug = none := by kernel_rfl
theorem laidOut : laidOutB Try.prog = true := by kernel_rfl
theorem walk (w : World) (s0 r0 d0 : Int) (A1 : Option Addr) (c1 : Nat) (l1 : List PTraceWrites.S39) (x2 y2 : Int) (ws0 : (Lit.int .u64 s0).wf = true) (wr0 : (Lit.int .i64 r0).wf = true) (wd0 : (Lit.int .u32 d0).wf = true) (w1 : Go.Proofs.YtmklmpajcomimaaW.PrintWords.Kd.C PTraceWrites.k39 w A1 l1.length l1) (y1 : l1.length ≤ c1) (z1 : ∀ o ∈ l1, o.f6.size ≤ 140737488355328) (wx2 : (Lit.int .i64 x2).wf = true) (wy2 : (Lit.int .i64 y2).wf = true) :
    Calls Try.prog 6 #[.agg #[.int .u64 s0, .int .i64 r0, .int .u32 d0], .slice A1 l1.length c1, .agg #[.int .i64 x2, .int .i64 y2]] w fun e w' => e = .returned (.bool true) ∧ Below w.heap.size w w' := by
  have hs := Hand.wf_u64 ws0
  have hd := Hand.wf_u32 wd0
  cases hf : Hand.fewB l1 with
  | false => exact Hand.bur_many s0 r0 d0 A1 c1 l1 w x2 y2 w1 y1 w1.2.1 hf
  | true =>
    have hfo := Hand.few_ok hf z1
    by_cases hfit : Hand.fitP r0 l1 = true ∧ (Hand.encP s0 r0 d0 l1).length ≤ 1048576
    · obtain ⟨hall, hh⟩ := Hand.fit_ok (s := s0) (d := d0) hfit.1 hs hd
      by_cases h0 : 0 ≤ x2
      · by_cases h1 : x2 < 8 * ((Hand.encP s0 r0 d0 l1).length : Int)
        · exact Hand.bur_good s0 r0 d0 A1 c1 l1 w x2.toNat x2 y2 w1 y1 hh hf hfo hall (by omega) (by omega)
        · exact Hand.bur_far s0 r0 d0 A1 c1 l1 w x2 y2 w1 y1 hh hf hfo hall h0 (by omega)
      · exact Hand.bur_neg s0 r0 d0 A1 c1 l1 w x2 y2 w1 y1 hh hf hfo hall (by omega)
    · exact Hand.bur_not s0 r0 d0 A1 c1 l1 w x2 y2 w1 y1 hf hfo hfit
set_option maxRecDepth 100000 in
theorem lifted (os : Os) (started : os.Started) (H : Type) (enc : TypeId × Value → H) :
    ReturnsInHanded {} Try.checked os 6 .any (Rows.traceBurstsSpec.pre6 enc Try.prog Try.f6 Rows.traceBurstsRow.domain false) (Rows.traceBurstsSpec.post enc Try.prog Try.f6 false true false false) := by
  refine returnsInHanded_of_change_sized (C := Try.checked) own started (by kernel_rfl) Try.func6
    (ChangeSpec.witness6 (enc := enc) (C := Try.checked) false ⟨#[], #[.agg #[.int .u64 0, .int .i64 0, .int .u32 0], .slice none 0 0, .agg #[.int .i64 0, .int .i64 0]], []⟩ 8 (by kernel_rfl) (by kernel_rfl) (by kernel_rfl) (by kernel_rfl)) ?_
  intro W base args ds gs before hval0 hW hcnd hsz0 _
  have hsz : (DataW.weightsEach Try.prog (Try.f6.params.toList ++ Rows.traceBurstsSpec.plain.varTypes Try.prog) (ds ++ gs)).all (· ≤ reachBytes) = true := hsz0
  have hval : ∀ (j : Nat) t v, Try.f6.params[j]? = some t → args[j]? = some v → Value.okWide Try.prog W .any base t v := hval0
  have hW' := hW
  obtain ⟨p, q, hA0, hV, rfl, hfz, hnd⟩ := hW
  have hA : DataW.TrodAll enc Try.prog W 0 (fun _ => true) true Try.f6.params.toList args.toList ds p := hA0
  rw [Try.params6] at hA hval hsz
  obtain ⟨v0, vs0, d0, ds0, p0, q0, hargs, rfl, rfl, h0, r0⟩ := trodAll_cons hA
  obtain ⟨v1, vs1, d1, ds1, p1, q1, rfl, rfl, rfl, h1, r1⟩ := trodAll_cons r0
  obtain ⟨v2, vs2, d2, ds2, p2, q2, rfl, rfl, rfl, h2, r2⟩ := trodAll_cons r1
  obtain ⟨rfl, rfl, rfl⟩ := trodAll_nil r2
  obtain rfl : args = #[v0, v1, v2] := by cases args; simp_all
  obtain ⟨rfl, rfl⟩ := trodVars_none hV
  have k0 := h0
  have lt0 : ∀ x ∈ p0, x.block < W.heap.size := by obtain ⟨m, hm⟩ := k0; exact DataW.trod_lt m _ _ _ hm
  obtain ⟨hs0, hr0, hd0x, rfl, ws0, wr0, wd0⟩ := Hand.open_head (hval 0 25 v0 rfl rfl) h0
  obtain ⟨A1, len1, c1, rfl⟩ := okWide_slice Try.underlying26 (hval 1 26 v1 rfl rfl)
  have k1 := h1
  have lt1 : ∀ x ∈ p1, x.block < W.heap.size := by obtain ⟨m, hm⟩ := k1; exact DataW.trod_lt m _ _ _ hm
  obtain ⟨l1, hl1, y1, w1, hx1⟩ : ∃ l : List PTraceWrites.S39, l.length = len1 ∧ len1 ≤ c1 ∧ Go.Proofs.YtmklmpajcomimaaW.PrintWords.Kd.C PTraceWrites.k39 W A1 len1 l ∧ (len1 = 0 ∨ ∃ sp : List (DataW H), d1 = .slice (l.map Hand.recD) sp) := by
    obtain ⟨fuel, hf⟩ := h1
    exact Hand.open_recs hf
  have z1 : ∀ o ∈ l1, o.f6.size ≤ 140737488355328 := by
    rcases hx1 with h0 | ⟨sp, hd⟩
    · intro o ho
      rw [List.eq_nil_of_length_eq_zero (hl1.trans h0)] at ho
      cases ho
    · exact fun o ho => Hand.sized_rec hsz (j := 1) rfl (congrArg some hd) o ho
  subst hl1
  have k2 := h2
  have lt2 : ∀ x ∈ p2, x.block < W.heap.size := by obtain ⟨m, hm⟩ := k2; exact DataW.trod_lt m _ _ _ hm
  obtain ⟨hx2, hy2, rfl, wx2, wy2⟩ := Hand.open_arr2 (hval 2 52 v2 rfl rfl) h2
  clear hA0 hval0 hsz0 hsz
  refine (walk W hs0 hr0 hd0x A1 c1 l1 hx2 hy2 ws0 wr0 wd0 w1 y1 z1 wx2 wy2).mono fun e W' ⟨he, bel⟩ => ?_
  subst he
  exact ⟨_, rfl, _, _, _, [], _, [], hW', trodAll_mk1 (shut_bool Try.underlying4 _), (trodAll_cons_mk (Below.trod laidOut (by kernel_rfl) (of_decide_eq_true (by kernel_rfl)) k0 bel lt0) (trodAll_cons_mk (Below.trod laidOut (by kernel_rfl) (of_decide_eq_true (by kernel_rfl)) k1 bel lt1) (trodAll_cons_mk (Below.trod laidOut (by kernel_rfl) (of_decide_eq_true (by kernel_rfl)) k2 bel lt2) trodAll_mk0))), rfl, bel.frame _, fun h => by cases h⟩
theorem over : Rows.traceBurstsRow.holds Try.pinned (OpenSpec.ofChange Rows.traceBurstsSpec) :=
  OpenClaim.holds_of_wide 6 Try.f6 rfl rfl rfl rfl rfl rfl rfl ⟨rfl, rfl, rfl, rfl, rfl⟩ rfl rfl rfl rfl rfl (by kernel_rfl) Try.func6 (by kernel_rfl)
    (of_decide_eq_true (by kernel_rfl)) (by unfold Func.isWrapper; first | (rw [if_pos (by decide +kernel)]; kernel_rfl) | (rw [if_neg (by decide +kernel)]; exact ⟨rfl, rfl⟩))
    (fun os started H enc _ => lifted os started H enc)
theorem proved : Rows.TraceBurstsSaid := over
#print axioms proved
end Go.Proofs.Ytmklmpajcomimaa.traceBursts
namespace Go.Proofs.Ytmklmpajcomimaa
/-- The row, under a short name, for the claim. -/
theorem traceBursts_holds : Rows.TraceBurstsSaid := traceBursts.proved
end Go.Proofs.Ytmklmpajcomimaa
end
