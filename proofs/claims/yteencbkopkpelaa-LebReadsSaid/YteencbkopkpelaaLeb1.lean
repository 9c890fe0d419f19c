/- What a reader tells: At, Bad, Left, End; what it reads: Int, Byte, Str. -/
import Derived.Test.YteencbkopkpelaaLeb0
import Derived.Test.YteencbkopkpelaaLebMath
namespace Go.Proofs.Yteencbkopkpelaa.Hand
open Go.RowKit Go.Proofs.YteencbkopkpelaaW.PrintWords Go.Proofs.YteencbkopkpelaaW.PrintLast Go.Proofs.YteencbkopkpelaaW.PrintMore Go.Proofs.Yteencbkopkpelaa.PLebReads
set_option linter.unusedVariables false
set_option linter.unusedSimpArgs false
theorem Drawn0.below {w w' : World} (h : Drawn0 w w') : Below w.heap.size w w' := by
  obtain ⟨n, rfl⟩ := h.out
  exact pw_below_drewN (Below.refl _ _) _
section
variable {w : World} {g base : Nat} {l : List Int} {at_ : Nat} {bad : Bool}
theorem Rdr.cells (h : Rdr w g base l at_ bad) : ∃ A c, w.cell? ⟨g, 0, none⟩ = some (.slice A l.length c) ∧ w.cell? ⟨g, 1, none⟩ = some (.int .i64 at_) ∧ w.cell? ⟨g, 2, none⟩ = some (.bool bad) ∧ (∀ i, w.frozen? ⟨g, i, none⟩ = false) ∧ Kd.C (Kd.int .u8) w A l.length l ∧ l.length ≤ c := by
  obtain ⟨A, c, hg, hr, _⟩ := h
  obtain ⟨A', c', he, hl, hC⟩ := Kd.R_reads hr
  injection he with e1 e2 e3
  subst e1 e3
  exact ⟨A, c, (blk_cell hg 0).trans rfl, (blk_cell hg 1).trans rfl, (blk_cell hg 2).trans rfl, fun i => blk_frozen hg i, hC, hl⟩
theorem at_calls (h : Rdr w g base l at_ bad) : Calls Try.prog 14 #[.pointer (some ⟨g, 0, none⟩)] w fun e w' => e = .returned (.int .i64 at_) ∧ w = w' := by
  obtain ⟨A, c, h0, h1, h2, hf, hC, hl⟩ := h.cells
  clear hC h hf
  go_enter Try.func14, Try.ntmps14
  go_wp2_with fail
  go_ret
  exact ⟨rfl, rfl⟩
theorem bad_calls (h : Rdr w g base l at_ bad) : Calls Try.prog 15 #[.pointer (some ⟨g, 0, none⟩)] w fun e w' => e = .returned (.bool bad) ∧ w = w' := by
  obtain ⟨A, c, h0, h1, h2, hf, hC, hl⟩ := h.cells
  clear hC h hf
  go_enter Try.func15, Try.ntmps15
  go_wp2_with fail
  go_ret
  exact ⟨rfl, rfl⟩
theorem left_calls (h : Rdr w g base l at_ bad) : Calls Try.prog 16 #[.pointer (some ⟨g, 0, none⟩)] w fun e w' => e = .returned (.int .i64 ((l.length : Int) - at_)) ∧ Drawn0 w w' := by
  obtain ⟨A, c, h0, h1, h2, hf, hC, hl⟩ := h.cells
  have hlt := h.lt
  clear hC h hf
  go_enter Try.func16, Try.ntmps16
  go_wp2_with fail
  go_quiet (fail)
  go_wp2
  go_ret
  exact ⟨rfl, ⟨_, rfl⟩⟩
theorem end_calls (h : Rdr w g base l at_ bad) : Calls Try.prog 17 #[.pointer (some ⟨g, 0, none⟩)] w fun e w' => e = .returned (.bool (!bad && decide (at_ = l.length))) ∧ Drawn0 w w' := by
  obtain ⟨A, c, h0, h1, h2, hf, hC, hl⟩ := h.cells
  have hlt := h.lt
  have H := Lib.hid h
  clear hC h hf
  cases bad
  · by_cases hz : at_ = l.length
    · have hz' : ((l.length : Int) - at_ == 0) = true := beq_iff_eq.mpr (by omega)
      have e : decide (at_ = l.length) = true := decide_eq_true hz
      have E := Lib.hid e
      clear hz e
      go_enter Try.func17, Try.ntmps17
      go_wp2_with fail
      refine (left_calls H.out).mono ?_
      rintro e w1 ⟨rfl, hd⟩
      have HD := Lib.hid hd
      clear hd
      go_wp2_with fail
      go_ret
      rw [E.out]
      exact ⟨rfl, HD.out⟩
    · have hz' : ((l.length : Int) - at_ == 0) = false := beq_eq_false_iff_ne.mpr (by omega)
      have e : decide (at_ = l.length) = false := decide_eq_false hz
      have E := Lib.hid e
      clear hz e
      go_enter Try.func17, Try.ntmps17
      go_wp2_with fail
      refine (left_calls H.out).mono ?_
      rintro e w1 ⟨rfl, hd⟩
      have HD := Lib.hid hd
      clear hd
      go_wp2_with fail
      go_ret
      rw [E.out]
      exact ⟨rfl, HD.out⟩
  · go_enter Try.func17, Try.ntmps17
    go_wp2_with fail
    go_ret
    exact ⟨rfl, ⟨0, rfl⟩⟩
end
theorem getstr_none (A : Option Addr) (c : Nat) (l : List Int) (most : Int) (w : World) (hr : Kd.C (Kd.int .u8) w A l.length l) (hc : l.length ≤ c) (hb : Bytes l) (hl : l.length ≤ 1000000) (n : Int) (k : Nat) (hg : getP l = (n, k)) (hn : k = 0 ∨ n > most ∨ n > (l.length : Int) - k) :
    Calls Try.prog 29 #[.slice A l.length c, .int .i64 most] w fun e w' => e = .returned (.tuple #[.string ⟨#[]⟩, .int .i64 0]) ∧ Below w.heap.size w w' := by
  have HR := Lib.hid hr
  have hf := getP_facts hg
  have hgi := get_is l hb (by omega)
  rw [hg] at hgi
  have HG := Lib.hid hgi
  clear hr hgi
  rcases (show k = 0 ∨ (k ≠ 0 ∧ most < n) ∨ (k ≠ 0 ∧ ¬ most < n ∧ (l.length : Int) - k < n) by omega) with h | ⟨h1, h⟩ | ⟨h1, h2, h⟩
  · subst h
    go_enter Try.func29, Try.ntmps29
    go_wp2_with fail
    refine (leb_Get.calls 50 A c l n ((0 : Nat) : Int) w HR.out hc HG.out).mono ?_
    rintro e w1 ⟨rfl, hb1⟩
    go_wp2_with fail
    go_ret2
    exact ⟨rfl, hb1⟩
  · have hk : ((k : Int) == 0) = false := beq_eq_false_iff_ne.mpr (by omega)
    go_enter Try.func29, Try.ntmps29
    go_wp2_with fail
    refine (leb_Get.calls 50 A c l n (k : Int) w HR.out hc HG.out).mono ?_
    rintro e w1 ⟨rfl, hb1⟩
    go_wp2_with fail
    go_ret2
    exact ⟨rfl, hb1⟩
  · have hk : ((k : Int) == 0) = false := beq_eq_false_iff_ne.mpr (by omega)
    go_enter Try.func29, Try.ntmps29
    go_wp2_with fail
    refine (leb_Get.calls 50 A c l n (k : Int) w HR.out hc HG.out).mono ?_
    rintro e w1 ⟨rfl, hb1⟩
    go_wp2_with fail
    go_ret2
    exact ⟨rfl, hb1⟩
theorem getstr_some (A : Option Addr) (c : Nat) (l : List Int) (most : Int) (w : World) (hr : Kd.C (Kd.int .u8) w A l.length l) (hc : l.length ≤ c) (hb : Bytes l) (hl : l.length ≤ 1000000) (n : Nat) (k : Nat) (hg : getP l = ((n : Int), k)) (h1 : k ≠ 0) (h2 : ¬ most < (n : Int)) (h3 : k + n ≤ l.length) :
    Calls Try.prog 29 #[.slice A l.length c, .int .i64 most] w fun e w' => e = .returned (.tuple #[.string (strOfNums ((l.drop k).take n)), .int .i64 ((k + n : Nat) : Int)]) ∧ Below w.heap.size w w' := by
  have HR := Lib.hid hr
  have hf := getP_facts hg
  have hgi := get_is l hb (by omega)
  rw [hg] at hgi
  have HG := Lib.hid hgi
  clear hr hgi
  have hk : ((k : Int) == 0) = false := beq_eq_false_iff_ne.mpr (by omega)
  have h4 : ¬ (l.length : Int) - k < n := by omega
  go_enter Try.func29, Try.ntmps29
  go_wp2_with fail
  refine (leb_Get.calls 50 A c l n (k : Int) w HR.out hc HG.out).mono ?_
  rintro e w1 ⟨rfl, hb1⟩
  have hm := Kd.C_mid (lo := k) (hi := k + n) (Kd.C_below HR.out hb1) (by omega) h3 hc
  have hlen : ((l.take (k + n)).drop k).length = n := by rw [List.length_drop, List.length_take]; omega
  have hdt : (l.take (k + n)).drop k = (l.drop k).take n := by rw [List.drop_take]; congr 1; omega
  have hsum : ((k : Int) + n) = ((k + n : Nat) : Int) := by omega
  by_cases hck : c = k
  · rw [if_pos hck] at hm
    have hcv : ∀ cc, (convert 22 9 (.slice A n cc)).run Try.prog w1 = .ok (.string (strOfNums ((l.drop k).take n))) w1 := fun cc => by
      have := Kd.C_string (P := Try.prog) (src := 22) (dst := 9) (c := cc) Try.underlying22 Try.underlying5 Try.underlying9 hm
      rw [hlen, hdt] at this
      exact this
    have HB := Lib.hid hb1
    have HS := Lib.hid hsum
    clear hm hlen hdt hb1 hsum
    subst hck
    go_wp2_with fail
    go_ret2
    rw [HS.out]
    exact ⟨rfl, HB.out⟩
  · rw [if_neg hck] at hm
    have hcv : ∀ cc, (convert 22 9 (.slice (A.map (fun x => x.add k)) n cc)).run Try.prog w1 = .ok (.string (strOfNums ((l.drop k).take n))) w1 := fun cc => by
      have := Kd.C_string (P := Try.prog) (src := 22) (dst := 9) (c := cc) Try.underlying22 Try.underlying5 Try.underlying9 hm
      rw [hlen, hdt, show k * (Kd.int IntKind.u8).sz = k from Nat.mul_one k] at this
      exact this
    have HB := Lib.hid hb1
    have HS := Lib.hid hsum
    clear hm hlen hdt hb1 hsum
    go_wp2_with fail
    go_ret2
    rw [HS.out]
    exact ⟨rfl, HB.out⟩
theorem getstr_calls (A : Option Addr) (c : Nat) (l : List Int) (most : Int) (w : World) (hr : Kd.C (Kd.int .u8) w A l.length l) (hc : l.length ≤ c) (hb : Bytes l) (hl : l.length ≤ 1000000) :
    Calls Try.prog 29 #[.slice A l.length c, .int .i64 most] w fun e w' => e = .returned (.tuple #[.string (strOfNums (getS l most).1), .int .i64 ((getS l most).2 : Int)]) ∧ Below w.heap.size w w' := by
  obtain ⟨n, k, hg⟩ : ∃ n k, getP l = (n, k) := ⟨_, _, rfl⟩
  unfold getS
  rw [hg]
  by_cases h : k = 0 ∨ n > most ∨ n > (l.length : Int) - k
  · simp only
    rw [if_pos h]
    exact getstr_none A c l most w hr hc hb hl n k hg h
  · simp only
    rw [if_neg h]
    have hf := getP_facts hg
    obtain ⟨m, rfl⟩ : ∃ m : Nat, n = m := ⟨n.toNat, by omega⟩
    rw [Int.toNat_natCast]
    exact getstr_some A c l most w hr hc hb hl m k hg (by omega) (by omega) (by omega)
theorem may_calls (W : World) (q : Nat) (n most : Int) (hq : W.cell? ⟨q, 0, none⟩ = some (.int .i64 most)) : Calls Try.prog 25 #[.int .i64 n, .pointer (some ⟨q, 0, none⟩)] W fun e w' => e = .returned (.bool (decide (n ≤ most))) ∧ W = w' := by
  go_enter Try.func25, Try.ntmps25
  go_wp2_with fail
  go_ret
  exact ⟨rfl, rfl⟩
theorem mayb_calls (W : World) (q : Nat) (n most : Int) (hq : W.cell? ⟨q, 0, none⟩ = some (.int .i64 most)) : Calls Try.prog 27 #[.int .i64 n, .pointer (some ⟨q, 0, none⟩)] W fun e w' => e = .returned (.bool (decide (n ≤ most))) ∧ W = w' := by
  go_enter Try.func27, Try.ntmps27
  go_wp2_with fail
  go_ret
  exact ⟨rfl, rfl⟩
theorem mays_calls (W : World) (s : ByteArray) : Calls Try.prog 31 #[.string s] W fun e w' => e = .returned (.bool true) ∧ W = w' := by
  go_enter Try.func31, Try.ntmps31
  go_wp2_with fail
  go_ret
  exact ⟨rfl, rfl⟩
theorem gets_calls (A : Option Addr) (c : Nat) (l : List Int) (q : Nat) (most : Int) (w : World) (hq : w.cell? ⟨q, 0, none⟩ = some (.int .i64 most)) (hr : Kd.C (Kd.int .u8) w A l.length l) (hc : l.length ≤ c) (hb : Bytes l) (hl : l.length ≤ 1000000) :
    Calls Try.prog 28 #[.slice A l.length c, .pointer (some ⟨q, 0, none⟩)] w fun e w' => e = .returned (.tuple #[.string (strOfNums (getS l most).1), .int .i64 ((getS l most).2 : Int)]) ∧ Below w.heap.size w w' := by
  have HR := Lib.hid hr
  clear hr
  go_enter Try.func28, Try.ntmps28
  go_wp2_with fail
  refine (getstr_calls A c l most w HR.out hc hb hl).mono ?_
  rintro e w1 ⟨rfl, hb1⟩
  go_wp2_with fail
  go_ret2
  exact ⟨rfl, hb1⟩
/-- The first byte. -/
def getB (l : List Int) : Int × Nat := match l with
  | [] => (0, 0)
  | c :: _ => (c, 1)
theorem getb_calls (A : Option Addr) (c : Nat) (l : List Int) (w : World) (hr : Kd.C (Kd.int .u8) w A l.length l) (hc : l.length ≤ c) (hb : Bytes l) (hl : l.length ≤ 1000000) :
    Calls Try.prog 26 #[.slice A l.length c] w fun e w' => e = .returned (.tuple #[.int .i64 (getB l).1, .int .i64 ((getB l).2 : Int)]) ∧ Below w.heap.size w w' := by
  cases l with
  | nil =>
    clear hr
    go_enter Try.func26, Try.ntmps26
    go_wp2_with fail
    go_ret2
    exact ⟨rfl, Below.refl _ _⟩
  | cons x t =>
    obtain ⟨ad, rfl, hx⟩ := Kd.at_int hr 0 (by omega) (by simp)
    have hx' : w.cell? (ad.add 0) = some (.int .u8 x) := hx
    have hxb := hb x (List.mem_cons_self ..)
    have hn : 0 < t.length + 1 := by omega
    rw [List.length_cons] at hc hl ⊢
    have hx2 : w.cell? ad = some (.int .u8 x) := by rw [show ad.add 0 = ad from rfl] at hx'; exact hx'
    clear hr hx
    go_enter Try.func26, Try.ntmps26
    go_wp2_with fail
    go_ret2
    exact ⟨rfl, Below.refl _ _⟩
section
variable {w : World} {g base : Nat} {l : List Int} {at_ : Nat}
theorem int_bad (h : Rdr w g base l at_ true) (fv mv : Value) : Calls Try.prog 24 #[.pointer (some ⟨g, 0, none⟩), fv, mv] w fun e w' => e = .returned (.int .i64 0) ∧ w = w' := by
  obtain ⟨A, c, h0, h1, h2, hf, hC, hl⟩ := h.cells
  clear hC h hf
  go_enter Try.func24, Try.ntmps24
  go_wp2_with fail
  go_ret
  exact ⟨rfl, rfl⟩
theorem str_bad (h : Rdr w g base l at_ true) (fv mv : Value) : Calls Try.prog 30 #[.pointer (some ⟨g, 0, none⟩), fv, mv] w fun e w' => e = .returned (.string ⟨#[]⟩) ∧ w = w' := by
  obtain ⟨A, c, h0, h1, h2, hf, hC, hl⟩ := h.cells
  clear hC h hf
  go_enter Try.func30, Try.ntmps30
  go_wp2_with fail
  go_ret
  exact ⟨rfl, rfl⟩
end
end Go.Proofs.Yteencbkopkpelaa.Hand
