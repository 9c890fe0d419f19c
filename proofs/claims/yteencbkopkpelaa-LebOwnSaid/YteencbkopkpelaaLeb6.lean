/- The walk of LebOwn. -/
import Derived.Test.YteencbkopkpelaaLeb5
namespace Go.Proofs.Yteencbkopkpelaa.Hand
open Go.RowKit Go.Proofs.YteencbkopkpelaaW.PrintWords Go.Proofs.YteencbkopkpelaaW.PrintLast Go.Proofs.YteencbkopkpelaaW.PrintMore Go.Proofs.Yteencbkopkpelaa.PLebReads
set_option linter.unusedVariables false
set_option linter.unusedSimpArgs false
theorem Fr.of_set (w : World) (p : Addr) (v : Value) : Fr (fun i => i = p.block) w (w.setCell p v) := Fr.set (X := fun i => i = p.block) (Fr.refl _ w) rfl v
/-- A text that was written is read, whatever stands behind. -/
theorem getS_str (s : ByteArray) (t : List Int) (hs : s.size ≤ 1000000) : getS (num s.size ++ bs s ++ t) s.size = (bs s, (num s.size).length + s.size) := by
  have hg := getP_num (s.size : Int) (bs s ++ t) (by omega) (by omega)
  rw [← List.append_assoc] at hg
  unfold getS
  rw [hg]
  simp only
  have hn : 1 ≤ (num (s.size : Int)).length := by
    have e : num (s.size : Int) = numL 8 s.size := if_neg (by omega)
    rw [e]; exact (numL_len 8 s.size).1
  rw [if_neg (by
    rw [List.length_append, List.length_append, bs_len]
    omega)]
  rw [Int.toNat_natCast, List.append_assoc, List.drop_left' rfl, List.take_left' (bs_len s)]
theorem rS_str (pre : List Int) (s : ByteArray) (t : List Int) (hs : s.size ≤ 1000000) : rS (pre ++ (num s.size ++ bs s ++ t)) pre.length false s.size = (bs s, pre.length + ((num s.size).length + s.size), false) := by
  have hn : 1 ≤ (num (s.size : Int)).length := by
    have e : num (s.size : Int) = numL 8 s.size := if_neg (by omega)
    rw [e]; exact (numL_len 8 s.size).1
  unfold rS
  rw [List.drop_left' rfl, getS_str s t hs, if_neg (by
    rintro (h | h | h)
    · cases h
    · simp only at h; omega
    · cases h)]
theorem rI_num (pre : List Int) (n : Int) (t : List Int) (h0 : 0 ≤ n) (h1 : n < 9223372036854775808) : rI (pre ++ (num n ++ t)) pre.length false n = (n, pre.length + (num n).length, false) := by
  have hn : 1 ≤ (num n).length := by
    have e : num n = numL 8 n := if_neg (by omega)
    rw [e]; exact (numL_len 8 n).1
  unfold rI
  rw [List.drop_left' rfl, getP_num n t h0 h1, if_neg (by
    rintro (h | h | h)
    · cases h
    · simp only at h; omega
    · simp at h)]
theorem own_long (s : ByteArray) (c : Int) (w : World) (hs : s.size ≤ 140737488355328) (h : 500 < s.size) : Calls Try.prog 7 #[.string s, .int .u8 c] w fun e w' => e = .returned (.bool true) ∧ Below w.heap.size w w' := by
  have h' : (500 : Int) < s.size := by omega
  clear h
  go_enter Try.func7, Try.ntmps7
  go_wp2_with fail
  refine (alive_calls _).mono ?_
  rintro e w2 ⟨rfl, hb2⟩
  go_wp2_with fail
  go_ret
  exact ⟨rfl, hb2⟩
set_option maxHeartbeats 4000000 in
theorem own_short (s : ByteArray) (c : Int) (w : World) (h : s.size ≤ 500) : Calls Try.prog 7 #[.string s, .int .u8 c] w fun e w' => e = .returned (.bool true) ∧ Below w.heap.size w w' := by
  have h' : ¬ (500 : Int) < s.size := by omega
  obtain ⟨s0, hs0⟩ : ∃ s0, w.heap.size = s0 := ⟨_, rfl⟩
  have HS0 := Lib.hid hs0
  clear hs0
  have hnl := num_len (s.size : Int)
  have hn1 : 1 ≤ (num (s.size : Int)).length := by
    have e : num (s.size : Int) = numL 8 s.size := if_neg (by omega)
    rw [e]; exact (numL_len 8 s.size).1
  obtain ⟨l, hl⟩ : ∃ l, num (s.size : Int) ++ bs s = l := ⟨_, rfl⟩
  have hll : l.length = (num (s.size : Int)).length + s.size := by rw [← hl, List.length_append, bs_len]
  have hb : Bytes l := by
    intro x hx
    rw [← hl] at hx
    rcases List.mem_append.1 hx with hx | hx
    · exact num_bytes _ (by omega) x hx
    · exact bs_bytes s x hx
  have hst := strput_calls (Below.refl w.heap.size w) (.slice none 0 0) [] s (Kd.R_nil _ _ _ _ _) (by omega) (by simp)
  rw [List.nil_append, hl] at hst
  have hrs := rS_str [] s [] (by omega)
  rw [List.nil_append, List.append_nil, hl] at hrs
  have hrs' : rS l 0 false s.size = (bs s, l.length, false) := by
    rw [hll]
    simpa using hrs
  have HRS := Lib.hid hrs'
  have HST := Lib.hid hst
  have HLL := Lib.hid hll
  have hll2 : l.length ≤ 1000 := by omega
  have hll3 : 0 < l.length := by omega
  clear hst hrs hrs' hll hl hnl hn1
  go_enter Try.func7, Try.ntmps7
  go_wp2_with fail
  refine HST.out.mono ?_
  rintro e w1 ⟨v, rfl, hr1, hb1⟩
  obtain ⟨g0, cap, rfl, hg0, hg0l, _⟩ := Kd.R_form hr1 hll3
  have hcl : l.length ≤ cap := by obtain ⟨_, h2, _⟩ := Kd.R_reads' hr1; exact h2
  have hC1 : Kd.C (Kd.int .u8) w1 (some ⟨g0, 0, none⟩) l.length l := (Kd.R_reads' hr1).2.2
  have HO1 := Lib.hid hr1
  have HB1 := Lib.hid hb1
  have HC1 := Lib.hid hC1
  clear hr1 hb1 hC1
  go_wp2_with fail
  refine (new_calls _ cap l w1 HC1.out hcl (by omega)).mono ?_
  rintro e w2 ⟨g, rfl, hgb, hr2, hb2⟩
  obtain ⟨b2, hbb2⟩ : ∃ b2, w1.heap.size = b2 := ⟨_, rfl⟩
  rw [hbb2] at hgb hr2 hg0l
  have HR2 := Lib.hid hr2
  have HO2 := Lib.hid (Kd.R_below HO1.out hb2)
  have HB2 := Lib.hid (HB1.out.trans (hb2.mono HB1.out.size))
  clear hr2 hb2 HO1 HB1 HC1 hbb2
  go_wp2_with fail
  go_loopw [20] (fun u20 wr => ∃ k : Nat, k ≤ l.length ∧ u20 = .int .i64 k ∧ ∃ l' : List Int, l'.length = l.length ∧ Aside0 (Kd.R (Kd.int .u8) 5 wr w.heap.size (fun _ => True) (.slice (some ⟨g0, 0, none⟩) l.length cap) l') ∧ Aside0 (Rdr wr g b2 l 0 false) ∧ Aside0 (Below w.heap.size w wr)) (fun u20 _ => l.length - (intOf u20).toNat)
  case atStart => exact ⟨0, Nat.zero_le _, rfl, l, rfl, ⟨HO2.out⟩, ⟨HR2.out⟩, ⟨HB2.out⟩⟩
  case round =>
    obtain ⟨k, hk, rfl, l', hl', HO, HR, HB⟩ := hrel
    obtain ⟨wo, hwo⟩ : ∃ wo, wo = wr := ⟨_, rfl⟩
    rw [← hwo] at HO HR HB ⊢
    clear hwo
    by_cases hlt : k < l.length
    · have ho := HO.out
      rw [← hl'] at ho
      obtain ⟨hcell, hfz⟩ := Kd.R_cell (0 : Int) ho (k : Int) (by omega) (by omega)
      rw [Int.toNat_natCast] at hcell hfz
      obtain ⟨hput, hgr⟩ := Kd.R_put ho (k : Int) c
      rw [Int.toNat_natCast, hl'] at hput
      have HPUT := Lib.hid hput
      clear ho hput hgr
      go_wp2_with fail
      refine ⟨⟨k + 1, by omega, by simp, l'.set k c, by rw [List.length_set]; exact hl', ⟨HPUT.out⟩, ⟨HR.out.keep (Fr.of_set wo ⟨g0, k, none⟩ (.int .u8 c)) (show ¬ g = g0 by omega) (fun i hi _ => show ¬ i = g0 by omega)⟩, ⟨Below.setCell HB.out (show w.heap.size ≤ g0 from hg0) _⟩⟩, ?_⟩
      simp only [intOf]
      omega
    · obtain rfl : k = l.length := by omega
      go_wp2_with fail
      refine (alive_calls _).mono ?_
      rintro e w3 ⟨rfl, hb3⟩
      have HR3 := Lib.hid (HR.out.below hb3)
      have HB3 := Lib.hid (below_step HB.out hb3)
      clear hb3
      go_wp2_with fail
      refine (str_calls HR3.out hb (s.size : Int)).mono ?_
      rw [HRS.out]
      rintro e w4 ⟨rfl, hr4, hf4⟩
      have HR4 := Lib.hid hr4
      have HB4 := Lib.hid (Fr.below HB3.out hf4 (HB3.out.size) (fun i hi => by have := HR3.out.lt; have := HB2.out.size; omega))
      clear hr4 hf4
      rw [str_bs]
      go_wp2_with fail
      refine (end_calls HR4.out).mono ?_
      rintro e w5 ⟨rfl, hd5⟩
      have HB5 := Lib.hid (below_step HB4.out hd5.below)
      clear hd5
      have hdec : decide (l.length = l.length) = true := decide_eq_true rfl
      go_wp2_with fail
      go_ret
      exact ⟨rfl, HB5.out⟩
end Go.Proofs.Yteencbkopkpelaa.Hand
