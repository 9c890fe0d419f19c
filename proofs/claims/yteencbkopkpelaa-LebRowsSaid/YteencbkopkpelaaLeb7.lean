/- The walk of LebRows. -/
import Derived.Test.YteencbkopkpelaaLeb6
namespace Go.Proofs.Yteencbkopkpelaa.Hand
open Go.RowKit Go.Proofs.YteencbkopkpelaaW.PrintWords Go.Proofs.YteencbkopkpelaaW.PrintLast Go.Proofs.YteencbkopkpelaaW.PrintMore Go.Proofs.Yteencbkopkpelaa.PLebReads
set_option linter.unusedVariables false
set_option linter.unusedSimpArgs false
/-- A text's bytes, its number ahead. -/
def strb (x : ByteArray) : List Int := num x.size ++ bs x
theorem flat_step {α : Type} (f : α → List Int) (l : List α) (k : Nat) (h : k < l.length) : (l.take (k + 1)).flatMap f = (l.take k).flatMap f ++ f l[k] := by
  rw [List.take_succ_eq_append_getElem h, List.flatMap_append]
  simp
theorem flat_split {α : Type} (f : α → List Int) (l : List α) (k : Nat) (h : k < l.length) : l.flatMap f = (l.take k).flatMap f ++ (f l[k] ++ (l.drop (k + 1)).flatMap f) := by
  have e : l = l.take k ++ (l[k] :: l.drop (k + 1)) := by rw [← List.drop_eq_getElem_cons h, List.take_append_drop]
  have e2 : l.flatMap f = (l.take k ++ (l[k] :: l.drop (k + 1))).flatMap f := congrArg (List.flatMap f) e
  rw [e2, List.flatMap_append, List.flatMap_cons]
theorem flat_len {α : Type} (f : α → List Int) (b : Nat) : ∀ (l : List α), (∀ x ∈ l, (f x).length ≤ b) → (l.flatMap f).length ≤ b * l.length
  | [], _ => by simp
  | x :: l, h => by
    have h1 := h x (List.mem_cons_self ..)
    have h2 := flat_len f b l (fun y hy => h y (List.mem_cons_of_mem _ hy))
    rw [List.flatMap_cons, List.length_append, List.length_cons, Nat.mul_add, Nat.mul_one]
    omega
theorem flat_bytes {α : Type} (f : α → List Int) (l : List α) (h : ∀ x ∈ l, Bytes (f x)) : Bytes (l.flatMap f) := by
  intro c hc
  obtain ⟨x, hx, hcx⟩ := List.mem_flatMap.1 hc
  exact h x hx c hcx
theorem strb_len (x : ByteArray) (h : x.size ≤ 500) : (strb x).length ≤ 509 := by
  unfold strb
  have := num_len (x.size : Int)
  rw [List.length_append, bs_len]
  omega
theorem strb_bytes (x : ByteArray) (h : x.size ≤ 500) : Bytes (strb x) := by
  intro c hc
  rcases List.mem_append.1 hc with hc | hc
  · exact num_bytes _ (by omega) c hc
  · exact bs_bytes x c hc
theorem rd_at (l : List Int) (k : Nat) (h : k < l.length) : rd l (k : Int) = l[k] := by
  unfold rd
  rw [Int.toNat_natCast, List.getD_eq_getElem?_getD, List.getElem?_eq_getElem h]
  rfl
theorem rdOf_at (l : List ByteArray) (k : Nat) (h : k < l.length) : rdOf ByteArray.empty l (k : Int) = l[k] := by
  unfold rdOf
  rw [Int.toNat_natCast, List.getD_eq_getElem?_getD, List.getElem?_eq_getElem h]
  rfl
section
variable (A : Option Addr) (c : Nat) (l : List Int) (B : Option Addr) (d : Nat) (s : List ByteArray) (w : World)
theorem rows_long (h : 100 < l.length + s.length) (h1 : l.length ≤ 140737488351232) (h2 : s.length ≤ 140737488351232) : Calls Try.prog 6 #[.slice A l.length c, .slice B s.length d] w fun e w' => e = .returned (.bool true) ∧ Below w.heap.size w w' := by
  have h' : (100 : Int) < (l.length : Int) + (s.length : Int) := by omega
  clear h
  go_enter Try.func6, Try.ntmps6
  go_wp2_with fail
  refine (alive_calls _).mono ?_
  rintro e w2 ⟨rfl, hb2⟩
  go_wp2_with fail
  go_ret
  exact ⟨rfl, hb2⟩
set_option maxHeartbeats 8000000 in
theorem rows_short (h : l.length + s.length ≤ 100) (hr : Kd.C (Kd.int .i64) w A l.length l) (hc : l.length ≤ c) (hl : ∀ x ∈ l, x < 9223372036854775808) (hr2 : Kd.C Kd.string w B s.length s) (hc2 : s.length ≤ d) (hs : ∀ x ∈ s, x.size ≤ 9223372036854775807) : Calls Try.prog 6 #[.slice A l.length c, .slice B s.length d] w fun e w' => e = .returned (.bool true) ∧ Below w.heap.size w w' := by
  have h' : ¬ (100 : Int) < (l.length : Int) + (s.length : Int) := by omega
  have HR := Lib.hid hr
  have HR2 := Lib.hid hr2
  have HL := Lib.hid hl
  have HS := Lib.hid hs
  clear hr hr2 hl hs
  go_enter Try.func6, Try.ntmps6
  go_wp2_with fail
  go_loopw [5, 24] (fun u5 u24 wr => ∃ k : Nat, k ≤ l.length ∧ u24 = .int .i64 k ∧ Aside0 (Kd.R (Kd.int .u8) 5 wr w.heap.size (fun _ => True) u5 ((l.take k).flatMap num)) ∧ Aside0 (Below w.heap.size w wr)) (fun _ u24 _ => l.length - (intOf u24).toNat)
  case atStart => exact ⟨0, Nat.zero_le _, rfl, ⟨Kd.R_nil _ _ _ _ _⟩, ⟨Below.refl _ _⟩⟩
  case round =>
    obtain ⟨k, hk, rfl, HO, HB⟩ := hrel
    obtain ⟨wo, hwo⟩ : ∃ wo, wo = wr := ⟨_, rfl⟩
    rw [← hwo] at HO HB ⊢
    clear hwo
    by_cases hlt : k < l.length
    · obtain ⟨ad, rfl, hcell⟩ := Kd.at_int (Kd.C_below HR.out HB.out) (k : Int) (by omega) (by omega)
      rw [Int.toNat_natCast, rd_at l k hlt] at hcell
      have hfl := flat_len num 9 (l.take k) (fun x _ => num_len x)
      rw [List.length_take] at hfl
      have hput := put_calls HB.out u5 _ l[k] HO.out (HL.out _ (List.getElem_mem hlt)) (by omega)
      have hst := flat_step num l k hlt
      rw [← hst] at hput
      have HP := Lib.hid hput
      clear hput hst hfl
      generalize l[k] = x at hcell HP
      go_wp2_with fail
      refine HP.out.mono ?_
      rintro e w3 ⟨v3, rfl, hr3, hb3⟩
      have HO3 := Lib.hid hr3
      have HB3 := Lib.hid hb3
      clear hr3 hb3
      go_wp2_with fail
      refine ⟨⟨k + 1, by omega, by simp, ⟨HO3.out⟩, ⟨HB3.out⟩⟩, ?_⟩
      simp only [intOf]
      omega
    · obtain rfl : k = l.length := by omega
      rw [List.take_length] at HO
      have hfl := flat_len num 9 l (fun x _ => num_len x)
      go_wp2_with fail
      have HO1 := HO
      have HB1 := HB
      clear HO HB
      go_loopw [5, 34] (fun u5 u34 wr => ∃ k : Nat, k ≤ s.length ∧ u34 = .int .i64 k ∧ Aside0 (∀ x ∈ s.take k, x.size ≤ 500) ∧ Aside0 (Kd.R (Kd.int .u8) 5 wr w.heap.size (fun _ => True) u5 (l.flatMap num ++ (s.take k).flatMap strb)) ∧ Aside0 (Below w.heap.size w wr)) (fun _ u34 _ => s.length - (intOf u34).toNat)
      case atStart => exact ⟨0, Nat.zero_le _, rfl, ⟨fun x hx => by simp at hx⟩, ⟨by simpa using HO1.out⟩, ⟨HB1.out⟩⟩
      case round =>
        obtain ⟨k, hk, rfl, HQ, HO, HB⟩ := hrel
        clear HO1 HB1
        obtain ⟨wo2, hwo⟩ : ∃ wo, wo = wr := ⟨_, rfl⟩
        rw [← hwo] at HO HB ⊢
        clear hwo
        by_cases hlt : k < s.length
        · obtain ⟨ad, rfl, hcell⟩ := Kd.at_string (Kd.C_below HR2.out HB.out) (k : Int) (by omega) (by omega)
          rw [Int.toNat_natCast, rdOf_at s k hlt] at hcell
          have hsz := HS.out _ (List.getElem_mem hlt)
          have hst := flat_step strb s k hlt
          have htk := List.take_succ_eq_append_getElem hlt
          have HST := Lib.hid hst
          have HTK := Lib.hid htk
          clear hst htk
          generalize s[k] = x at hcell hsz HST HTK
          by_cases h5 : 500 < x.size
          · have h5' : (500 : Int) < x.size := by omega
            clear h5
            go_wp2_with fail
            refine (alive_calls _).mono ?_
            rintro e w3 ⟨rfl, hb3⟩
            go_wp2_with fail
            go_ret
            exact ⟨rfl, below_step HB.out hb3⟩
          · have h5' : ¬ (500 : Int) < x.size := by omega
            have hf2 := flat_len strb 509 (s.take k) (fun x hx => strb_len x (HQ.out x hx))
            rw [List.length_take] at hf2
            have hput := strput_calls HB.out u5 _ x HO.out (by omega) (by rw [List.length_append]; omega)
            rw [List.append_assoc, List.append_assoc, ← List.append_assoc ((s.take k).flatMap strb), show (s.take k).flatMap strb ++ num (x.size : Int) ++ bs x = (s.take k).flatMap strb ++ strb x from List.append_assoc _ _ _, ← HST.out] at hput
            have HP := Lib.hid hput
            have HQ2 : Hid (∀ y ∈ s.take (k + 1), y.size ≤ 500) := Lib.hid (by
              rw [HTK.out]
              intro y hy
              rcases List.mem_append.1 hy with hy | hy
              · exact HQ.out y hy
              · simp at hy; subst hy; omega)
            clear hput hf2 h5
            go_wp2_with fail
            refine HP.out.mono ?_
            rintro e w3 ⟨v3, rfl, hr3, hb3⟩
            have HO3 := Lib.hid hr3
            have HB3 := Lib.hid hb3
            clear hr3 hb3
            go_wp2_with fail
            refine ⟨⟨k + 1, by omega, by simp, ⟨HQ2.out⟩, ⟨HO3.out⟩, ⟨HB3.out⟩⟩, ?_⟩
            simp only [intOf]
            omega
        · obtain rfl : k = s.length := by omega
          rw [List.take_length] at HO HQ
          have hf2 := flat_len strb 509 s (fun x hx => strb_len x (HQ.out x hx))
          obtain ⟨t, ht⟩ : ∃ t, l.flatMap num ++ s.flatMap strb = t := ⟨_, rfl⟩
          have htl : t.length ≤ 1000000 := by rw [← ht, List.length_append]; omega
          have HTB : Hid (Bytes t) := Lib.hid (by
            rw [← ht]
            intro y hy
            rcases List.mem_append.1 hy with hy | hy
            · exact flat_bytes num l (fun x hx => num_bytes x (HL.out x hx)) y hy
            · exact flat_bytes strb s (fun x hx => strb_bytes x (HQ.out x hx)) y hy)
          rw [ht] at HO
          obtain ⟨Ab, cb, rfl, hlb, hCb⟩ := Kd.R_reads HO.out
          have HCB := Lib.hid hCb
          have HT := Lib.hid ht
          clear hCb ht hf2 hfl
          go_wp2_with fail
          refine (new_calls _ cb t _ HCB.out hlb htl).mono ?_
          rintro e w2 ⟨g, rfl, hgb, hr2, hb2⟩
          obtain ⟨b2, hbb2⟩ : ∃ b2, wo2.heap.size = b2 := ⟨_, rfl⟩
          have hsz2 : w.heap.size ≤ b2 := hbb2 ▸ HB.out.size
          rw [hbb2] at hgb hr2
          have HR3 := Lib.hid hr2
          have HB3 := Lib.hid (below_step HB.out hb2)
          clear hr2 hb2 hbb2 HCB HO HB
          go_wp2_with fail
          go_loopw [52] (fun u52 wr => ∃ k : Nat, k ≤ l.length ∧ u52 = .int .i64 k ∧ Aside0 (Rdr wr g b2 t ((l.take k).flatMap num).length false) ∧ Aside0 (Below w.heap.size w wr)) (fun u52 _ => l.length - (intOf u52).toNat)
          case atStart => exact ⟨0, Nat.zero_le _, rfl, ⟨HR3.out⟩, ⟨HB3.out⟩⟩
          case round =>
            obtain ⟨k, hk, rfl, HD, HB⟩ := hrel
            clear HR3 HB3
            obtain ⟨wo3, hwo⟩ : ∃ wo, wo = wr := ⟨_, rfl⟩
            rw [← hwo] at HD HB ⊢
            clear hwo
            by_cases hlt : k < l.length
            · obtain ⟨ad, rfl, hcell⟩ := Kd.at_int (Kd.C_below HR.out HB.out) (k : Int) (by omega) (by omega)
              rw [Int.toNat_natCast, rd_at l k hlt] at hcell
              have hst := flat_step num l k hlt
              have hsp := flat_split num l k hlt
              have hx := HL.out _ (List.getElem_mem hlt)
              have hpos : ((l.take (k + 1)).flatMap num).length = ((l.take k).flatMap num).length + (num l[k]).length := by rw [hst, List.length_append]
              have ht : t = (l.take k).flatMap num ++ (num l[k] ++ ((l.drop (k + 1)).flatMap num ++ s.flatMap strb)) := by
                rw [← HT.out, hsp]
                simp only [List.append_assoc]
              have HPOS := Lib.hid hpos
              have HTT := Lib.hid ht
              clear hst hsp hpos ht
              generalize l[k] = x at hcell hx HPOS HTT
              generalize (l.take k).flatMap num = pre at HD HPOS HTT
              by_cases hx0 : 0 ≤ x
              · have hd1 : decide (0 ≤ x) = true := decide_eq_true hx0
                have hri := rI_num pre x ((l.drop (k + 1)).flatMap num ++ s.flatMap strb) hx0 hx
                rw [← HTT.out, ← HPOS.out] at hri
                have HRI := Lib.hid hri
                clear hri
                go_wp2_with fail
                refine (int_calls HD.out HTB.out x).mono ?_
                rw [HRI.out]
                rintro e w4 ⟨rfl, hr4, hf4⟩
                have HR4 := Lib.hid hr4
                have HB4 := Lib.hid (Fr.below HB.out hf4 HB.out.size (fun i hi => by omega))
                clear hr4 hf4
                go_wp2_with fail
                refine ⟨⟨k + 1, by omega, by simp, ⟨HR4.out⟩, ⟨HB4.out⟩⟩, ?_⟩
                simp only [intOf]
                omega
              · have hd1 : decide (0 ≤ x) = false := decide_eq_false hx0
                have hnx : num x = [] := if_pos (by omega)
                have hps : ((l.take (k + 1)).flatMap num).length = pre.length := by rw [HPOS.out, hnx]; rfl
                have HPS := Lib.hid hps
                clear hps hnx
                go_wp2_with fail
                refine ⟨⟨k + 1, by omega, by simp, ⟨by rw [HPS.out]; exact HD.out⟩, ⟨HB.out⟩⟩, ?_⟩
                simp only [intOf]
                omega
            · obtain rfl : k = l.length := by omega
              rw [List.take_length] at HD
              go_wp2_with fail
              have HD1 := HD
              have HB1 := HB
              clear HD HB
              go_loopw [68] (fun u68 wr => ∃ k : Nat, k ≤ s.length ∧ u68 = .int .i64 k ∧ Aside0 (Rdr wr g b2 t (l.flatMap num ++ (s.take k).flatMap strb).length false) ∧ Aside0 (Below w.heap.size w wr)) (fun u68 _ => s.length - (intOf u68).toNat)
              case atStart => exact ⟨0, Nat.zero_le _, rfl, ⟨by simpa using HD1.out⟩, ⟨HB1.out⟩⟩
              case round =>
                obtain ⟨k, hk, rfl, HD, HB⟩ := hrel
                clear HD1 HB1
                obtain ⟨wo4, hwo⟩ : ∃ wo, wo = wr := ⟨_, rfl⟩
                rw [← hwo] at HD HB ⊢
                clear hwo
                by_cases hlt : k < s.length
                · obtain ⟨ad, rfl, hcell⟩ := Kd.at_string (Kd.C_below HR2.out HB.out) (k : Int) (by omega) (by omega)
                  rw [Int.toNat_natCast, rdOf_at s k hlt] at hcell
                  have hx := HQ.out _ (List.getElem_mem hlt)
                  have hst := flat_step strb s k hlt
                  have hsp := flat_split strb s k hlt
                  have hpos : (l.flatMap num ++ (s.take (k + 1)).flatMap strb).length = (l.flatMap num ++ (s.take k).flatMap strb).length + ((num (s[k].size : Int)).length + s[k].size) := by
                    rw [hst, List.length_append, List.length_append, List.length_append, strb, List.length_append, bs_len]
                    omega
                  have ht : t = (l.flatMap num ++ (s.take k).flatMap strb) ++ (num (s[k].size : Int) ++ bs s[k] ++ (s.drop (k + 1)).flatMap strb) := by
                    rw [← HT.out, hsp]
                    simp only [List.append_assoc, strb]
                  have hri := rS_str (l.flatMap num ++ (s.take k).flatMap strb) s[k] ((s.drop (k + 1)).flatMap strb) (by omega)
                  rw [← ht, ← hpos] at hri
                  have HRI := Lib.hid hri
                  clear hst hsp hpos ht hri
                  generalize s[k] = x at hcell hx HRI
                  go_wp2_with fail
                  refine (str_calls HD.out HTB.out (x.size : Int)).mono ?_
                  rw [HRI.out]
                  rintro e w4 ⟨rfl, hr4, hf4⟩
                  have HR4 := Lib.hid hr4
                  have HB4 := Lib.hid (Fr.below HB.out hf4 HB.out.size (fun i hi => by omega))
                  clear hr4 hf4
                  rw [str_bs]
                  go_wp2_with fail
                  refine ⟨⟨k + 1, by omega, by simp, ⟨HR4.out⟩, ⟨HB4.out⟩⟩, ?_⟩
                  simp only [intOf]
                  omega
                · obtain rfl : k = s.length := by omega
                  rw [List.take_length, HT.out] at HD
                  go_wp2_with fail
                  refine (alive_calls _).mono ?_
                  rintro e w5 ⟨rfl, hb5⟩
                  have HR5 := Lib.hid (HD.out.below hb5)
                  have HB5 := Lib.hid (below_step HB.out hb5)
                  clear hb5
                  have hdec : decide (t.length = t.length) = true := decide_eq_true rfl
                  go_wp2_with fail
                  refine (end_calls HR5.out).mono ?_
                  rintro e w6 ⟨rfl, hd6⟩
                  have HR6 := Lib.hid (HR5.out.below hd6.below)
                  have HB6 := Lib.hid (below_step HB5.out hd6.below)
                  clear hd6
                  go_wp2_with fail
                  refine (bad_calls HR6.out).mono ?_
                  rintro e w7 ⟨rfl, rfl⟩
                  go_wp2_with fail
                  go_ret
                  exact ⟨rfl, HB6.out⟩
end
end Go.Proofs.Yteencbkopkpelaa.Hand
