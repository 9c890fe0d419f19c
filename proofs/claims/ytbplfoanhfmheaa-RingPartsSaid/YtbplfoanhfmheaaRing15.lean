/- The walk of RingRooms. -/
import Derived.Test.YtbplfoanhfmheaaRing13
namespace Go.Proofs.Ytbplfoanhfmheaa.Hand
open Go.RowKit Go.Proofs.YtbplfoanhfmheaaW.PrintWords Go.Proofs.YtbplfoanhfmheaaW.PrintLast Go.Proofs.YtbplfoanhfmheaaW.PrintMore Go.Proofs.Ytbplfoanhfmheaa.PRingKeeps
attribute [local go_sem] max2_mx min2_mn max_two min_two
set_option linter.unusedVariables false
set_option linter.unusedSimpArgs false
theorem rd_mem (l : List S30) (k : Nat) (h : k < l.length) : rd_T30 l (k : Int) ∈ l := by
  unfold rd_T30
  rw [Int.toNat_natCast, List.getD_eq_getElem?_getD, List.getElem?_eq_getElem h]
  exact List.getElem_mem h
theorem sumS_mem : ∀ {l : List S30} {o : S30}, o ∈ l → o.f2.size ≤ sumS l
  | p :: l, o, h => by
    unfold sumS
    rcases List.mem_cons.1 h with rfl | h
    · omega
    · have := sumS_mem h
      omega
theorem fewB_size {l : List S30} (h : fewB l = true) : ∀ o ∈ l, o.f2.size ≤ 20000 := fun o ho => by
  have := sumS_mem ho
  have := of_decide_eq_true h
  omega
theorem doT_room {room : Nat} {s : ByteArray} (h : s.size ≤ room) (k : Int) (hk : k ≠ 1) (n : Int) (t : ByteArray) : (doT room s k n t).1.size ≤ room := by
  have hc := cutN_le n s.size
  unfold doT
  by_cases k0 : k = 0
  · rw [if_pos k0]
    have hw : wrT room s t ≤ t.size := Nat.min_le_left _ _
    have hw2 : wrT room s t ≤ freeT room s.size := Nat.min_le_right _ _
    rw [ByteArray.size_append, ba_tsize _ _ hw]
    unfold freeT at hw2
    omega
  rw [if_neg k0, if_neg hk]
  split
  · simp only [ByteArray.size_extract]; omega
  split
  · exact h
  split
  · simp only [ByteArray.size_extract]; omega
  split
  · exact Nat.zero_le _
  exact h
theorem doT_zero {room : Nat} {s : ByteArray} (k n : Int) (t : ByteArray) (hk : k = 0) : (doT room s k n t).2.1 = min (freeT room s.size : Int) t.size := by
  subst hk
  show ((wrT room s t : Nat) : Int) = _
  unfold wrT
  omega
theorem room_sum {room z f : Nat} (h : z ≤ room) (hf : freeT (room : Int) z = f) (hr : room ≤ 4096) : wrap64 ((z : Int) + f) = (room : Int) := by
  subst hf
  unfold freeT wrap64
  omega
theorem rooms_bad (room : Int) (A : Option Addr) (n c : Nat) (w : World) (h : room < 0 ∨ 4096 < room) : Calls Try.prog 7 #[.int .i64 room, .slice A n c] w fun e w' => e = .returned (.bool true) ∧ Below w.heap.size w w' := by
  go_enter Try.func7, Try.ntmps7
  go_wp2_with fail
  refine (new_bad room w h).mono ?_
  rintro e w1 ⟨rfl, rfl⟩
  go_wp2_with fail
  refine (alive_calls _).mono ?_
  rintro e w2 ⟨rfl, hb2⟩
  go_wp2_with fail
  go_ret
  exact ⟨rfl, hb2⟩
theorem rooms_many (room : Nat) (hroom : room ≤ 4096) (A : Option Addr) (c : Nat) (l : List S30) (w : World) (hr : Kd.C k30 w A l.length l) (hc : l.length ≤ c) (ho : ∀ o ∈ l, o.f2.size ≤ 140737488355328) (hf : fewB l = false) : Calls Try.prog 7 #[.int .i64 room, .slice A l.length c] w fun e w' => e = .returned (.bool true) ∧ Below w.heap.size w w' := by
  have HL : Hid (l.length ≤ 9223372036854775807) := Lib.hid hr.2.1
  go_enter Try.func7, Try.ntmps7
  go_wp2_with fail
  refine (new_good room w hroom).mono ?_
  rintro e w1 ⟨rfl, hr1, hb1⟩
  have HR1 := Lib.hid (Kd.C_below hr hb1)
  have HB1 := Lib.hid hb1
  clear hr hr1 hb1
  go_wp2_with fail
  refine (few_calls HR1.out hc HL.out ho).mono ?_
  rw [hf]
  rintro e w2 ⟨rfl, hb2⟩
  have HB2 := Lib.hid (below_step HB1.out hb2)
  clear hb2
  go_wp2_with fail
  refine (alive_calls _).mono ?_
  rintro e w3 ⟨rfl, hb3⟩
  go_wp2_with fail
  go_ret
  exact ⟨rfl, below_step HB2.out hb3⟩
theorem rooms_few (room : Nat) (hroom : room ≤ 4096) (A : Option Addr) (c : Nat) (l : List S30) (w : World) (hr : Kd.C k30 w A l.length l) (hc : l.length ≤ c) (ho : ∀ o ∈ l, o.f2.size ≤ 140737488355328) (hf : fewB l = true) : Calls Try.prog 7 #[.int .i64 room, .slice A l.length c] w fun e w' => e = .returned (.bool true) ∧ Below w.heap.size w w' := by
  have HL : Hid (l.length ≤ 9223372036854775807) := Lib.hid hr.2.1
  go_enter Try.func7, Try.ntmps7
  go_wp2_with fail
  refine (new_good room w hroom).mono ?_
  rintro e w1 ⟨rfl, hr1, hb1⟩
  obtain ⟨s0, hs0⟩ : ∃ s0, w.heap.size = s0 := ⟨_, rfl⟩
  have HT1 := Lib.hid (Txt.new (hs0 ▸ hr1))
  have HR1 := Lib.hid (Kd.C_below hr hb1)
  have HB1 : Hid (Below s0 w w1) := Lib.hid (hs0 ▸ hb1)
  have HR := Lib.hid hr
  simp only [hs0]
  clear hr hr1 hb1
  go_wp2_with fail
  refine (few_calls HR1.out hc HL.out ho).mono ?_
  rw [hf]
  rintro e w2 ⟨rfl, hb2⟩
  have HT2 := Lib.hid (HT1.out.below hb2)
  have HB2 := Lib.hid (HB1.out.trans (hb2.mono (by have := HT1.out.lt; omega)))
  clear hb2 HB1 HT1 HR1
  go_wp2_with fail
  have HLEN : Hid (l.length ≤ 200) := Lib.hid (of_decide_eq_true hf).1
  have HSZ : Hid (∀ o ∈ l, o.f2.size ≤ 20000) := Lib.hid (fewB_size hf)
  go_loopw [31] (fun u31 wr => ∃ k : Nat, k ≤ l.length ∧ u31 = .int .i64 k ∧ ∃ b s, s0 ≤ b ∧ s.size ≤ room ∧ Aside0 (Txt wr (s0 + 1) b room s) ∧ Aside0 (Below s0 w wr)) (fun u31 _ => l.length - (intOf u31).toNat)
  case atStart => exact ⟨0, Nat.zero_le _, rfl, s0, ⟨#[]⟩, Nat.le_refl _, by rw [ba_len0]; omega, ⟨HT2.out⟩, ⟨HB2.out⟩⟩
  case round =>
    obtain ⟨k, hk, rfl, b, s, hb, hs, HT, HB⟩ := hrel
    obtain ⟨wo, hwo⟩ : ∃ wo, wo = wr := ⟨_, rfl⟩
    rw [← hwo] at HT HB ⊢
    clear hwo
    by_cases hlt : k < l.length
    · obtain ⟨ad, rfl, hc0, hc1, hc2⟩ := at_T30 (Kd.C_below HR.out (by rw [hs0]; exact HB.out)) (k : Int) (by omega) (by omega)
      rw [Int.toNat_natCast] at hc0 hc1 hc2
      obtain ⟨o, ho2, hom⟩ : ∃ o, rd_T30 l (k : Int) = o ∧ o ∈ l := ⟨_, rfl, rd_mem l k hlt⟩
      rw [ho2] at hc0 hc1 hc2
      have hos := HSZ.out o hom
      clear ho2 hom
      obtain ⟨o0, o1, o2⟩ := o
      simp only at hc0 hc1 hc2 hos
      by_cases h1 : o0 = 1
      · subst h1
        go_wp2_with fail
        have hba := below_alloc (Below.refl wo.heap.size wo) (.cells #[.int .i64 1, .int .i64 o1, .string o2] 30)
        have hlt0 := HT.out.lt
        have hL := HLEN.out
        rw [wrap_inc k (by omega)]
        refine ⟨⟨k + 1, by omega, rfl, b, s, hb, hs, ⟨HT.out.below hba⟩, ⟨HB.out.trans (hba.mono (by omega))⟩⟩, ?_⟩
        simp only [intOf]
        omega
      · go_wp2_with fail
        have hba := below_alloc (Below.refl wo.heap.size wo) (.cells #[.int .i64 o0, .int .i64 o1, .string o2] 30)
        have hlt0 := HT.out.lt
        obtain ⟨q, hq⟩ : ∃ q, wo.heap.size = q := ⟨_, rfl⟩
        have hcells : (wo.alloc (.cells #[.int .i64 o0, .int .i64 o1, .string o2] 30)).heap[q]? = some (.cells #[.int .i64 o0, .int .i64 o1, .string o2] 30 (0, 0)) := by rw [← hq]; exact blk_new _ _
        simp only [hq]
        have hTa := HT.out.below hba
        have hBa := HB.out.trans (hba.mono (by omega))
        generalize wo.alloc _ = wa at hcells hTa hBa ⊢
        have hfree := Txt.free hTa (by omega) (by omega)
        refine hfree.mono ?_
        rintro e w4 ⟨rfl, hd4⟩
        have hb4 := hd4.below
        have HQ4 := Lib.hid ((hb4.block q (blk_lt hcells)).trans hcells)
        have HT4 := Lib.hid (hTa.below hb4)
        have hlta := hTa.lt
        have HB4 := Lib.hid (hBa.trans (hb4.mono (by omega)))
        have hq4 := blk_lt HQ4.out
        clear hd4 hb4 hfree hcells hTa hBa hba hc0 hc1 hc2 HT HB
        have hcell0 : w4.cell? ⟨q, 0, none⟩ = some (.int .i64 o0) := by rw [blk_cell HQ4.out]; rfl
        have hcell1 : w4.cell? ⟨q, 1, none⟩ = some (.int .i64 o1) := by rw [blk_cell HQ4.out]; rfl
        have hcell2 : w4.cell? ⟨q, 2, none⟩ = some (.string o2) := by rw [blk_cell HQ4.out]; rfl
        go_wp2_with fail
        refine (does_calls HT4.out (by omega) (by omega) o0 o1 o2 (by omega)).mono ?_
        rintro e w5 ⟨rfl, b5, ht5, hbb5, hf5⟩
        have hHT := HT4.out.lt
        have hr5 := doT_room (room := room) (s := s) hs o0 h1 o1 o2
        have hz5 := doT_zero (room := room) (s := s) o0 o1 o2
        have HQ5 := Lib.hid ((hf5.block q hq4 (by omega)).trans HQ4.out)
        have HB5 := Lib.hid (Fr.below HB4.out hf5 (by omega) (fun i hi => by omega))
        have hb5 : s0 ≤ b5 := by omega
        generalize doT (room : Int) s o0 o1 o2 = D at ht5 hr5 hz5 ⊢
        obtain ⟨s5, n5, x5⟩ := D
        simp only at ht5 hr5 hz5 ⊢
        have HT5 := Lib.hid ht5
        have hq5 := blk_lt HQ5.out
        clear ht5 hf5 hbb5 HQ4 HB4 HT4 hcell0 hcell1 hcell2
        have hcell0 : w5.cell? ⟨q, 0, none⟩ = some (.int .i64 o0) := by rw [blk_cell HQ5.out]; rfl
        have hcell1 : w5.cell? ⟨q, 1, none⟩ = some (.int .i64 o1) := by rw [blk_cell HQ5.out]; rfl
        have hcell2 : w5.cell? ⟨q, 2, none⟩ = some (.string o2) := by rw [blk_cell HQ5.out]; rfl
        go_wp2_with fail
        refine (Txt.len HT5.out).mono ?_
        rintro e w6 ⟨rfl, rfl⟩
        go_wp2_with fail
        refine (Txt.free HT5.out (by omega) (by omega)).mono ?_
        rintro e w6 ⟨rfl, hd6⟩
        have hb6 := hd6.below
        have hHT5 := HT5.out.lt
        have hcell0 : w6.cell? ⟨q, 0, none⟩ = some (.int .i64 o0) := pw_cell_below hb6 hcell0
        have hcell1 : w6.cell? ⟨q, 1, none⟩ = some (.int .i64 o1) := pw_cell_below hb6 hcell1
        have hcell2 : w6.cell? ⟨q, 2, none⟩ = some (.string o2) := pw_cell_below hb6 hcell2
        have HB6 := Lib.hid (HB5.out.trans (hb6.mono (by omega)))
        have HT6 := Lib.hid (HT5.out.below hb6)
        obtain ⟨z5, hz⟩ : ∃ z, s5.size = z := ⟨_, rfl⟩
        obtain ⟨f5, hf5⟩ : ∃ f, freeT (room : Int) z5 = f := ⟨_, rfl⟩
        have hsum : wrap64 ((z5 : Int) + f5) = (room : Int) := room_sum (by omega) hf5 hroom
        rw [hz, hf5]
        clear hd6 hb6 HT5 HB5 HQ5 hz hf5
        by_cases h0 : o0 = 0
        · have hn5 := hz5 h0
          subst h0 hn5
          go_wp2_with fail
          have hL := HLEN.out
          rw [wrap_inc k (by omega)]
          refine ⟨⟨k + 1, by omega, rfl, b5, s5, hb5, hr5, ⟨HT6.out⟩, ⟨HB6.out⟩⟩, ?_⟩
          simp only [intOf]
          omega
        · go_wp2_with fail
          have hL := HLEN.out
          rw [wrap_inc k (by omega)]
          refine ⟨⟨k + 1, by omega, rfl, b5, s5, hb5, hr5, ⟨HT6.out⟩, ⟨HB6.out⟩⟩, ?_⟩
          simp only [intOf]
          omega
    · obtain rfl : k = l.length := by omega
      go_wp2_with fail
      refine (alive_calls _).mono ?_
      rintro e w3 ⟨rfl, hb3⟩
      go_wp2_with fail
      go_ret
      refine ⟨rfl, ?_⟩
      rw [hs0]
      exact HB.out.trans (hb3.mono (by have := HT.out.lt; omega))
end Go.Proofs.Ytbplfoanhfmheaa.Hand
