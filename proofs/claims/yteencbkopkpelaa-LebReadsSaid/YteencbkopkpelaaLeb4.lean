/- What Put and Str write behind a row of the call's own; the law's own 'alive'. -/
import Derived.Test.YteencbkopkpelaaLeb3
namespace Go.Proofs.Yteencbkopkpelaa.Hand
open Go.RowKit Go.Proofs.YteencbkopkpelaaW.PrintWords Go.Proofs.YteencbkopkpelaaW.PrintLast Go.Proofs.YteencbkopkpelaaW.PrintMore Go.Proofs.Yteencbkopkpelaa.PLebReads
set_option linter.unusedVariables false
set_option linter.unusedSimpArgs false
theorem put_calls {w0 w : World} (hB : Below w0.heap.size w0 w) (v : Value) (l0 : List Int) (n : Int) (ho : Kd.R (Kd.int .u8) 5 w w0.heap.size (fun _ => True) v l0) (hn : n < 9223372036854775808) (hx : l0.length ≤ 140737488355000) :
    Calls Try.prog 19 #[v, .int .i64 n] w fun e w' => ∃ v0 : Value, e = .returned v0 ∧ Kd.R (Kd.int .u8) 5 w' w0.heap.size (fun _ => True) v0 (l0 ++ num n) ∧ Below w0.heap.size w0 w' :=
  (leb_Put.calls 20 (fun _ => True) v l0 n (l0 ++ num n) w0 w hB ho (put_is l0 n hn hx)).mono fun e w' ⟨v0, he, hr, hb, _⟩ => ⟨v0, he, Kd.R_mono hr (fun _ _ => trivial), hb⟩
set_option maxHeartbeats 4000000 in
set_option maxRecDepth 100000 in
theorem strput_calls {w0 w : World} (hB : Below w0.heap.size w0 w) (v : Value) (l0 : List Int) (s : ByteArray) (ho : Kd.R (Kd.int .u8) 5 w w0.heap.size (fun _ => True) v l0) (hs : s.size ≤ 1000000) (hx : l0.length ≤ 100000000) :
    Calls Try.prog 20 #[v, .string s] w fun e w' => ∃ v0 : Value, e = .returned v0 ∧ Kd.R (Kd.int .u8) 5 w' w0.heap.size (fun _ => True) v0 (l0 ++ num s.size ++ bs s) ∧ Below w0.heap.size w0 w' := by
  have HB := Aside0.mk hB
  have HO := Aside0.mk ho
  obtain ⟨A, c, rfl⟩ := Kd.R_slice ho
  have hnl := num_len (s.size : Int)
  have LM : Hid ((l0 ++ num (s.size : Int)).length + s.size < 140737488355328) := Lib.hid (by rw [List.length_append]; omega)
  clear hB ho
  obtain ⟨y, hy⟩ : ∃ y, l0 ++ num (s.size : Int) = y := ⟨_, rfl⟩
  have hput := put_calls HB.out (.slice A l0.length c) l0 (s.size : Int) HO.out (by omega) (by omega)
  rw [hy] at hput LM
  have HP := Lib.hid hput
  have HY := Lib.hid hy
  clear hput hy
  go_enter Try.func20, Try.ntmps20
  go_wp2_with fail
  refine HP.out.mono ?_
  rintro e w1 ⟨v1, rfl, hr1, hb1⟩
  have HO1 := Aside0.mk hr1
  have HB1 := Aside0.mk hb1
  clear hr1 hb1
  go_wp2_with ((at_builtin; refine print_append_str (w0 := w0) w0.heap.size rfl (.tmp 8) _ 22 9 5 rfl Try.underlying22 Try.underlying9 info5 v1 y s rfl rfl ?aO ?aB ?aS ?aL ?_; (case aB => exact HB1.out); (case aO => exact (Kd.own_of_R HO1.out)); (case aS => exact (below_size HB1.out)); (case aL => exact Nat.le_of_lt LM.out); intro v124 w7 ho0 hb hg; have ho := Kd.R_of_own (h1 := fun _ => rfl) (ok := fun _ => True) ho0 (fun _ _ => trivial); have HO2 := Aside0.mk ho; have HB2 := Aside0.mk hb; clear ho hb hg ho0))
  go_ret
  have h2 := HO2.out
  rw [← HY.out] at h2
  exact ⟨_, rfl, h2, HB2.out⟩
theorem alive_num : num 300 = [172, 2] := by decide
theorem alive_get : leb_Get.f 50 [128, 0] = some (0, 0) := by decide +kernel
theorem alive_int : rI [172, 2, 2, 97, 98, 7] 0 false 300 = (300, 2, false) := by decide +kernel
theorem alive_str : rS [172, 2, 2, 97, 98, 7] 2 false 5 = ([97, 98], 5, false) := by decide +kernel
theorem alive_byte : rB [172, 2, 2, 97, 98, 7] 5 false 6 = (0, 5, true) := by decide +kernel
theorem alive_bytes : Bytes [172, 2, 2, 97, 98, 7] := by
  intro c hc
  simp at hc
  omega
set_option maxHeartbeats 4000000 in
set_option maxRecDepth 100000 in
theorem alive_calls (w : World) : Calls Try.prog 8 #[] w fun e w' => e = .returned (.bool true) ∧ Below w.heap.size w w' := by
  obtain ⟨s0, hs0⟩ : ∃ s0, w.heap.size = s0 := ⟨_, rfl⟩
  go_enter Try.func8, Try.ntmps8
  go_wp2_with fail
  generalize hwa : w.alloc _ = wa
  have hba : Below w.heap.size w wa := hwa ▸ below_alloc (Below.refl _ _) _
  have hca : (Kd.int .u8).C wa (some ⟨s0, 0, none⟩) [172, 2, 2, 97, 98, 7].length [172, 2, 2, 97, 98, 7] := hwa ▸ C_new hs0.symm _ _ _ [172, 2, 2, 97, 98, 7] rfl (by decide)
  have HBA := Lib.hid (hs0 ▸ hba : Below s0 w wa)
  clear hwa hba
  refine (new_calls (some ⟨s0, 0, none⟩) 6 [172, 2, 2, 97, 98, 7] wa hca (by decide) (by decide)).mono ?_
  rintro e w1 ⟨g, rfl, hg, hr, hb⟩
  obtain ⟨b1, hb1⟩ : ∃ b1, wa.heap.size = b1 := ⟨_, rfl⟩
  rw [hb1] at hr hg hb
  have hsz : s0 ≤ b1 := by have := HBA.out.size; omega
  have HB1 := Lib.hid (HBA.out.trans (hb.mono hsz))
  have HR1 := Lib.hid hr
  clear hr hb hca HBA
  go_wp2_with fail
  generalize hwc : w1.alloc _ = wc
  have hbc : Below w1.heap.size w1 wc := hwc ▸ below_alloc (Below.refl _ _) _
  have hcc : (Kd.int .u8).C wc (some ⟨w1.heap.size, 0, none⟩) [128, 0].length [128, 0] := hwc ▸ C_new rfl _ _ _ [128, 0] rfl (by decide)
  have HR2 := Lib.hid (HR1.out.below hbc)
  have HB2 := Lib.hid (HB1.out.trans (hbc.mono (by have := HR1.out.lt; omega)))
  clear hwc hbc HR1 HB1
  refine (leb_Get.calls 50 _ 2 [128, 0] 0 0 wc hcc (by decide) alive_get).mono ?_
  rintro e w2 ⟨rfl, hb2⟩
  have HR3 := Lib.hid (HR2.out.below hb2)
  have HB3 := Lib.hid (HB2.out.trans (hb2.mono (by have := HR2.out.lt; omega)))
  clear hb2 hcc HR2 HB2
  go_wp2_with fail
  refine (int_calls HR3.out alive_bytes 300).mono ?_
  rw [alive_int]
  rintro e w3 ⟨rfl, hr3, hf3⟩
  have HR4 := Lib.hid hr3
  have HB4 := Lib.hid (Fr.below HB3.out hf3 (by have := HR3.out.lt; omega) (fun i hi => by omega))
  clear hr3 hf3 HR3 HB3
  go_wp2_with fail
  refine (str_calls HR4.out alive_bytes 5).mono ?_
  rw [alive_str]
  rintro e w4 ⟨rfl, hr4, hf4⟩
  have HR5 := Lib.hid hr4
  have HB5 := Lib.hid (Fr.below HB4.out hf4 (by have := HR4.out.lt; omega) (fun i hi => by omega))
  have hst : ((strOfNums [97, 98]).toList == [97, 98]) = true := by decide +kernel
  clear hr4 hf4 HR4 HB4
  go_wp2_with fail
  refine (left_calls HR5.out).mono ?_
  rintro e w5 ⟨rfl, hd5⟩
  have HR6 := Lib.hid (HR5.out.below hd5.below)
  have HB6 := Lib.hid (HB5.out.trans (hd5.below.mono (by have := HR5.out.lt; omega)))
  clear hd5 HR5 HB5
  go_wp2_with fail
  refine (at_calls HR6.out).mono ?_
  rintro e w6 ⟨rfl, rfl⟩
  go_wp2_with fail
  refine (byte_calls HR6.out alive_bytes 6).mono ?_
  rw [alive_byte]
  rintro e w6 ⟨rfl, hr6, hf6⟩
  have HR7 := Lib.hid hr6
  have HB7 := Lib.hid (Fr.below HB6.out hf6 (by have := HR6.out.lt; omega) (fun i hi => by omega))
  clear hr6 hf6 HR6 HB6
  go_wp2_with fail
  refine (bad_calls HR7.out).mono ?_
  rintro e w7 ⟨rfl, rfl⟩
  go_wp2_with fail
  refine (end_calls HR7.out).mono ?_
  rintro e w7 ⟨rfl, hd7⟩
  have hlt7 := HR7.out.lt
  have HB8 := Lib.hid (HB7.out.trans (hd7.below.mono (by omega)))
  have hs7 := hd7.below.size
  clear hd7
  go_wp2_with fail
  refine (put_calls (Below.refl w7.heap.size w7) (.slice none 0 0) [] 300 (Kd.R_nil _ _ _ _ _) (by decide) (by decide)).mono ?_
  rintro e w8 ⟨v8, rfl, hr8, hb8⟩
  rw [alive_num, List.nil_append] at hr8
  obtain ⟨A8, c8, rfl, hl8, hC8⟩ := Kd.R_reads hr8
  have hcv : (convert 22 9 (.slice A8 2 c8)).run Try.prog w8 = .ok (.string (strOfNums [172, 2])) w8 := Kd.C_string (P := Try.prog) Try.underlying22 Try.underlying5 Try.underlying9 hC8
  have hst8 : ((strOfNums [172, 2]).toList == [172, 2]) = true := by decide +kernel
  have HB9 := Lib.hid (HB8.out.trans (hb8.mono (by omega)))
  clear hr8 hC8 hb8
  go_wp2_with fail
  go_ret
  refine ⟨rfl, ?_⟩
  rw [hs0]
  exact HB9.out
end Go.Proofs.Yteencbkopkpelaa.Hand
