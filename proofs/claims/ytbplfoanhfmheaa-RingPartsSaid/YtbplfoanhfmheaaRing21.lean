/- The walk of RingParts. -/
import Derived.Test.YtbplfoanhfmheaaRing16
namespace Go.Proofs.Ytbplfoanhfmheaa.Hand
open Go.RowKit Go.Proofs.YtbplfoanhfmheaaW.PrintWords Go.Proofs.YtbplfoanhfmheaaW.PrintLast Go.Proofs.YtbplfoanhfmheaaW.PrintMore
attribute [local go_sem] max2_mx min2_mn max_two min_two
set_option linter.unusedVariables false
set_option linter.unusedSimpArgs false
def TParts : Bool × List (List Nat × List Nat) := (true, [([], []), ([], []), ([1], [1]), ([0, 2], [0, 2]), ([3], [3]), ([], []), ([], []), ([6], [6]), ([5, 7, 3], [5, 7]), ([8], [8]), ([4, 9], [4, 9]), ([10, 8, 0, 1, 2, 3, 4, 5, 6, 7, 8, 9, 10], [10])])
def BParts : List Nat := [0, 0, 2, 7, 15, 0, 0, 64, 239, 495, 1023, 2047]
theorem tabParts : rtab .any (opsOf Try.f4 9) = TParts := by kernel_rfl
theorem bitsParts : waitsOk TParts.2 BParts = true := by kernel_rfl
theorem parts_text (room : Nat) (s : ByteArray) (c0 n1 n2 n : Nat) (h : c0 ≤ s.size) (h1 : wrT room ⟨#[]⟩ (s.extract 0 c0) = n1) (h2 : wrT room ((s.extract 0 c0).extract 0 n1) (s.extract c0 s.size) = n2) (hn : wrT room ⟨#[]⟩ s = n) :
    n1 + n2 = n ∧ (s.extract 0 c0).extract 0 n1 ++ (s.extract c0 s.size).extract 0 n2 = s.extract 0 n := by
  have z0 : (s.extract 0 c0).size = c0 := ba_tsize _ _ h
  have zb : (s.extract c0 s.size).size = s.size - c0 := by rw [ByteArray.size_extract]; omega
  have hn1 : n1 = min c0 room := by rw [← h1]; unfold wrT freeT; rw [z0, ba_len0]; omega
  have z1 : ((s.extract 0 c0).extract 0 n1).size = n1 := ba_tsize _ _ (by omega)
  have hn2 : n2 = min (s.size - c0) (room - n1) := by rw [← h2]; unfold wrT freeT; rw [z1, zb]; omega
  have hnn : n = min s.size room := by rw [← hn]; unfold wrT freeT; rw [ba_len0]; omega
  refine ⟨by omega, bs_inj ?_⟩
  rw [bs_append, ← bs_take, ← bs_take, ← bs_take, ← bs_drop, ← bs_take]
  by_cases hc : c0 ≤ room
  · obtain rfl : n1 = c0 := by omega
    obtain rfl : n = n1 + n2 := by omega
    rw [List.take_take, Nat.min_self, List.take_add]
  · obtain rfl : n2 = 0 := by omega
    obtain rfl : n = n1 := by omega
    rw [List.take_take, List.take_zero, List.append_nil, Nat.min_eq_left (by omega)]
theorem parts_wrap (a b c : Nat) (h : a + b = c) (hc : c ≤ 1000000) : wrap64 ((a : Int) + b) = (c : Int) := by
  subst h
  unfold wrap64
  omega
theorem parts_bad (room c0 c1 : Int) (s : ByteArray) (w : World) (h : room < 0 ∨ 4096 < room) : Calls Try.prog 4 #[.int .i64 room, .string s, .agg #[.int .i64 c0, .int .i64 c1]] w fun e w' => e = .returned (.bool true) ∧ Below w.heap.size w w' := by
  go_enter Try.func4, Try.ntmps4
  go_wp2_with fail
  generalize hwa : w.alloc _ = wa
  have hba : Below w.heap.size w wa := hwa ▸ below_alloc (Below.refl _ _) _
  have HB := Lib.hid hba
  clear hwa hba
  refine (new_bad room wa h).mono ?_
  rintro e w1 ⟨rfl, rfl⟩
  go_wp2_with fail
  refine (new_bad room wa h).mono ?_
  rintro e w1 ⟨rfl, rfl⟩
  go_wp2_with fail
  refine (alive_calls _).mono ?_
  rintro e w2 ⟨rfl, hb2⟩
  go_wp2_with fail
  go_ret
  exact ⟨rfl, below_step HB.out hb2⟩
theorem parts_skip (room : Nat) (hroom : room ≤ 4096) (c0 c1 : Int) (s : ByteArray) (hs : s.size ≤ 140737488355328) (w : World) (h : 5000 < s.size ∨ c0 < 0 ∨ (s.size : Int) < c0 ∨ c1 < 0) : Calls Try.prog 4 #[.int .i64 room, .string s, .agg #[.int .i64 c0, .int .i64 c1]] w fun e w' => e = .returned (.bool true) ∧ Below w.heap.size w w' := by
  have h' : (5000 : Int) < s.size ∨ (¬ (5000 : Int) < s.size ∧ c0 < 0) ∨ (¬ (5000 : Int) < s.size ∧ 0 ≤ c0 ∧ (s.size : Int) < c0) ∨ (¬ (5000 : Int) < s.size ∧ 0 ≤ c0 ∧ c0 ≤ (s.size : Int) ∧ c1 < 0) := by omega
  clear h
  rcases h' with h | ⟨h1, h⟩ | ⟨h1, h2, h⟩ | ⟨h1, h2, h3, h⟩
  all_goals
    go_enter Try.func4, Try.ntmps4
    go_wp2_with fail
    obtain ⟨q, hq⟩ : ∃ q, w.heap.size = q := ⟨_, rfl⟩
    have hcells : (w.alloc (.cells #[.int .i64 c0, .int .i64 c1] 37)).heap[q]? = some (.cells #[.int .i64 c0, .int .i64 c1] 37 (0, 0)) := by rw [← hq]; exact blk_new _ _
    have hba : Below q w (w.alloc (.cells #[.int .i64 c0, .int .i64 c1] 37)) := hq ▸ below_alloc (Below.refl _ _) _
    simp only [hq]
    generalize w.alloc _ = wa at hcells hba ⊢
    have hqa := blk_lt hcells
    refine (new_good room wa hroom).mono ?_
    rintro e w1 ⟨rfl, hr1, hb1⟩
    have hc1 := (hb1.block q hqa).trans hcells
    have hB1 := hba.trans (hb1.mono (by omega))
    have hq1 := blk_lt hc1
    clear hr1 hb1 hcells hba
    have HC := Lib.hid hc1
    have HB := Lib.hid hB1
    clear hc1 hB1
    go_wp2_with fail
    refine (new_good room w1 hroom).mono ?_
    rintro e w2 ⟨rfl, hr2, hb2⟩
    have hC2 := (hb2.block q hq1).trans HC.out
    have HB2 := Lib.hid (HB.out.trans (hb2.mono (by omega)))
    have hq2 := blk_lt hC2
    have hx0 : w2.cell? ⟨q, 0, none⟩ = some (.int .i64 c0) := (blk_cell hC2 0).trans rfl
    have hx1 : w2.cell? ⟨q, 1, none⟩ = some (.int .i64 c1) := (blk_cell hC2 1).trans rfl
    clear hr2 hb2 HC HB hC2
    go_wp2_with fail
    refine (alive_calls _).mono ?_
    rintro e w3 ⟨rfl, hb3⟩
    go_wp2_with fail
    go_ret
    refine ⟨rfl, ?_⟩
    rw [hq]
    exact HB2.out.trans (hb3.mono (by omega))
set_option maxHeartbeats 8000000 in
set_option maxRecDepth 100000 in
theorem parts_few (room : Nat) (hroom : room ≤ 4096) (c0 c1 : Nat) (s : ByteArray) (hs : s.size ≤ 5000) (h0 : c0 ≤ s.size) (w : World) : Calls Try.prog 4 #[.int .i64 room, .string s, .agg #[.int .i64 c0, .int .i64 c1]] w fun e w' => e = .returned (.bool true) ∧ Below w.heap.size w w' := by
  have kb := fun W (s : ByteArray) => print_bytes (P := Try.prog) 9 32 5 Try.underlying9 Try.underlying32 Try.underlying5 s W
  go_enter Try.func4, Try.ntmps4
  go_wp2_with fail
  obtain ⟨q, hq⟩ : ∃ q, w.heap.size = q := ⟨_, rfl⟩
  have hcells : (w.alloc (.cells #[.int .i64 c0, .int .i64 c1] 37)).heap[q]? = some (.cells #[.int .i64 c0, .int .i64 c1] 37 (0, 0)) := by rw [← hq]; exact blk_new _ _
  have hba : Below q w (w.alloc (.cells #[.int .i64 c0, .int .i64 c1] 37)) := hq ▸ below_alloc (Below.refl _ _) _
  simp only [hq]
  generalize w.alloc _ = wa at hcells hba ⊢
  have hqa := blk_lt hcells
  refine (new_good room wa hroom).mono ?_
  rintro e w1 ⟨rfl, hr1, hb1⟩
  obtain ⟨s0, hs0⟩ : ∃ s0, wa.heap.size = s0 := ⟨_, rfl⟩
  have hq0 : q < s0 := by omega
  have HT1 := Lib.hid (Txt.new (hs0 ▸ hr1))
  have HC1 := Lib.hid ((hb1.block q hqa).trans hcells)
  have HB1 := Lib.hid (hba.trans (hb1.mono (by omega)))
  simp only [hs0]
  clear hr1 hb1 hcells hba
  go_wp2_with fail
  refine (new_good room w1 hroom).mono ?_
  rintro e w2 ⟨rfl, hr2, hb2⟩
  obtain ⟨s1, hs1⟩ : ∃ s1, w1.heap.size = s1 := ⟨_, rfl⟩
  have hlt1 := HT1.out.lt
  have hq1 : s0 + 1 < s1 := by omega
  have HU2 := Lib.hid (Txt.new (hs1 ▸ hr2))
  have HT2 := Lib.hid (HT1.out.below hb2)
  have HC2 := Lib.hid ((hb2.block q (by omega)).trans HC1.out)
  have HB2 := Lib.hid (HB1.out.trans (hb2.mono (by omega)))
  simp only [hs1]
  clear hr2 hb2 HT1 HC1 HB1 hlt1
  have hx0 : w2.cell? ⟨q, 0, none⟩ = some (.int .i64 (c0 : Int)) := (blk_cell HC2.out 0).trans rfl
  have hx1 : w2.cell? ⟨q, 1, none⟩ = some (.int .i64 (c1 : Int)) := (blk_cell HC2.out 1).trans rfl
  have hcm : ¬ (5000 : Int) < s.size := by omega
  have hc0 : ¬ (s.size : Int) < c0 := by omega
  go_wp2_with fail
  obtain ⟨n, hn⟩ : ∃ n, wrT room ⟨#[]⟩ s = n := ⟨_, rfl⟩
  have hns : n ≤ s.size := hn ▸ Nat.min_le_left _ _
  have hw := Txt.write HT2.out (by omega) (by omega) s (grownCap w2 s.size 0 5) (grownCap_ge w2 s.size 0 5) (by rw [ba_len0]; omega)
  rw [hn, ba_nil] at hw
  have HN := Lib.hid hn
  clear hn
  have hlt2 := HT2.out.lt
  have hlu2 := HU2.out.lt
  have hq2 := blk_lt HC2.out
  refine hw.mono ?_
  rintro e w3 ⟨rfl, b3, ht3, hbb3, hf3⟩
  have HT3 := Lib.hid ht3
  have hb3 : s0 = b3 ∨ s1 + 1 < b3 := by omega
  have HU3 := Lib.hid (HU2.out.keep hf3 (by omega) (by omega))
  have hC3 := (hf3.block q hq2 (by omega)).trans HC2.out
  have HB3 := Lib.hid (Fr.below HB2.out hf3 (by omega) (fun i hi => by omega))
  have hx0' : w3.cell? ⟨q, 0, none⟩ = some (.int .i64 (c0 : Int)) := (blk_cell hC3 0).trans rfl
  have HC3 := Lib.hid hC3
  clear ht3 hbb3 hf3 hw HT2 HU2 HC2 HB2 hx0 hx1 hlt2 hlu2 hq2 hC3
  go_wp2_with fail
  obtain ⟨sa, hsa⟩ : ∃ sa, s.extract 0 c0 = sa := ⟨_, rfl⟩
  have hsz : sa.size = c0 := hsa ▸ ba_tsize _ _ h0
  have HSA := Lib.hid hsa
  rw [hsa]
  clear hsa
  obtain ⟨n1, hn1⟩ : ∃ n1, wrT room ⟨#[]⟩ sa = n1 := ⟨_, rfl⟩
  have hn1s : n1 ≤ c0 := hsz ▸ hn1 ▸ Nat.min_le_left _ _
  have hw := Txt.write HU3.out (by omega) (by omega) sa (grownCap w3 c0 0 5) (by rw [hsz]; exact grownCap_ge w3 c0 0 5) (by rw [ba_len0]; omega)
  rw [hn1, ba_nil, hsz] at hw
  have HN1 := Lib.hid hn1
  have HSZ := Lib.hid hsz
  clear hn1 hsz
  have hlt3 := HT3.out.lt
  have hlu3 := HU3.out.lt
  have hq3 := blk_lt HC3.out
  refine hw.mono ?_
  rintro e w4 ⟨rfl, b4, hu4, hbb4, hf4⟩
  have HU4 := Lib.hid hu4
  have hb4 : s1 ≤ b4 := by omega
  have hb43 : b4 ≠ b3 := by omega
  have HT4 := Lib.hid (HT3.out.keep hf4 (by omega) (by omega))
  have hC4 := (hf4.block q hq3 (by omega)).trans HC3.out
  have HB4 := Lib.hid (Fr.below HB3.out hf4 (by omega) (fun i hi => by omega))
  have hx0' : w4.cell? ⟨q, 0, none⟩ = some (.int .i64 (c0 : Int)) := (blk_cell hC4 0).trans rfl
  have HC4 := Lib.hid hC4
  clear hu4 hf4 hw HT3 HU3 HC3 HB3 hx0' hlt3 hlu3 hq3 hbb4
  have hx0' : w4.cell? ⟨q, 0, none⟩ = some (.int .i64 (c0 : Int)) := (blk_cell hC4 0).trans rfl
  clear hC4
  go_wp2_with fail
  obtain ⟨sb, hsb⟩ : ∃ sb, s.extract c0 s.size = sb := ⟨_, rfl⟩
  have hszb : sb.size = s.size - c0 := by rw [← hsb, ByteArray.size_extract]; omega
  have HSB := Lib.hid hsb
  rw [hsb]
  clear hsb
  obtain ⟨n2, hn2⟩ : ∃ n2, wrT room (sa.extract 0 n1) sb = n2 := ⟨_, rfl⟩
  have hpt : n1 + n2 = n ∧ sa.extract 0 n1 ++ sb.extract 0 n2 = s.extract 0 n := by
    have h1 := HN1.out
    have h2 := HSA.out
    have h3 := HSB.out
    subst h2
    subst h3
    exact parts_text room s c0 n1 n2 n h0 h1 hn2 HN.out
  have hw := Txt.write HU4.out (by omega) (by omega) sb (grownCap w4 (s.size - c0) 0 5) (by rw [hszb]; exact grownCap_ge w4 (s.size - c0) 0 5) (by rw [ByteArray.size_extract]; have := HSZ.out; omega)
  rw [hn2, hpt.2, hszb] at hw
  obtain ⟨x, hx⟩ : ∃ x, s.extract 0 n = x := ⟨_, rfl⟩
  have hxz : x.size = n := hx ▸ ba_tsize _ _ hns
  rw [hx] at hw HT4
  have HXS := Lib.hid hx
  have HXZ := Lib.hid hxz
  have HSUM := Lib.hid (parts_wrap n1 n2 n hpt.1 (by omega))
  clear hn2 hszb hpt hx hxz HSA HSB HSZ HN1
  have hlt4 := HT4.out.lt
  have hlu4 := HU4.out.lt
  have hq4 := blk_lt HC4.out
  refine hw.mono ?_
  rintro e w5 ⟨rfl, b5, hu5, hbb5, hf5⟩
  have HU5 := Lib.hid hu5
  have hb5 : s1 ≤ b5 := by omega
  have hb53 : b5 ≠ b3 := by omega
  have HT5 := Lib.hid (HT4.out.keep hf5 (by omega) (by omega))
  have HC5 := Lib.hid ((hf5.block q hq4 (by omega)).trans HC4.out)
  have HB5 := Lib.hid (Fr.below HB4.out hf5 (by omega) (fun i hi => by omega))
  have hlt5 := HT5.out.lt
  have hlu5 := HU5.out.lt
  clear hu5 hf5 hw HT4 HU4 HC4 HB4 hx0' hlt4 hlu4 hq4 hbb5
  have hsum := HSUM.out
  go_wp2_with fail
  clear hsum
  have hw := Txt.read HT5.out (s.size : Int) (by rw [HXZ.out]; omega)
  have hcut : cutN (s.size : Int) x.size = n := by rw [HXZ.out]; unfold cutN; omega
  have hxx : x.extract 0 n = x := ba_all _ _ (Nat.le_of_eq HXZ.out)
  rw [hcut, hxx] at hw
  refine hw.mono ?_
  rintro e w6 ⟨rfl, hrow, ht6, hf6⟩
  have hcv := Row.conv (c := n) hrow HXZ.out (by rw [HXZ.out]; omega)
  have HU6 := Lib.hid (HU5.out.keep hf6 (by omega) (by omega))
  have HC6 := Lib.hid ((hf6.block q (blk_lt HC5.out) (by omega)).trans HC5.out)
  have HB6 := Lib.hid (Fr.below HB5.out hf6 (by omega) (fun i hi => by omega))
  clear hrow ht6 hf6 hw hcut hxx HT5 HU5 HC5 HB5 hlt5 hlu5
  go_wp2_with fail
  rw [HSUM.out]
  obtain ⟨k, hk⟩ : ∃ k, cutN (c1 : Int) x.size = k := ⟨_, rfl⟩
  have hkn : k ≤ n := by have := cutN_le (c1 : Int) x.size; have := HXZ.out; omega
  obtain ⟨x1, hx1⟩ : ∃ x1, x.extract 0 k = x1 := ⟨_, rfl⟩
  obtain ⟨x2, hx2⟩ : ∃ x2, x.extract k x.size = x2 := ⟨_, rfl⟩
  obtain ⟨k2, hk2⟩ : ∃ k2, n - k = k2 := ⟨_, rfl⟩
  have HZ1 : Hid (x1.size = k) := Lib.hid (hx1 ▸ ba_tsize _ _ (by have := HXZ.out; omega))
  have HZ2 : Hid (x2.size = k2) := Lib.hid (by rw [← hx2, ByteArray.size_extract]; have := HXZ.out; omega)
  have HSP : Hid (x1 ++ x2 = x) := Lib.hid (by rw [← hx1, ← hx2]; exact (ba_split x k (by have := HXZ.out; omega)).symm)
  have HK := Lib.hid hk
  have HX1 : Hid (x.extract 0 (cutN (c1 : Int) x.size) = x1) := Lib.hid (by rw [hk]; exact hx1)
  have HX2 : Hid (x.extract (cutN (c1 : Int) x.size) x.size = x2) := Lib.hid (by rw [hk]; exact hx2)
  have HK2 : Hid (cutN (s.size : Int) x2.size = k2) := Lib.hid (by rw [HZ2.out]; unfold cutN; omega)
  have HX3 : Hid (x2.extract 0 k2 = x2) := Lib.hid (ba_all _ _ (Nat.le_of_eq HZ2.out))
  have hk2n : k2 ≤ n := by omega
  clear hk hx1 hx2 hk2 hcv
  have HUU : Aside0 (Txt w6.drew (s1 + 1) b5 room x) := ⟨HU6.out.below (below_drew1 (Below.refl _ _))⟩
  have HBB : Aside0 (Below q w w6.drew) := ⟨below_drew1 HB6.out⟩
  have HCC : Aside0 (w6.drew.heap[q]? = some (.cells #[.int .i64 (c0 : Int), .int .i64 (c1 : Int)] 37 (0, 0))) := ⟨HC6.out⟩
  obtain ⟨s6, hs6⟩ : ∃ s6, w6.heap.size = s6 := ⟨_, rfl⟩
  have hsd : w6.drew.heap.size = s6 := hs6
  have hlt6 := HU6.out.lt
  rw [hs6] at hlt6
  clear hs6 HU6 HB6 HC6
  refine start_ (n := 12) (S := fun w' => w'.cell? ⟨q, 1, none⟩ = some (.int .i64 (c1 : Int))) (ds := []) #[false, false, false, false, false, false, false, false, false, false, false, false] (by kernel_rfl) rfl rfl ((blk_cell HCC.out 1).trans rfl) (fun hHeld => ?_); refine with_tabW tabParts bitsParts (fun HT_ HW_ => ?_)
  generalize w6.drew = wd at HUU HBB HCC hHeld hsd ⊢
  refine pure_ (i := 0) (N := some 87) (v := ?_) (a' := ?_) #[true, false, false, false, false, false, false, false, false, false, false, false] rfl rfl (any_of HT_.out (by kernel_rfl)) (fun _ _ _ h => h) (Or.inl ⟨by rfl, ?_⟩) ?_ ?_
  rotate_left
  · intro w'
    go_simp
    with_reducible rfl
  rotate_left
  · simp only [Act.put, List.setIfInBounds_toArray, List.set_cons_zero, List.set_cons_succ, i64_w, i32_w]
    rfl
  refine pure_ (i := 1) (N := some 88) (v := ?_) (a' := ?_) #[true, true, false, false, false, false, false, false, false, false, false, false] rfl rfl (any_of HT_.out (by kernel_rfl)) (fun _ _ _ h => h) (Or.inl ⟨by rfl, ?_⟩) ?_ ?_
  rotate_left
  · intro w'
    go_simp
    with_reducible rfl
  rotate_left
  · simp only [Act.put, List.setIfInBounds_toArray, List.set_cons_zero, List.set_cons_succ, i64_w, i32_w]
    rfl
  refine pure_ (i := 5) (N := some 92) (v := ?_) (a' := ?_) #[true, true, false, false, false, true, false, false, false, false, false, false] rfl rfl (any_of HT_.out (by kernel_rfl)) (fun _ _ _ h => h) (Or.inl ⟨by rfl, ?_⟩) ?_ ?_
  rotate_left
  · intro w'
    go_simp
    with_reducible rfl
  rotate_left
  · simp only [Act.put, List.setIfInBounds_toArray, List.set_cons_zero, List.set_cons_succ, i64_w, i32_w]
    rfl
  refine pure_ (i := 6) (N := some 93) (v := ?_) (a' := ?_) #[true, true, false, false, false, true, true, false, false, false, false, false] rfl rfl (any_of HT_.out (by kernel_rfl)) (fun _ _ _ h => h) (Or.inl ⟨by rfl, ?_⟩) ?_ ?_
  rotate_left
  · intro w'
    go_simp
    with_reducible rfl
  rotate_left
  · simp only [Act.put, List.setIfInBounds_toArray, List.set_cons_zero, List.set_cons_succ, i64_w, i32_w]
    rfl
  refine pure_ (i := 7) (N := some 94) (v := ?_) (a' := ?_) #[true, true, false, false, false, true, true, true, false, false, false, false] rfl rfl (any_of HT_.out (by kernel_rfl)) (fun _ _ _ h => h) (Or.inl ⟨by rfl, ?_⟩) ?_ ?_
  rotate_left
  · intro w'
    go_simp
    with_reducible rfl
  rotate_left
  · simp only [Act.put, List.setIfInBounds_toArray, List.set_cons_zero, List.set_cons_succ, i64_w, i32_w]
    rfl
  refine take_ (i := 2) (N := some 89) (v := ?_) (a' := ?_) #[true, true, true, false, false, true, true, true, false, false, false, false] rfl rfl (take_ofW HT_.out HW_.out (by kernel_rfl)) (fun _ _ _ h => h) (Or.inl ⟨by rfl, ?_⟩) hHeld ?_ ?_
  rotate_left
  · rintro w' s0_
    go_simp
    with_reducible rfl
  rotate_left
  · simp only [Act.put, List.setIfInBounds_toArray, List.set_cons_zero, List.set_cons_succ, i64_w, i32_w]
    rfl
  refine one_ (i := 3) (N := some 90) #[true, true, true, true, false, true, true, true, false, false, false, false] rfl rfl (one_of HT_.out (by kernel_rfl)) (by decide) (fun K hK => ?_)
  refine goes_ Try.func15 (by kernel_rfl) rfl #[.pointer (some ⟨s1 + 1, 0, none⟩), .int .i64 (c1 : Int)] (by rfl) rfl rfl (by (try simp only [List.map_toArray, List.map_cons, List.map_nil]); first | done | rfl) ?_
  refine (Txt.read HUU.out (c1 : Int) (by have := HXZ.out; omega)).mono ?_
  rw [HX1.out, HX2.out, HK.out, hsd]
  rintro e w7 ⟨rfl, hr1_, hu_, hf_⟩
  have n0_ := Aside0.mk hu_; have n1_ := Aside0.mk (Fr.below HBB.out hf_ (by have := blk_lt HCC.out; omega) (fun i hi => by omega)); have n2_ := Aside0.mk ((hf_.block q (blk_lt HCC.out) (by omega)).trans HCC.out); have HR1 := Aside0.mk hr1_; clear HUU HBB HCC; have HUU := n0_; have HBB := n1_; have HCC := n2_; clear n0_ n1_ n2_ hr1_ hu_ hf_
  obtain ⟨s7, hs7⟩ : ∃ s7, w7.heap.size = s7 := ⟨_, rfl⟩
  have hr7 := Row.lt HR1.out
  refine ⟨_, rfl, ?_⟩
  refine hK.out _ _ ((blk_cell HCC.out 1).trans rfl) (fun hHeld => ?_)
  clear hK K
  refine norm_ (a' := ?_) ?_ ?_
  rotate_left
  · show Act.put _ (some 90) _ = _
    simp only [Act.put, List.setIfInBounds_toArray, List.set_cons_zero, List.set_cons_succ, i64_w, i32_w]
    rfl
  refine join_ (σ := Unit) 2 #[true, true, true, true, true, true, true, true, true, true, false, false] (fun _ => [(91, .string x1), (95, .slice (some ⟨s7, 0, none⟩) k2 k2), (96, .string x2)]) (fun _ w' => Aside0 (Below q w w')) (fun _ w8 HBE => ?_) (fun hcont => ?_)
  rotate_left
  · refine two_ (i := 4) (j := 8) (Ni := some 91) (Nj := some 95) #[true, true, true, true, true, true, true, true, false, false, false, false] #[true, true, true, true, false, true, true, true, true, false, false, false] rfl rfl rfl rfl (two_of HT_.out (by kernel_rfl)) (by decide) (by decide) (fun K hK => ?_) (fun K hK => ?_)
    · refine value_ (by rfl) rfl (v := .string x1) (w1 := w7) ?_ ?_
      · have hcv := Row.conv (c := k) HR1.out HZ1.out (by have := HZ1.out; omega)
        go_simp
      refine hK.out _ _ ((blk_cell HCC.out 1).trans rfl) (fun hHeld => ?_)
      clear hK K
      refine norm_ (a' := ?_) ?_ ?_
      rotate_left
      · show Act.put _ (some 91) _ = _
        simp only [Act.put, List.setIfInBounds_toArray, List.set_cons_zero, List.set_cons_succ, i64_w, i32_w]
        rfl
      refine one_ (i := 8) (N := some 95) #[true, true, true, true, true, true, true, true, true, false, false, false] rfl rfl (one_of HT_.out (by kernel_rfl)) (by decide) (fun K hK => ?_)
      refine goes_ Try.func15 (by kernel_rfl) rfl #[.pointer (some ⟨s1 + 1, 0, none⟩), .int .i64 (s.size : Int)] (by rfl) rfl rfl (by (try simp only [List.map_toArray, List.map_cons, List.map_nil]); first | done | rfl) ?_
      refine (Txt.read HUU.out (s.size : Int) (by have := HZ2.out; omega)).mono ?_
      rw [HK2.out, HX3.out, hs7]
      rintro e w8 ⟨rfl, hr2_, hu_, hf_⟩
      have n1_ := Aside0.mk (Fr.below HBB.out hf_ (by have := blk_lt HCC.out; omega) (fun i hi => by omega)); have n2_ := Aside0.mk ((hf_.block q (blk_lt HCC.out) (by omega)).trans HCC.out); have HR2 := Aside0.mk hr2_; have n3_ := Aside0.mk (HR1.out.keep hf_ (by omega)); clear HUU HBB HCC HR1; have HBB := n1_; have HCC := n2_; have HR1 := n3_; clear n1_ n2_ n3_ hr2_ hu_ hf_
      refine ⟨_, rfl, ?_⟩
      refine hK.out _ _ ((blk_cell HCC.out 1).trans rfl) (fun hHeld => ?_)
      clear hK K
      refine norm_ (a' := ?_) ?_ ?_
      rotate_left
      · show Act.put _ (some 95) _ = _
        simp only [Act.put, List.setIfInBounds_toArray, List.set_cons_zero, List.set_cons_succ, i64_w, i32_w]
        rfl
      refine one_ (i := 9) (N := some 96) #[true, true, true, true, true, true, true, true, true, true, false, false] rfl rfl (one_of HT_.out (by kernel_rfl)) (by decide) (fun K hK => ?_)
      refine value_ (by rfl) rfl (v := .string x2) (w1 := w8) ?_ ?_
      · have hcv := Row.conv (c := k2) HR2.out HZ2.out (by have := HZ2.out; omega)
        go_simp
      refine hK.out _ _ ((blk_cell HCC.out 1).trans rfl) (fun hHeld => ?_)
      clear hK K
      refine norm_ (a' := ?_) ?_ ?_
      rotate_left
      · show Act.put _ (some 96) _ = _
        simp only [Act.put, List.setIfInBounds_toArray, List.set_cons_zero, List.set_cons_succ, i64_w, i32_w]
        rfl
      exact hcont () _ ⟨HBB.out⟩
    · refine goes_ Try.func15 (by kernel_rfl) rfl #[.pointer (some ⟨s1 + 1, 0, none⟩), .int .i64 (s.size : Int)] (by rfl) rfl rfl (by (try simp only [List.map_toArray, List.map_cons, List.map_nil]); first | done | rfl) ?_
      refine (Txt.read HUU.out (s.size : Int) (by have := HZ2.out; omega)).mono ?_
      rw [HK2.out, HX3.out, hs7]
      rintro e w8 ⟨rfl, hr2_, hu_, hf_⟩
      have n1_ := Aside0.mk (Fr.below HBB.out hf_ (by have := blk_lt HCC.out; omega) (fun i hi => by omega)); have n2_ := Aside0.mk ((hf_.block q (blk_lt HCC.out) (by omega)).trans HCC.out); have HR2 := Aside0.mk hr2_; have n3_ := Aside0.mk (HR1.out.keep hf_ (by omega)); clear HUU HBB HCC HR1; have HBB := n1_; have HCC := n2_; have HR1 := n3_; clear n1_ n2_ n3_ hr2_ hu_ hf_
      refine ⟨_, rfl, ?_⟩
      refine hK.out _ _ ((blk_cell HCC.out 1).trans rfl) (fun hHeld => ?_)
      clear hK K
      refine norm_ (a' := ?_) ?_ ?_
      rotate_left
      · show Act.put _ (some 95) _ = _
        simp only [Act.put, List.setIfInBounds_toArray, List.set_cons_zero, List.set_cons_succ, i64_w, i32_w]
        rfl
      refine two_ (i := 4) (j := 9) (Ni := some 91) (Nj := some 96) #[true, true, true, true, true, true, true, true, true, false, false, false] #[true, true, true, true, false, true, true, true, true, true, false, false] rfl rfl rfl rfl (two_of HT_.out (by kernel_rfl)) (by decide) (by decide) (fun K hK => ?_) (fun K hK => ?_)
      · refine value_ (by rfl) rfl (v := .string x1) (w1 := w8) ?_ ?_
        · have hcv := Row.conv (c := k) HR1.out HZ1.out (by have := HZ1.out; omega)
          go_simp
        refine hK.out _ _ ((blk_cell HCC.out 1).trans rfl) (fun hHeld => ?_)
        clear hK K
        refine norm_ (a' := ?_) ?_ ?_
        rotate_left
        · show Act.put _ (some 91) _ = _
          simp only [Act.put, List.setIfInBounds_toArray, List.set_cons_zero, List.set_cons_succ, i64_w, i32_w]
          rfl
        refine one_ (i := 9) (N := some 96) #[true, true, true, true, true, true, true, true, true, true, false, false] rfl rfl (one_of HT_.out (by kernel_rfl)) (by decide) (fun K hK => ?_)
        refine value_ (by rfl) rfl (v := .string x2) (w1 := w8) ?_ ?_
        · have hcv := Row.conv (c := k2) HR2.out HZ2.out (by have := HZ2.out; omega)
          go_simp
        refine hK.out _ _ ((blk_cell HCC.out 1).trans rfl) (fun hHeld => ?_)
        clear hK K
        refine norm_ (a' := ?_) ?_ ?_
        rotate_left
        · show Act.put _ (some 96) _ = _
          simp only [Act.put, List.setIfInBounds_toArray, List.set_cons_zero, List.set_cons_succ, i64_w, i32_w]
          rfl
        exact hcont () _ ⟨HBB.out⟩
      · refine value_ (by rfl) rfl (v := .string x2) (w1 := w8) ?_ ?_
        · have hcv := Row.conv (c := k2) HR2.out HZ2.out (by have := HZ2.out; omega)
          go_simp
        refine hK.out _ _ ((blk_cell HCC.out 1).trans rfl) (fun hHeld => ?_)
        clear hK K
        refine norm_ (a' := ?_) ?_ ?_
        rotate_left
        · show Act.put _ (some 96) _ = _
          simp only [Act.put, List.setIfInBounds_toArray, List.set_cons_zero, List.set_cons_succ, i64_w, i32_w]
          rfl
        refine one_ (i := 4) (N := some 91) #[true, true, true, true, true, true, true, true, true, true, false, false] rfl rfl (one_of HT_.out (by kernel_rfl)) (by decide) (fun K hK => ?_)
        refine value_ (by rfl) rfl (v := .string x1) (w1 := w8) ?_ ?_
        · have hcv := Row.conv (c := k) HR1.out HZ1.out (by have := HZ1.out; omega)
          go_simp
        refine hK.out _ _ ((blk_cell HCC.out 1).trans rfl) (fun hHeld => ?_)
        clear hK K
        refine norm_ (a' := ?_) ?_ ?_
        rotate_left
        · show Act.put _ (some 91) _ = _
          simp only [Act.put, List.setIfInBounds_toArray, List.set_cons_zero, List.set_cons_succ, i64_w, i32_w]
          rfl
        exact hcont () _ ⟨HBB.out⟩
  refine norm_ (a' := ?_) ?_ ?_
  rotate_left
  · show putAll _ [(91, .string x1), (95, .slice (some ⟨s7, 0, none⟩) k2 k2), (96, .string x2)] = _
    simp only [putAll]
    simp only [Act.put, List.setIfInBounds_toArray, List.set_cons_zero, List.set_cons_succ, i64_w, i32_w]
    rfl
  have hcat : ¬ 9223372036854775807 < x1.size + x2.size := by have := HZ1.out; have := HZ2.out; omega
  refine pure_ (i := 10) (N := some 97) (v := ?_) (a' := ?_) #[true, true, true, true, true, true, true, true, true, true, true, false] rfl rfl (any_of HT_.out (by kernel_rfl)) (fun _ _ _ h => h) (Or.inl ⟨by rfl, ?_⟩) ?_ ?_
  rotate_left
  · intro w'
    go_simp
    with_reducible rfl
  rotate_left
  · simp only [Act.put, List.setIfInBounds_toArray, List.set_cons_zero, List.set_cons_succ, i64_w, i32_w]
    rfl
  refine pure_ (i := 11) (N := some 14) (v := ?_) (a' := ?_) #[true, true, true, true, true, true, true, true, true, true, true, true] rfl rfl (any_of HT_.out (by kernel_rfl)) (fun _ _ _ h => h) (Or.inl ⟨by rfl, ?_⟩) ?_ ?_
  rotate_left
  · intro w'
    go_simp
    with_reducible rfl
  rotate_left
  · simp only [Act.put, List.setIfInBounds_toArray, List.set_cons_zero, List.set_cons_succ, i64_w, i32_w]
    rfl
  refine done_ (done_of HT_.out (by kernel_rfl)) ?_
  rw [HSP.out]
  have hn' : n = min s.size room := by rw [← HN.out]; unfold wrT freeT; rw [ba_len0]; omega
  have HM1 : Hid (min (n : Int) (s.size : Int) = n) := Lib.hid (by omega)
  have HM2 : Hid (min (s.size : Int) (room : Int) = n) := Lib.hid (by omega)
  have HXE : Hid (s.extract 0 n = x) := HXS
  clear hn' hcat
  go_wp2_with fail
  refine (alive_calls _).mono ?_
  rintro e w9 ⟨rfl, hb9⟩
  have HB9 := Lib.hid (HBE.out.trans (hb9.mono (by have := HBE.out.size; omega)))
  clear hb9
  have hm1 := HM1.out
  have hm2 := HM2.out
  have hxe := HXE.out
  go_wp2_with fail
  go_ret
  refine ⟨rfl, ?_⟩
  rw [hq]
  exact HB9.out
end Go.Proofs.Ytbplfoanhfmheaa.Hand
