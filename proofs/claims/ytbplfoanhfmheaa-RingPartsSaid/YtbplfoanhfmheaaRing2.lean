/- Peek on a ring: the first bytes, in a new block. -/
import Derived.Test.YtbplfoanhfmheaaRing1
import Derived.Laws.CopyOwn
import Derived.Test.YtbplfoanhfmheaaWTab
import Derived.Test.YtbplfoanhfmheaaWLast
namespace Go.Proofs.Ytbplfoanhfmheaa.Hand
open Go.RowKit Go.Proofs.YtbplfoanhfmheaaW.PrintWords Go.Proofs.YtbplfoanhfmheaaW.PrintLast Go.Proofs.YtbplfoanhfmheaaW.PrintMore
attribute [local go_sem] max2_int min2_int max_two min_two
set_option linter.unusedVariables false
set_option linter.unusedSimpArgs false
def TPeekA : Bool × List (List Nat × List Nat) := (true, [([], []), ([], []), ([1], [1]), ([2], [2]), ([3], [3]), ([], []), ([5], [5]), ([6], [6]), ([7], [7]), ([4, 8], [4, 8]), ([0, 9], [0, 9]), ([10, 10, 0, 1, 2, 3, 4, 5, 6, 7, 8, 9, 10], [10])])
def BPeekA : List Nat := [0, 0, 2, 6, 14, 0, 32, 96, 224, 510, 1023, 2047]
theorem tabPeekA : rtab .any (opsOf Try.f17 2) = TPeekA := by kernel_rfl
theorem bitsPeekA : waitsOk TPeekA.2 BPeekA = true := by kernel_rfl
def TPeekB : Bool × List (List Nat × List Nat) := (true, [([], []), ([], []), ([0, 1], [0, 1]), ([], []), ([3], [3]), ([4], [4]), ([5], [5]), ([2, 6], [2, 6])])
def BPeekB : List Nat := [0, 0, 3, 0, 8, 24, 56, 127]
theorem tabPeekB : rtab .any (opsOf Try.f17 3) = TPeekB := by kernel_rfl
theorem bitsPeekB : waitsOk TPeekB.2 BPeekB = true := by kernel_rfl
theorem bytesV_one (cs : List Int) : ∀ v ∈ bytesV cs, v.oneCell' = true := by
  intro v hv
  obtain ⟨x, _, rfl⟩ := List.mem_map.1 hv
  rfl
theorem madeBytes (d : Nat) : madeCells #[Value.int .u8 0] d = (bytesV (List.replicate d 0)).toArray := by
  apply Array.ext'
  rw [toList_madeCells_one]
  simp [bytesV]
theorem getBytes (cs : List Int) (j : Nat) (v : Value) (h : (bytesV cs)[j]? = some v) : ∃ x, cs[j]? = some x ∧ v = .int .u8 x := by
  unfold bytesV at h
  rw [List.getElem?_map] at h
  cases hx : cs[j]? with
  | none => rw [hx] at h; simp at h
  | some x => rw [hx] at h; simp at h; exact ⟨x, rfl, h.symm⟩
/-- Both parts, one behind the other. -/
theorem peek_text (cs : List Int) (at_ d k1 k2 n : Nat) (hn : cs.length = n) (ha : at_ ≤ n) (hd : d ≤ n) (h1 : k1 = min (n - at_) d) (h2 : k2 = min n (d - k1)) :
    splice (splice (bytesV (List.replicate d 0)) 0 (bytesV ((cs.drop at_).take k1))) k1 (bytesV (cs.take k2)) = bytesV (content at_ d cs) := by
  have hl1 : ((cs.drop at_).take k1).length = k1 := by rw [List.length_take, List.length_drop]; omega
  have hl2 : (cs.take k2).length = k2 := by rw [List.length_take]; omega
  have hk : k1 + k2 = d := by omega
  unfold splice
  rw [List.take_zero, List.nil_append, bytesV_length, hl1, bytesV_length, hl2, Nat.zero_add]
  rw [List.take_left' (by rw [bytesV_length, hl1])]
  have hdrop : List.drop (k1 + k2) (bytesV ((cs.drop at_).take k1) ++ List.drop k1 (bytesV (List.replicate d 0))) = [] := by
    apply List.drop_of_length_le
    rw [List.length_append, bytesV_length, hl1, List.length_drop, bytesV_length, List.length_replicate]
    omega
  rw [hdrop, List.append_nil]
  have hc : content at_ d cs = (cs.drop at_).take k1 ++ cs.take k2 := by
    unfold content
    rw [List.take_append, List.length_drop, hn]
    by_cases hlt : d ≤ n - at_
    · have e1 : k1 = d := by omega
      have e2 : k2 = 0 := by omega
      rw [e1, e2, show d - (n - at_) = 0 by omega]
      simp
    · have e1 : k1 = n - at_ := by omega
      have e2 : k2 = d - (n - at_) := by omega
      rw [← e2, List.take_take, show min k2 at_ = k2 by omega, e1]
      congr 1
      rw [List.take_of_length_le (l := cs.drop at_) (by rw [List.length_drop]; omega), List.take_of_length_le (l := cs.drop at_) (by rw [List.length_drop]; omega)]
  rw [hc]
  simp [bytesV]
set_option maxHeartbeats 4000000 in
set_option maxRecDepth 100000 in
theorem peek_calls {w : World} {g b at_ many n : Nat} {room : Int} {cs : List Int} (h : RingAt w g b at_ many n room cs) (ha : at_ ≤ n) (x : Int) (d : Nat) (hc : (x < 0 ∧ d = 0) ∨ (∃ p : Nat, x = p ∧ many < p ∧ d = many) ∨ (∃ p : Nat, x = p ∧ p ≤ many ∧ d = p)) :
    Calls Try.prog 17 #[.pointer (some ⟨g, 0, none⟩), .int .i64 x] w fun e w' => e = .returned (.slice (some ⟨w.heap.size, 0, none⟩) d d) ∧ w'.heap[w.heap.size]? = some (.cells (bytesV (content at_ d cs)).toArray 5 (0, 0)) ∧ Below w.heap.size w w' := by
  have hm := h.hm
  have hn := h.hn
  have hlen := h.len
  have C0 := Aside0.mk h.c0
  have C1 := Aside0.mk h.c1
  have c2 := h.c2
  have lb := h.lb
  have hdm : d ≤ many := by rcases hc with ⟨_, h⟩ | ⟨p, _, h1, h⟩ | ⟨p, _, h1, h⟩ <;> omega
  obtain ⟨k1, hk1⟩ : ∃ k1, k1 = min (n - at_) d := ⟨_, rfl⟩
  obtain ⟨k2, hk2⟩ : ∃ k2, k2 = min n (d - k1) := ⟨_, rfl⟩
  have HT := Aside0.mk (peek_text cs at_ d k1 k2 n hlen ha (by omega) hk1 hk2)
  have hl1 : ((cs.drop at_).take k1).length = k1 := by rw [List.length_take, List.length_drop]; omega
  have hl2 : (cs.take k2).length = k2 := by rw [List.length_take]; omega
  obtain ⟨adA, hadA⟩ : ∃ adA : Option Addr, adA = (if n = at_ then some ⟨b, 0, none⟩ else some ⟨b, at_, none⟩) := ⟨_, rfl⟩
  obtain ⟨adB, hadB⟩ : ∃ adB : Option Addr, adB = (if d = k1 then some ⟨w.heap.size, 0, none⟩ else some ⟨w.heap.size, k1, none⟩) := ⟨_, rfl⟩
  have HN1 : Aside0 ((bytesV ((cs.drop at_).take k1)).length = Nat.min (n - at_) d) := ⟨by rw [bytesV_length, hl1, hk1]⟩
  have HK1 : Aside0 ((bytesV ((cs.drop at_).take k1)).length = k1) := ⟨by rw [bytesV_length, hl1]⟩
  have HF1 : Aside0 (0 + (bytesV ((cs.drop at_).take k1)).length ≤ (bytesV (List.replicate d 0)).length) := ⟨by rw [bytesV_length, hl1, bytesV_length, List.length_replicate]; omega⟩
  have HS1 : Aside0 ((∀ {W : World}, (∀ (j : Addr) (v : Value), w.cell? j = some v → W.cell? j = some v) → 0 < (bytesV ((cs.drop at_).take k1)).length → ∃ ad, adA = some ad ∧ ∀ j v, (bytesV ((cs.drop at_).take k1))[j]? = some v → W.cell? (ad.add j) = some v)) := ⟨by
    intro W hW hp
    rw [bytesV_length, hl1] at hp
    refine ⟨⟨b, at_, none⟩, by rw [hadA, if_neg (by omega)], fun j v hv => ?_⟩
    obtain ⟨y, hy, rfl⟩ := getBytes _ _ _ hv
    have hj : j < k1 := by
      rcases Nat.lt_or_ge j k1 with h' | h'
      · exact h'
      · rw [List.getElem?_eq_none (by omega)] at hy; cases hy
    rw [List.getElem?_take_of_lt hj, List.getElem?_drop] at hy
    rw [add_at]
    apply hW
    rw [h.cb (at_ + j) (by omega), List.getD_eq_getElem?_getD, hy]
    rfl⟩
  have HN2 : Aside0 ((bytesV (cs.take k2)).length = Nat.min n (d - k1)) := ⟨by rw [bytesV_length, hl2, hk2]⟩
  have HF2 : Aside0 (k1 + (bytesV (cs.take k2)).length ≤ (splice (bytesV (List.replicate d 0)) 0 (bytesV ((cs.drop at_).take k1))).length) := ⟨by
    rw [length_splice _ _ _ HF1.out, bytesV_length, hl2, bytesV_length, List.length_replicate]; omega⟩
  have HS2 : Aside0 (∀ {W : World}, (∀ (j : Addr) (v : Value), w.cell? j = some v → W.cell? j = some v) → 0 < (bytesV (cs.take k2)).length → adB = some ⟨w.heap.size, k1, none⟩ ∧ ∃ ad, some (⟨b, 0, none⟩ : Addr) = some ad ∧ ∀ j v, (bytesV (cs.take k2))[j]? = some v → W.cell? (ad.add j) = some v) := ⟨by
    intro W hW hp
    rw [bytesV_length, hl2] at hp
    refine ⟨by rw [hadB, if_neg (by omega)], ⟨b, 0, none⟩, rfl, fun j v hv => ?_⟩
    obtain ⟨y, hy, rfl⟩ := getBytes _ _ _ hv
    have hj : j < k2 := by
      rcases Nat.lt_or_ge j k2 with h' | h'
      · exact h'
      · rw [List.getElem?_eq_none (by omega)] at hy; cases hy
    rw [List.getElem?_take_of_lt hj] at hy
    rw [add_at, Nat.zero_add]
    apply hW
    rw [h.cb j (by omega), List.getD_eq_getElem?_getD, hy]
    rfl⟩
  have hmk := print_make (P := Try.prog) 32 5 .u8 1 Try.underlying32 (by kernel_rfl) (by decide) d (by omega)
  obtain ⟨i5, hi5, hi5b, hi5c, hi5d⟩ := info_parts (show (Try.prog.info? 5).map (fun i => (i.zero, i.size, i.bytes)) = some (some (.int .u8 0), 1, 1) by kernel_rfl)
  have hcutA := cut_from (P := Try.prog) 32 5 .i64 Try.underlying32 hi5 1 hi5c (some ⟨b, 0, none⟩) n n (at_ : Int) (by omega) (by omega)
  have hcutB := cut_from (P := Try.prog) 32 5 .i64 Try.underlying32 hi5 1 hi5c (some ⟨w.heap.size, 0, none⟩) d d (k1 : Int) (by omega) (by omega)
  simp only [Int.toNat_natCast, Nat.mul_one, Option.map_some, add_plain] at hcutA hcutB
  rw [← hadA] at hcutA
  rw [← hadB] at hcutB
  clear hadA hadB
  have hB0 : Below w.heap.size w (w.alloc (.cells (madeCells #[Value.int .u8 0] d) 5)) := below_alloc (Below.refl _ _) _
  have hQ0 : (w.alloc (.cells (madeCells #[Value.int .u8 0] d) 5)).heap[w.heap.size]? = some (.cells (bytesV (List.replicate d 0)).toArray 5 (0, 0)) := by
    rw [← madeBytes]
    show (w.heap.push _)[w.heap.size]? = _
    simp
  have HB := Aside0.mk hB0
  have HQ := Aside0.mk hQ0
  clear h hlen hl1 hl2 hi5 hi5b hi5c hi5d hB0 hQ0 hk2
  have hk1' : k1 ≤ d := by omega
  clear hk1
  have hfin : ∀ W : World, W.heap[w.heap.size]? = some (.cells (splice (splice (bytesV (List.replicate d 0)) 0 (bytesV ((cs.drop at_).take k1))) k1 (bytesV (cs.take k2))).toArray 5 (0, 0)) → W.heap[w.heap.size]? = some (.cells (bytesV (content at_ d cs)).toArray 5 (0, 0)) := by
    intro W hW
    rw [hW, HT.out]
  have HFIN := Aside0.mk hfin
  clear hfin
  rcases hc with ⟨hx, hd⟩ | ⟨p, rfl, hx, hd⟩ | ⟨p, rfl, hx, hd⟩
  · subst hd
    obtain rfl : k1 = 0 := by omega
    simp only [Int.natCast_zero] at hmk hcutB
    go_enter Try.func17, Try.ntmps17
    go_wp2
    generalize w.alloc (Obj.cells (madeCells #[Value.int .u8 0] 0) 5) = w1 at HB HQ ⊢
    have n0_ := Aside0.mk (below_drew1 HB.out); clear HB; have HB := n0_; clear n0_
    have HQ' : w1.drew.heap[w.heap.size]? = _ := HQ.out
    refine start_ (n := 12) (S := fun w' => w'.cell? ⟨g, 0, none⟩ = some (.slice (some ⟨b, 0, none⟩) n n) ∧ w'.cell? ⟨g, 1, none⟩ = some (.int .i64 at_)) (ds := []) #[false, false, false, false, false, false, false, false, false, false, false, false] (by kernel_rfl) rfl rfl ⟨pw_cell_below HB.out C0.out, pw_cell_below HB.out C1.out⟩ (fun hHeld => ?_); refine with_tabW tabPeekA bitsPeekA (fun HT_ HW_ => ?_)
    generalize w1.drew = wd at HB HQ' hHeld ⊢
    refine pure_ (i := 0) (N := some 15) (v := ?_) (a' := ?_) #[true, false, false, false, false, false, false, false, false, false, false, false] rfl rfl (any_of HT_.out (by kernel_rfl)) (fun _ _ _ h => h) (Or.inl ⟨by rfl, ?_⟩) ?_ ?_
    rotate_left
    · intro w'
      go_simp
      with_reducible rfl
    rotate_left
    · simp only [Act.put, List.setIfInBounds_toArray, List.set_cons_zero, List.set_cons_succ, i64_w, i32_w]
      rfl
    refine pure_ (i := 1) (N := some 16) (v := ?_) (a' := ?_) #[true, true, false, false, false, false, false, false, false, false, false, false] rfl rfl (any_of HT_.out (by kernel_rfl)) (fun _ _ _ h => h) (Or.inl ⟨by rfl, ?_⟩) ?_ ?_
    rotate_left
    · intro w'
      go_simp
      with_reducible rfl
    rotate_left
    · simp only [Act.put, List.setIfInBounds_toArray, List.set_cons_zero, List.set_cons_succ, i64_w, i32_w]
      rfl
    refine pure_ (i := 2) (N := some 17) (v := ?_) (a' := ?_) #[true, true, true, false, false, false, false, false, false, false, false, false] rfl rfl (any_of HT_.out (by kernel_rfl)) (fun _ _ _ h => h) (Or.inl ⟨by rfl, ?_⟩) ?_ ?_
    rotate_left
    · intro w'
      go_simp
      with_reducible rfl
    rotate_left
    · simp only [Act.put, List.setIfInBounds_toArray, List.set_cons_zero, List.set_cons_succ, i64_w, i32_w]
      rfl
    refine pure_ (i := 3) (N := some 18) (v := ?_) (a' := ?_) #[true, true, true, true, false, false, false, false, false, false, false, false] rfl rfl (any_of HT_.out (by kernel_rfl)) (fun _ _ _ h => h) (Or.inl ⟨by rfl, ?_⟩) ?_ ?_
    rotate_left
    · intro w'
      go_simp
      with_reducible rfl
    rotate_left
    · simp only [Act.put, List.setIfInBounds_toArray, List.set_cons_zero, List.set_cons_succ, i64_w, i32_w]
      rfl
    refine take_ (i := 4) (N := some 19) (v := ?_) (a' := ?_) #[true, true, true, true, true, false, false, false, false, false, false, false] rfl rfl (take_ofW HT_.out HW_.out (by kernel_rfl)) (fun _ _ _ h => h) (Or.inl ⟨by rfl, ?_⟩) hHeld ?_ ?_
    rotate_left
    · rintro w' ⟨s0, s1⟩
      go_simp
      with_reducible rfl
    rotate_left
    · simp only [Act.put, List.setIfInBounds_toArray, List.set_cons_zero, List.set_cons_succ, i64_w, i32_w]
      rfl
    refine pure_ (i := 5) (N := some 20) (v := ?_) (a' := ?_) #[true, true, true, true, true, true, false, false, false, false, false, false] rfl rfl (any_of HT_.out (by kernel_rfl)) (fun _ _ _ h => h) (Or.inl ⟨by rfl, ?_⟩) ?_ ?_
    rotate_left
    · intro w'
      go_simp
      with_reducible rfl
    rotate_left
    · simp only [Act.put, List.setIfInBounds_toArray, List.set_cons_zero, List.set_cons_succ, i64_w, i32_w]
      rfl
    refine pure_ (i := 6) (N := some 21) (v := ?_) (a' := ?_) #[true, true, true, true, true, true, true, false, false, false, false, false] rfl rfl (any_of HT_.out (by kernel_rfl)) (fun _ _ _ h => h) (Or.inl ⟨by rfl, ?_⟩) ?_ ?_
    rotate_left
    · intro w'
      go_simp
      with_reducible rfl
    rotate_left
    · simp only [Act.put, List.setIfInBounds_toArray, List.set_cons_zero, List.set_cons_succ, i64_w, i32_w]
      rfl
    refine pure_ (i := 7) (N := some 22) (v := ?_) (a' := ?_) #[true, true, true, true, true, true, true, true, false, false, false, false] rfl rfl (any_of HT_.out (by kernel_rfl)) (fun _ _ _ h => h) (Or.inl ⟨by rfl, ?_⟩) ?_ ?_
    rotate_left
    · intro w'
      go_simp
      with_reducible rfl
    rotate_left
    · simp only [Act.put, List.setIfInBounds_toArray, List.set_cons_zero, List.set_cons_succ, i64_w, i32_w]
      rfl
    refine take_ (i := 8) (N := some 23) (v := ?_) (a' := ?_) #[true, true, true, true, true, true, true, true, true, false, false, false] rfl rfl (take_ofW HT_.out HW_.out (by kernel_rfl)) (fun _ _ _ h => h) (Or.inl ⟨by rfl, ?_⟩) hHeld ?_ ?_
    rotate_left
    · rintro w' ⟨s0, s1⟩
      go_simp
      with_reducible rfl
    rotate_left
    · simp only [Act.put, List.setIfInBounds_toArray, List.set_cons_zero, List.set_cons_succ, i64_w, i32_w]
      rfl
    refine pure_ (i := 9) (N := some 24) (v := ?_) (a' := ?_) #[true, true, true, true, true, true, true, true, true, true, false, false] rfl rfl (any_of HT_.out (by kernel_rfl)) (fun _ _ _ h => h) (Or.inl ⟨by rfl, ?_⟩) ?_ ?_
    rotate_left
    · intro w'
      go_simp
      with_reducible rfl
    rotate_left
    · simp only [Act.put, List.setIfInBounds_toArray, List.set_cons_zero, List.set_cons_succ, i64_w, i32_w]
      rfl
    refine one_ (i := 10) (N := some 25) #[true, true, true, true, true, true, true, true, true, true, true, false] rfl rfl (one_of HT_.out (by kernel_rfl)) (by decide) (fun K hK => ?_)
    refine step_copy_splice rfl (.tmp 15) (.tmp 24) 32 32 rfl 5 Try.underlying32 (by kernel_rfl) (some ⟨w.heap.size, 0, none⟩) adA 0 0 (n - at_) (n - at_) rfl rfl w.heap.size 0 (bytesV (List.replicate 0 0)) 5 HQ' (bytesV ((cs.drop at_).take 0)) HN1.out (fun hp => ⟨rfl, HS1.out (fun j v hv => pw_cell_below HB.out hv) hp⟩) HF1.out (bytesV_one _) w.heap.size w HB.out (Nat.le_refl _) ?_
    intro w4 hg4 hb4
    have n0_ := Aside0.mk hb4; clear HB; have HB := n0_; clear n0_ hb4 HQ'
    have HQ := Aside0.mk hg4.out; clear hg4
    rw [HK1.out]
    refine hK.out _ _ ⟨pw_cell_below HB.out C0.out, pw_cell_below HB.out C1.out⟩ (fun hHeld => ?_)
    clear hK K
    refine norm_ (a' := ?_) ?_ ?_
    rotate_left
    · show Act.put _ (some 25) _ = _
      simp only [Act.put, List.setIfInBounds_toArray, List.set_cons_zero, List.set_cons_succ, i64_w, i32_w]
      rfl
    refine pure_ (i := 11) (N := some 6) (v := ?_) (a' := ?_) #[true, true, true, true, true, true, true, true, true, true, true, true] rfl rfl (any_of HT_.out (by kernel_rfl)) (fun _ _ _ h => h) (Or.inl ⟨by rfl, ?_⟩) ?_ ?_
    rotate_left
    · intro w'
      go_simp
      with_reducible rfl
    rotate_left
    · simp only [Act.put, List.setIfInBounds_toArray, List.set_cons_zero, List.set_cons_succ, i64_w, i32_w]
      rfl
    refine done_ (done_of HT_.out (by kernel_rfl)) ?_
    go_wp2
    have n0_ := Aside0.mk (below_drew1 HB.out); clear HB; have HB := n0_; clear n0_
    have HQ' : w4.drew.heap[w.heap.size]? = _ := HQ.out
    refine start_ (n := 8) (S := fun w' => w'.cell? ⟨g, 0, none⟩ = some (.slice (some ⟨b, 0, none⟩) n n)) (ds := []) #[false, false, false, false, false, false, false, false] (by kernel_rfl) rfl rfl (pw_cell_below HB.out C0.out) (fun hHeld => ?_); refine with_tabW tabPeekB bitsPeekB (fun HT_ HW_ => ?_)
    generalize w4.drew = wd at HB HQ' hHeld ⊢
    refine pure_ (i := 0) (N := some 26) (v := ?_) (a' := ?_) #[true, false, false, false, false, false, false, false] rfl rfl (any_of HT_.out (by kernel_rfl)) (fun _ _ _ h => h) (Or.inl ⟨by rfl, ?_⟩) ?_ ?_
    rotate_left
    · intro w'
      go_simp
      with_reducible rfl
    rotate_left
    · simp only [Act.put, List.setIfInBounds_toArray, List.set_cons_zero, List.set_cons_succ, i64_w, i32_w]
      rfl
    refine pure_ (i := 1) (N := some 27) (v := ?_) (a' := ?_) #[true, true, false, false, false, false, false, false] rfl rfl (any_of HT_.out (by kernel_rfl)) (fun _ _ _ h => h) (Or.inl ⟨by rfl, ?_⟩) ?_ ?_
    rotate_left
    · intro w'
      go_simp
      with_reducible rfl
    rotate_left
    · simp only [Act.put, List.setIfInBounds_toArray, List.set_cons_zero, List.set_cons_succ, i64_w, i32_w]
      rfl
    refine pure_ (i := 2) (N := some 28) (v := ?_) (a' := ?_) #[true, true, true, false, false, false, false, false] rfl rfl (any_of HT_.out (by kernel_rfl)) (fun _ _ _ h => h) (Or.inl ⟨by rfl, ?_⟩) ?_ ?_
    rotate_left
    · intro w'
      go_simp
      with_reducible rfl
    rotate_left
    · simp only [Act.put, List.setIfInBounds_toArray, List.set_cons_zero, List.set_cons_succ, i64_w, i32_w]
      rfl
    refine pure_ (i := 3) (N := some 29) (v := ?_) (a' := ?_) #[true, true, true, true, false, false, false, false] rfl rfl (any_of HT_.out (by kernel_rfl)) (fun _ _ _ h => h) (Or.inl ⟨by rfl, ?_⟩) ?_ ?_
    rotate_left
    · intro w'
      go_simp
      with_reducible rfl
    rotate_left
    · simp only [Act.put, List.setIfInBounds_toArray, List.set_cons_zero, List.set_cons_succ, i64_w, i32_w]
      rfl
    refine pure_ (i := 4) (N := some 30) (v := ?_) (a' := ?_) #[true, true, true, true, true, false, false, false] rfl rfl (any_of HT_.out (by kernel_rfl)) (fun _ _ _ h => h) (Or.inl ⟨by rfl, ?_⟩) ?_ ?_
    rotate_left
    · intro w'
      go_simp
      with_reducible rfl
    rotate_left
    · simp only [Act.put, List.setIfInBounds_toArray, List.set_cons_zero, List.set_cons_succ, i64_w, i32_w]
      rfl
    refine pure_ (i := 5) (N := some 31) (v := ?_) (a' := ?_) #[true, true, true, true, true, true, false, false] rfl rfl (any_of HT_.out (by kernel_rfl)) (fun _ _ _ h => h) (Or.inl ⟨by rfl, ?_⟩) ?_ ?_
    rotate_left
    · intro w'
      go_simp
      with_reducible rfl
    rotate_left
    · simp only [Act.put, List.setIfInBounds_toArray, List.set_cons_zero, List.set_cons_succ, i64_w, i32_w]
      rfl
    refine take_ (i := 6) (N := some 32) (v := ?_) (a' := ?_) #[true, true, true, true, true, true, true, false] rfl rfl (take_ofW HT_.out HW_.out (by kernel_rfl)) (fun _ _ _ h => h) (Or.inl ⟨by rfl, ?_⟩) hHeld ?_ ?_
    rotate_left
    · rintro w' s0
      go_simp
      with_reducible rfl
    rotate_left
    · simp only [Act.put, List.setIfInBounds_toArray, List.set_cons_zero, List.set_cons_succ, i64_w, i32_w]
      rfl
    refine one_ (i := 7) (N := some 33) #[true, true, true, true, true, true, true, true] rfl rfl (one_of HT_.out (by kernel_rfl)) (by decide) (fun K hK => ?_)
    refine step_copy_splice rfl (.tmp 28) (.tmp 32) 32 32 rfl 5 Try.underlying32 (by kernel_rfl) adB (some ⟨b, 0, none⟩) (0 - 0) (0 - 0) n n rfl rfl w.heap.size 0 (splice (bytesV (List.replicate 0 0)) 0 (bytesV ((cs.drop at_).take 0))) 5 HQ' (bytesV (cs.take k2)) HN2.out (fun hp => HS2.out (fun j v hv => pw_cell_below HB.out hv) hp) HF2.out (bytesV_one _) w.heap.size w HB.out (Nat.le_refl _) ?_
    intro w5 hg5 hb5
    have n0_ := Aside0.mk hb5; clear HB; have HB := n0_; clear n0_ hb5 HQ'
    have HQ := Aside0.mk hg5.out; clear hg5
    refine hK.out _ _ (pw_cell_below HB.out C0.out) (fun hHeld => ?_)
    clear hK K
    refine norm_ (a' := ?_) ?_ ?_
    rotate_left
    · show Act.put _ (some 33) _ = _
      simp only [Act.put, List.setIfInBounds_toArray, List.set_cons_zero, List.set_cons_succ, i64_w, i32_w]
      rfl
    refine done_ (done_of HT_.out (by kernel_rfl)) ?_
    go_wp2
    go_ret
    exact ⟨rfl, HFIN.out _ HQ.out, HB.out⟩
  · obtain rfl : many = d := hd.symm
    go_enter Try.func17, Try.ntmps17
    go_wp2
    generalize w.alloc (Obj.cells (madeCells #[Value.int .u8 0] many) 5) = w1 at HB HQ ⊢
    have n0_ := Aside0.mk (below_drew1 HB.out); clear HB; have HB := n0_; clear n0_
    have HQ' : w1.drew.heap[w.heap.size]? = _ := HQ.out
    refine start_ (n := 12) (S := fun w' => w'.cell? ⟨g, 0, none⟩ = some (.slice (some ⟨b, 0, none⟩) n n) ∧ w'.cell? ⟨g, 1, none⟩ = some (.int .i64 at_)) (ds := []) #[false, false, false, false, false, false, false, false, false, false, false, false] (by kernel_rfl) rfl rfl ⟨pw_cell_below HB.out C0.out, pw_cell_below HB.out C1.out⟩ (fun hHeld => ?_); refine with_tabW tabPeekA bitsPeekA (fun HT_ HW_ => ?_)
    generalize w1.drew = wd at HB HQ' hHeld ⊢
    refine pure_ (i := 0) (N := some 15) (v := ?_) (a' := ?_) #[true, false, false, false, false, false, false, false, false, false, false, false] rfl rfl (any_of HT_.out (by kernel_rfl)) (fun _ _ _ h => h) (Or.inl ⟨by rfl, ?_⟩) ?_ ?_
    rotate_left
    · intro w'
      go_simp
      with_reducible rfl
    rotate_left
    · simp only [Act.put, List.setIfInBounds_toArray, List.set_cons_zero, List.set_cons_succ, i64_w, i32_w]
      rfl
    refine pure_ (i := 1) (N := some 16) (v := ?_) (a' := ?_) #[true, true, false, false, false, false, false, false, false, false, false, false] rfl rfl (any_of HT_.out (by kernel_rfl)) (fun _ _ _ h => h) (Or.inl ⟨by rfl, ?_⟩) ?_ ?_
    rotate_left
    · intro w'
      go_simp
      with_reducible rfl
    rotate_left
    · simp only [Act.put, List.setIfInBounds_toArray, List.set_cons_zero, List.set_cons_succ, i64_w, i32_w]
      rfl
    refine pure_ (i := 2) (N := some 17) (v := ?_) (a' := ?_) #[true, true, true, false, false, false, false, false, false, false, false, false] rfl rfl (any_of HT_.out (by kernel_rfl)) (fun _ _ _ h => h) (Or.inl ⟨by rfl, ?_⟩) ?_ ?_
    rotate_left
    · intro w'
      go_simp
      with_reducible rfl
    rotate_left
    · simp only [Act.put, List.setIfInBounds_toArray, List.set_cons_zero, List.set_cons_succ, i64_w, i32_w]
      rfl
    refine pure_ (i := 3) (N := some 18) (v := ?_) (a' := ?_) #[true, true, true, true, false, false, false, false, false, false, false, false] rfl rfl (any_of HT_.out (by kernel_rfl)) (fun _ _ _ h => h) (Or.inl ⟨by rfl, ?_⟩) ?_ ?_
    rotate_left
    · intro w'
      go_simp
      with_reducible rfl
    rotate_left
    · simp only [Act.put, List.setIfInBounds_toArray, List.set_cons_zero, List.set_cons_succ, i64_w, i32_w]
      rfl
    refine take_ (i := 4) (N := some 19) (v := ?_) (a' := ?_) #[true, true, true, true, true, false, false, false, false, false, false, false] rfl rfl (take_ofW HT_.out HW_.out (by kernel_rfl)) (fun _ _ _ h => h) (Or.inl ⟨by rfl, ?_⟩) hHeld ?_ ?_
    rotate_left
    · rintro w' ⟨s0, s1⟩
      go_simp
      with_reducible rfl
    rotate_left
    · simp only [Act.put, List.setIfInBounds_toArray, List.set_cons_zero, List.set_cons_succ, i64_w, i32_w]
      rfl
    refine pure_ (i := 5) (N := some 20) (v := ?_) (a' := ?_) #[true, true, true, true, true, true, false, false, false, false, false, false] rfl rfl (any_of HT_.out (by kernel_rfl)) (fun _ _ _ h => h) (Or.inl ⟨by rfl, ?_⟩) ?_ ?_
    rotate_left
    · intro w'
      go_simp
      with_reducible rfl
    rotate_left
    · simp only [Act.put, List.setIfInBounds_toArray, List.set_cons_zero, List.set_cons_succ, i64_w, i32_w]
      rfl
    refine pure_ (i := 6) (N := some 21) (v := ?_) (a' := ?_) #[true, true, true, true, true, true, true, false, false, false, false, false] rfl rfl (any_of HT_.out (by kernel_rfl)) (fun _ _ _ h => h) (Or.inl ⟨by rfl, ?_⟩) ?_ ?_
    rotate_left
    · intro w'
      go_simp
      with_reducible rfl
    rotate_left
    · simp only [Act.put, List.setIfInBounds_toArray, List.set_cons_zero, List.set_cons_succ, i64_w, i32_w]
      rfl
    refine pure_ (i := 7) (N := some 22) (v := ?_) (a' := ?_) #[true, true, true, true, true, true, true, true, false, false, false, false] rfl rfl (any_of HT_.out (by kernel_rfl)) (fun _ _ _ h => h) (Or.inl ⟨by rfl, ?_⟩) ?_ ?_
    rotate_left
    · intro w'
      go_simp
      with_reducible rfl
    rotate_left
    · simp only [Act.put, List.setIfInBounds_toArray, List.set_cons_zero, List.set_cons_succ, i64_w, i32_w]
      rfl
    refine take_ (i := 8) (N := some 23) (v := ?_) (a' := ?_) #[true, true, true, true, true, true, true, true, true, false, false, false] rfl rfl (take_ofW HT_.out HW_.out (by kernel_rfl)) (fun _ _ _ h => h) (Or.inl ⟨by rfl, ?_⟩) hHeld ?_ ?_
    rotate_left
    · rintro w' ⟨s0, s1⟩
      go_simp
      with_reducible rfl
    rotate_left
    · simp only [Act.put, List.setIfInBounds_toArray, List.set_cons_zero, List.set_cons_succ, i64_w, i32_w]
      rfl
    refine pure_ (i := 9) (N := some 24) (v := ?_) (a' := ?_) #[true, true, true, true, true, true, true, true, true, true, false, false] rfl rfl (any_of HT_.out (by kernel_rfl)) (fun _ _ _ h => h) (Or.inl ⟨by rfl, ?_⟩) ?_ ?_
    rotate_left
    · intro w'
      go_simp
      with_reducible rfl
    rotate_left
    · simp only [Act.put, List.setIfInBounds_toArray, List.set_cons_zero, List.set_cons_succ, i64_w, i32_w]
      rfl
    refine one_ (i := 10) (N := some 25) #[true, true, true, true, true, true, true, true, true, true, true, false] rfl rfl (one_of HT_.out (by kernel_rfl)) (by decide) (fun K hK => ?_)
    refine step_copy_splice rfl (.tmp 15) (.tmp 24) 32 32 rfl 5 Try.underlying32 (by kernel_rfl) (some ⟨w.heap.size, 0, none⟩) adA many many (n - at_) (n - at_) rfl rfl w.heap.size 0 (bytesV (List.replicate many 0)) 5 HQ' (bytesV ((cs.drop at_).take k1)) HN1.out (fun hp => ⟨rfl, HS1.out (fun j v hv => pw_cell_below HB.out hv) hp⟩) HF1.out (bytesV_one _) w.heap.size w HB.out (Nat.le_refl _) ?_
    intro w4 hg4 hb4
    have n0_ := Aside0.mk hb4; clear HB; have HB := n0_; clear n0_ hb4 HQ'
    have HQ := Aside0.mk hg4.out; clear hg4
    rw [HK1.out]
    refine hK.out _ _ ⟨pw_cell_below HB.out C0.out, pw_cell_below HB.out C1.out⟩ (fun hHeld => ?_)
    clear hK K
    refine norm_ (a' := ?_) ?_ ?_
    rotate_left
    · show Act.put _ (some 25) _ = _
      simp only [Act.put, List.setIfInBounds_toArray, List.set_cons_zero, List.set_cons_succ, i64_w, i32_w]
      rfl
    refine pure_ (i := 11) (N := some 6) (v := ?_) (a' := ?_) #[true, true, true, true, true, true, true, true, true, true, true, true] rfl rfl (any_of HT_.out (by kernel_rfl)) (fun _ _ _ h => h) (Or.inl ⟨by rfl, ?_⟩) ?_ ?_
    rotate_left
    · intro w'
      go_simp
      with_reducible rfl
    rotate_left
    · simp only [Act.put, List.setIfInBounds_toArray, List.set_cons_zero, List.set_cons_succ, i64_w, i32_w]
      rfl
    refine done_ (done_of HT_.out (by kernel_rfl)) ?_
    go_wp2
    have n0_ := Aside0.mk (below_drew1 HB.out); clear HB; have HB := n0_; clear n0_
    have HQ' : w4.drew.heap[w.heap.size]? = _ := HQ.out
    refine start_ (n := 8) (S := fun w' => w'.cell? ⟨g, 0, none⟩ = some (.slice (some ⟨b, 0, none⟩) n n)) (ds := []) #[false, false, false, false, false, false, false, false] (by kernel_rfl) rfl rfl (pw_cell_below HB.out C0.out) (fun hHeld => ?_); refine with_tabW tabPeekB bitsPeekB (fun HT_ HW_ => ?_)
    generalize w4.drew = wd at HB HQ' hHeld ⊢
    refine pure_ (i := 0) (N := some 26) (v := ?_) (a' := ?_) #[true, false, false, false, false, false, false, false] rfl rfl (any_of HT_.out (by kernel_rfl)) (fun _ _ _ h => h) (Or.inl ⟨by rfl, ?_⟩) ?_ ?_
    rotate_left
    · intro w'
      go_simp
      with_reducible rfl
    rotate_left
    · simp only [Act.put, List.setIfInBounds_toArray, List.set_cons_zero, List.set_cons_succ, i64_w, i32_w]
      rfl
    refine pure_ (i := 1) (N := some 27) (v := ?_) (a' := ?_) #[true, true, false, false, false, false, false, false] rfl rfl (any_of HT_.out (by kernel_rfl)) (fun _ _ _ h => h) (Or.inl ⟨by rfl, ?_⟩) ?_ ?_
    rotate_left
    · intro w'
      go_simp
      with_reducible rfl
    rotate_left
    · simp only [Act.put, List.setIfInBounds_toArray, List.set_cons_zero, List.set_cons_succ, i64_w, i32_w]
      rfl
    refine pure_ (i := 2) (N := some 28) (v := ?_) (a' := ?_) #[true, true, true, false, false, false, false, false] rfl rfl (any_of HT_.out (by kernel_rfl)) (fun _ _ _ h => h) (Or.inl ⟨by rfl, ?_⟩) ?_ ?_
    rotate_left
    · intro w'
      go_simp
      with_reducible rfl
    rotate_left
    · simp only [Act.put, List.setIfInBounds_toArray, List.set_cons_zero, List.set_cons_succ, i64_w, i32_w]
      rfl
    refine pure_ (i := 3) (N := some 29) (v := ?_) (a' := ?_) #[true, true, true, true, false, false, false, false] rfl rfl (any_of HT_.out (by kernel_rfl)) (fun _ _ _ h => h) (Or.inl ⟨by rfl, ?_⟩) ?_ ?_
    rotate_left
    · intro w'
      go_simp
      with_reducible rfl
    rotate_left
    · simp only [Act.put, List.setIfInBounds_toArray, List.set_cons_zero, List.set_cons_succ, i64_w, i32_w]
      rfl
    refine pure_ (i := 4) (N := some 30) (v := ?_) (a' := ?_) #[true, true, true, true, true, false, false, false] rfl rfl (any_of HT_.out (by kernel_rfl)) (fun _ _ _ h => h) (Or.inl ⟨by rfl, ?_⟩) ?_ ?_
    rotate_left
    · intro w'
      go_simp
      with_reducible rfl
    rotate_left
    · simp only [Act.put, List.setIfInBounds_toArray, List.set_cons_zero, List.set_cons_succ, i64_w, i32_w]
      rfl
    refine pure_ (i := 5) (N := some 31) (v := ?_) (a' := ?_) #[true, true, true, true, true, true, false, false] rfl rfl (any_of HT_.out (by kernel_rfl)) (fun _ _ _ h => h) (Or.inl ⟨by rfl, ?_⟩) ?_ ?_
    rotate_left
    · intro w'
      go_simp
      with_reducible rfl
    rotate_left
    · simp only [Act.put, List.setIfInBounds_toArray, List.set_cons_zero, List.set_cons_succ, i64_w, i32_w]
      rfl
    refine take_ (i := 6) (N := some 32) (v := ?_) (a' := ?_) #[true, true, true, true, true, true, true, false] rfl rfl (take_ofW HT_.out HW_.out (by kernel_rfl)) (fun _ _ _ h => h) (Or.inl ⟨by rfl, ?_⟩) hHeld ?_ ?_
    rotate_left
    · rintro w' s0
      go_simp
      with_reducible rfl
    rotate_left
    · simp only [Act.put, List.setIfInBounds_toArray, List.set_cons_zero, List.set_cons_succ, i64_w, i32_w]
      rfl
    refine one_ (i := 7) (N := some 33) #[true, true, true, true, true, true, true, true] rfl rfl (one_of HT_.out (by kernel_rfl)) (by decide) (fun K hK => ?_)
    refine step_copy_splice rfl (.tmp 28) (.tmp 32) 32 32 rfl 5 Try.underlying32 (by kernel_rfl) adB (some ⟨b, 0, none⟩) (many - k1) (many - k1) n n rfl rfl w.heap.size k1 (splice (bytesV (List.replicate many 0)) 0 (bytesV ((cs.drop at_).take k1))) 5 HQ' (bytesV (cs.take k2)) HN2.out (fun hp => HS2.out (fun j v hv => pw_cell_below HB.out hv) hp) HF2.out (bytesV_one _) w.heap.size w HB.out (Nat.le_refl _) ?_
    intro w5 hg5 hb5
    have n0_ := Aside0.mk hb5; clear HB; have HB := n0_; clear n0_ hb5 HQ'
    have HQ := Aside0.mk hg5.out; clear hg5
    refine hK.out _ _ (pw_cell_below HB.out C0.out) (fun hHeld => ?_)
    clear hK K
    refine norm_ (a' := ?_) ?_ ?_
    rotate_left
    · show Act.put _ (some 33) _ = _
      simp only [Act.put, List.setIfInBounds_toArray, List.set_cons_zero, List.set_cons_succ, i64_w, i32_w]
      rfl
    refine done_ (done_of HT_.out (by kernel_rfl)) ?_
    go_wp2
    go_ret
    exact ⟨rfl, HFIN.out _ HQ.out, HB.out⟩
  · subst hd
    go_enter Try.func17, Try.ntmps17
    go_wp2
    generalize w.alloc (Obj.cells (madeCells #[Value.int IntKind.u8 0] d) 5) = w1 at HB HQ ⊢
    have n0_ := Aside0.mk (below_drew1 HB.out); clear HB; have HB := n0_; clear n0_
    have HQ' : w1.drew.heap[w.heap.size]? = _ := HQ.out
    refine start_ (n := 12) (S := fun w' => w'.cell? ⟨g, 0, none⟩ = some (.slice (some ⟨b, 0, none⟩) n n) ∧ w'.cell? ⟨g, 1, none⟩ = some (.int .i64 at_)) (ds := []) #[false, false, false, false, false, false, false, false, false, false, false, false] (by kernel_rfl) rfl rfl ⟨pw_cell_below HB.out C0.out, pw_cell_below HB.out C1.out⟩ (fun hHeld => ?_); refine with_tabW tabPeekA bitsPeekA (fun HT_ HW_ => ?_)
    generalize w1.drew = wd at HB HQ' hHeld ⊢
    refine pure_ (i := 0) (N := some 15) (v := ?_) (a' := ?_) #[true, false, false, false, false, false, false, false, false, false, false, false] rfl rfl (any_of HT_.out (by kernel_rfl)) (fun _ _ _ h => h) (Or.inl ⟨by rfl, ?_⟩) ?_ ?_
    rotate_left
    · intro w'
      go_simp
      with_reducible rfl
    rotate_left
    · simp only [Act.put, List.setIfInBounds_toArray, List.set_cons_zero, List.set_cons_succ, i64_w, i32_w]
      rfl
    refine pure_ (i := 1) (N := some 16) (v := ?_) (a' := ?_) #[true, true, false, false, false, false, false, false, false, false, false, false] rfl rfl (any_of HT_.out (by kernel_rfl)) (fun _ _ _ h => h) (Or.inl ⟨by rfl, ?_⟩) ?_ ?_
    rotate_left
    · intro w'
      go_simp
      with_reducible rfl
    rotate_left
    · simp only [Act.put, List.setIfInBounds_toArray, List.set_cons_zero, List.set_cons_succ, i64_w, i32_w]
      rfl
    refine pure_ (i := 2) (N := some 17) (v := ?_) (a' := ?_) #[true, true, true, false, false, false, false, false, false, false, false, false] rfl rfl (any_of HT_.out (by kernel_rfl)) (fun _ _ _ h => h) (Or.inl ⟨by rfl, ?_⟩) ?_ ?_
    rotate_left
    · intro w'
      go_simp
      with_reducible rfl
    rotate_left
    · simp only [Act.put, List.setIfInBounds_toArray, List.set_cons_zero, List.set_cons_succ, i64_w, i32_w]
      rfl
    refine pure_ (i := 3) (N := some 18) (v := ?_) (a' := ?_) #[true, true, true, true, false, false, false, false, false, false, false, false] rfl rfl (any_of HT_.out (by kernel_rfl)) (fun _ _ _ h => h) (Or.inl ⟨by rfl, ?_⟩) ?_ ?_
    rotate_left
    · intro w'
      go_simp
      with_reducible rfl
    rotate_left
    · simp only [Act.put, List.setIfInBounds_toArray, List.set_cons_zero, List.set_cons_succ, i64_w, i32_w]
      rfl
    refine take_ (i := 4) (N := some 19) (v := ?_) (a' := ?_) #[true, true, true, true, true, false, false, false, false, false, false, false] rfl rfl (take_ofW HT_.out HW_.out (by kernel_rfl)) (fun _ _ _ h => h) (Or.inl ⟨by rfl, ?_⟩) hHeld ?_ ?_
    rotate_left
    · rintro w' ⟨s0, s1⟩
      go_simp
      with_reducible rfl
    rotate_left
    · simp only [Act.put, List.setIfInBounds_toArray, List.set_cons_zero, List.set_cons_succ, i64_w, i32_w]
      rfl
    refine pure_ (i := 5) (N := some 20) (v := ?_) (a' := ?_) #[true, true, true, true, true, true, false, false, false, false, false, false] rfl rfl (any_of HT_.out (by kernel_rfl)) (fun _ _ _ h => h) (Or.inl ⟨by rfl, ?_⟩) ?_ ?_
    rotate_left
    · intro w'
      go_simp
      with_reducible rfl
    rotate_left
    · simp only [Act.put, List.setIfInBounds_toArray, List.set_cons_zero, List.set_cons_succ, i64_w, i32_w]
      rfl
    refine pure_ (i := 6) (N := some 21) (v := ?_) (a' := ?_) #[true, true, true, true, true, true, true, false, false, false, false, false] rfl rfl (any_of HT_.out (by kernel_rfl)) (fun _ _ _ h => h) (Or.inl ⟨by rfl, ?_⟩) ?_ ?_
    rotate_left
    · intro w'
      go_simp
      with_reducible rfl
    rotate_left
    · simp only [Act.put, List.setIfInBounds_toArray, List.set_cons_zero, List.set_cons_succ, i64_w, i32_w]
      rfl
    refine pure_ (i := 7) (N := some 22) (v := ?_) (a' := ?_) #[true, true, true, true, true, true, true, true, false, false, false, false] rfl rfl (any_of HT_.out (by kernel_rfl)) (fun _ _ _ h => h) (Or.inl ⟨by rfl, ?_⟩) ?_ ?_
    rotate_left
    · intro w'
      go_simp
      with_reducible rfl
    rotate_left
    · simp only [Act.put, List.setIfInBounds_toArray, List.set_cons_zero, List.set_cons_succ, i64_w, i32_w]
      rfl
    refine take_ (i := 8) (N := some 23) (v := ?_) (a' := ?_) #[true, true, true, true, true, true, true, true, true, false, false, false] rfl rfl (take_ofW HT_.out HW_.out (by kernel_rfl)) (fun _ _ _ h => h) (Or.inl ⟨by rfl, ?_⟩) hHeld ?_ ?_
    rotate_left
    · rintro w' ⟨s0, s1⟩
      go_simp
      with_reducible rfl
    rotate_left
    · simp only [Act.put, List.setIfInBounds_toArray, List.set_cons_zero, List.set_cons_succ, i64_w, i32_w]
      rfl
    refine pure_ (i := 9) (N := some 24) (v := ?_) (a' := ?_) #[true, true, true, true, true, true, true, true, true, true, false, false] rfl rfl (any_of HT_.out (by kernel_rfl)) (fun _ _ _ h => h) (Or.inl ⟨by rfl, ?_⟩) ?_ ?_
    rotate_left
    · intro w'
      go_simp
      with_reducible rfl
    rotate_left
    · simp only [Act.put, List.setIfInBounds_toArray, List.set_cons_zero, List.set_cons_succ, i64_w, i32_w]
      rfl
    refine one_ (i := 10) (N := some 25) #[true, true, true, true, true, true, true, true, true, true, true, false] rfl rfl (one_of HT_.out (by kernel_rfl)) (by decide) (fun K hK => ?_)
    refine step_copy_splice rfl (.tmp 15) (.tmp 24) 32 32 rfl 5 Try.underlying32 (by kernel_rfl) (some ⟨w.heap.size, 0, none⟩) adA d d (n - at_) (n - at_) rfl rfl w.heap.size 0 (bytesV (List.replicate d 0)) 5 HQ' (bytesV ((cs.drop at_).take k1)) HN1.out (fun hp => ⟨rfl, HS1.out (fun j v hv => pw_cell_below HB.out hv) hp⟩) HF1.out (bytesV_one _) w.heap.size w HB.out (Nat.le_refl _) ?_
    intro w4 hg4 hb4
    have n0_ := Aside0.mk hb4; clear HB; have HB := n0_; clear n0_ hb4 HQ'
    have HQ := Aside0.mk hg4.out; clear hg4
    rw [HK1.out]
    refine hK.out _ _ ⟨pw_cell_below HB.out C0.out, pw_cell_below HB.out C1.out⟩ (fun hHeld => ?_)
    clear hK K
    refine norm_ (a' := ?_) ?_ ?_
    rotate_left
    · show Act.put _ (some 25) _ = _
      simp only [Act.put, List.setIfInBounds_toArray, List.set_cons_zero, List.set_cons_succ, i64_w, i32_w]
      rfl
    refine pure_ (i := 11) (N := some 6) (v := ?_) (a' := ?_) #[true, true, true, true, true, true, true, true, true, true, true, true] rfl rfl (any_of HT_.out (by kernel_rfl)) (fun _ _ _ h => h) (Or.inl ⟨by rfl, ?_⟩) ?_ ?_
    rotate_left
    · intro w'
      go_simp
      with_reducible rfl
    rotate_left
    · simp only [Act.put, List.setIfInBounds_toArray, List.set_cons_zero, List.set_cons_succ, i64_w, i32_w]
      rfl
    refine done_ (done_of HT_.out (by kernel_rfl)) ?_
    go_wp2
    have n0_ := Aside0.mk (below_drew1 HB.out); clear HB; have HB := n0_; clear n0_
    have HQ' : w4.drew.heap[w.heap.size]? = _ := HQ.out
    refine start_ (n := 8) (S := fun w' => w'.cell? ⟨g, 0, none⟩ = some (.slice (some ⟨b, 0, none⟩) n n)) (ds := []) #[false, false, false, false, false, false, false, false] (by kernel_rfl) rfl rfl (pw_cell_below HB.out C0.out) (fun hHeld => ?_); refine with_tabW tabPeekB bitsPeekB (fun HT_ HW_ => ?_)
    generalize w4.drew = wd at HB HQ' hHeld ⊢
    refine pure_ (i := 0) (N := some 26) (v := ?_) (a' := ?_) #[true, false, false, false, false, false, false, false] rfl rfl (any_of HT_.out (by kernel_rfl)) (fun _ _ _ h => h) (Or.inl ⟨by rfl, ?_⟩) ?_ ?_
    rotate_left
    · intro w'
      go_simp
      with_reducible rfl
    rotate_left
    · simp only [Act.put, List.setIfInBounds_toArray, List.set_cons_zero, List.set_cons_succ, i64_w, i32_w]
      rfl
    refine pure_ (i := 1) (N := some 27) (v := ?_) (a' := ?_) #[true, true, false, false, false, false, false, false] rfl rfl (any_of HT_.out (by kernel_rfl)) (fun _ _ _ h => h) (Or.inl ⟨by rfl, ?_⟩) ?_ ?_
    rotate_left
    · intro w'
      go_simp
      with_reducible rfl
    rotate_left
    · simp only [Act.put, List.setIfInBounds_toArray, List.set_cons_zero, List.set_cons_succ, i64_w, i32_w]
      rfl
    refine pure_ (i := 2) (N := some 28) (v := ?_) (a' := ?_) #[true, true, true, false, false, false, false, false] rfl rfl (any_of HT_.out (by kernel_rfl)) (fun _ _ _ h => h) (Or.inl ⟨by rfl, ?_⟩) ?_ ?_
    rotate_left
    · intro w'
      go_simp
      with_reducible rfl
    rotate_left
    · simp only [Act.put, List.setIfInBounds_toArray, List.set_cons_zero, List.set_cons_succ, i64_w, i32_w]
      rfl
    refine pure_ (i := 3) (N := some 29) (v := ?_) (a' := ?_) #[true, true, true, true, false, false, false, false] rfl rfl (any_of HT_.out (by kernel_rfl)) (fun _ _ _ h => h) (Or.inl ⟨by rfl, ?_⟩) ?_ ?_
    rotate_left
    · intro w'
      go_simp
      with_reducible rfl
    rotate_left
    · simp only [Act.put, List.setIfInBounds_toArray, List.set_cons_zero, List.set_cons_succ, i64_w, i32_w]
      rfl
    refine pure_ (i := 4) (N := some 30) (v := ?_) (a' := ?_) #[true, true, true, true, true, false, false, false] rfl rfl (any_of HT_.out (by kernel_rfl)) (fun _ _ _ h => h) (Or.inl ⟨by rfl, ?_⟩) ?_ ?_
    rotate_left
    · intro w'
      go_simp
      with_reducible rfl
    rotate_left
    · simp only [Act.put, List.setIfInBounds_toArray, List.set_cons_zero, List.set_cons_succ, i64_w, i32_w]
      rfl
    refine pure_ (i := 5) (N := some 31) (v := ?_) (a' := ?_) #[true, true, true, true, true, true, false, false] rfl rfl (any_of HT_.out (by kernel_rfl)) (fun _ _ _ h => h) (Or.inl ⟨by rfl, ?_⟩) ?_ ?_
    rotate_left
    · intro w'
      go_simp
      with_reducible rfl
    rotate_left
    · simp only [Act.put, List.setIfInBounds_toArray, List.set_cons_zero, List.set_cons_succ, i64_w, i32_w]
      rfl
    refine take_ (i := 6) (N := some 32) (v := ?_) (a' := ?_) #[true, true, true, true, true, true, true, false] rfl rfl (take_ofW HT_.out HW_.out (by kernel_rfl)) (fun _ _ _ h => h) (Or.inl ⟨by rfl, ?_⟩) hHeld ?_ ?_
    rotate_left
    · rintro w' s0
      go_simp
      with_reducible rfl
    rotate_left
    · simp only [Act.put, List.setIfInBounds_toArray, List.set_cons_zero, List.set_cons_succ, i64_w, i32_w]
      rfl
    refine one_ (i := 7) (N := some 33) #[true, true, true, true, true, true, true, true] rfl rfl (one_of HT_.out (by kernel_rfl)) (by decide) (fun K hK => ?_)
    refine step_copy_splice rfl (.tmp 28) (.tmp 32) 32 32 rfl 5 Try.underlying32 (by kernel_rfl) adB (some ⟨b, 0, none⟩) (d - k1) (d - k1) n n rfl rfl w.heap.size k1 (splice (bytesV (List.replicate d 0)) 0 (bytesV ((cs.drop at_).take k1))) 5 HQ' (bytesV (cs.take k2)) HN2.out (fun hp => HS2.out (fun j v hv => pw_cell_below HB.out hv) hp) HF2.out (bytesV_one _) w.heap.size w HB.out (Nat.le_refl _) ?_
    intro w5 hg5 hb5
    have n0_ := Aside0.mk hb5; clear HB; have HB := n0_; clear n0_ hb5 HQ'
    have HQ := Aside0.mk hg5.out; clear hg5
    refine hK.out _ _ (pw_cell_below HB.out C0.out) (fun hHeld => ?_)
    clear hK K
    refine norm_ (a' := ?_) ?_ ?_
    rotate_left
    · show Act.put _ (some 33) _ = _
      simp only [Act.put, List.setIfInBounds_toArray, List.set_cons_zero, List.set_cons_succ, i64_w, i32_w]
      rfl
    refine done_ (done_of HT_.out (by kernel_rfl)) ?_
    go_wp2
    go_ret
    exact ⟨rfl, HFIN.out _ HQ.out, HB.out⟩
end Go.Proofs.Ytbplfoanhfmheaa.Hand
