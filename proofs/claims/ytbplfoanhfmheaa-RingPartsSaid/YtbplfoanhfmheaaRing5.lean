/- Force and Write on a ring: the bytes stand behind. -/
import Derived.Test.YtbplfoanhfmheaaRing4
import Derived.Deep.LoopGhost
namespace Go.Proofs.Ytbplfoanhfmheaa.Hand
open Go.RowKit Go.Proofs.YtbplfoanhfmheaaW.PrintWords Go.Proofs.YtbplfoanhfmheaaW.PrintLast Go.Proofs.YtbplfoanhfmheaaW.PrintMore
attribute [local go_sem] max2_int min2_int max_two min_two
set_option linter.unusedVariables false
set_option linter.unusedSimpArgs false
def TForce : Bool × List (List Nat × List Nat) := (true, [([], []), ([0], [0]), ([1], [1]), ([2], [2]), ([], []), ([4], [4]), ([5], [5]), ([6], [6]), ([], []), ([8], [8]), ([9], [9]), ([10], [10]), ([7, 11], [7, 11]), ([], []), ([13], [13]), ([14], [14]), ([15], [15]), ([16], [16]), ([12, 17], [12, 17]), ([], []), ([3, 18, 0, 1, 2, 3, 4, 5, 6, 7, 8, 9, 10, 11, 12, 13, 14, 15, 16, 17, 18, 19], [3, 18]), ([20, 19, 0, 1, 2, 3, 4, 5, 6, 7, 8, 9, 10, 11, 12, 13, 14, 15, 16, 17, 18, 19], [19, 20])])
def BForce : List Nat := [0, 1, 3, 7, 0, 16, 48, 112, 0, 256, 768, 1792, 4080, 0, 8192, 24576, 57344, 122880, 262128, 0, 1048575, 2097151]
theorem tabForce : rtab .any (opsOf Try.f14 4) = TForce := by kernel_rfl
theorem bitsForce : waitsOk TForce.2 BForce = true := by kernel_rfl
theorem Fr.cell {X : Nat → Prop} {w w' : World} (h : Fr X w w') {a : Addr} {v : Value} (hx : ¬ X a.block) (hc : w.cell? a = some v) : w'.cell? a = some v :=
  (World.cell?_of_block (w := w) (h.block a.block (World.block_lt_of_cell? w a hc) hx)).trans hc
/-- A row of bytes that is none of the blocks of X. -/
structure ArgAt (X : Nat → Prop) (w : World) (A : Option Addr) (l : List Int) : Prop where
  len : l.length ≤ 1099511627776
  at_ : ∀ i, i < l.length → ∃ ad : Addr, A = some ad ∧ ¬ X (ad.add i).block ∧ w.cell? (ad.add i) = some (.int .u8 (l.getD i 0))
theorem ArgAt.keep {X Y : Nat → Prop} {w w' : World} {A : Option Addr} {l : List Int} (h : ArgAt X w A l) (hf : Fr Y w w') (hy : ∀ i, i < w.heap.size → Y i → X i) : ArgAt X w' A l :=
  ⟨h.len, fun i hi => by
    obtain ⟨ad, e, hx, hc⟩ := h.at_ i hi
    exact ⟨ad, e, hx, hf.cell (fun hy' => hx (hy _ (World.block_lt_of_cell? w _ hc) hy')) hc⟩⟩
theorem ArgAt.more {X Y : Nat → Prop} {w : World} {A : Option Addr} {l : List Int} (h : ArgAt X w A l) (hy : ∀ i, i < w.heap.size → Y i → X i) : ArgAt Y w A l :=
  ⟨h.len, fun i hi => by
    obtain ⟨ad, e, hx, hc⟩ := h.at_ i hi
    exact ⟨ad, e, fun hy' => hx (hy _ (World.block_lt_of_cell? w _ hc) hy'), hc⟩⟩
section
variable {w : World} {g b at_ many n : Nat} {room : Int} {cs : List Int}
theorem content_put (hl : cs.length = n) (ha : at_ < n) (hm : many < n) (c : Int) : content at_ (many + 1) (cs.set ((at_ + many) % n) c) = content at_ many cs ++ [c] := by
  apply List.ext_getElem?
  intro i
  have key : ∀ (ds : List Int) (j : Nat), ds.length = n → j < n → (ds.drop at_ ++ ds.take at_)[j]? = if at_ + j < n then ds[at_ + j]? else ds[at_ + j - n]? := by
    intro ds j h1 h2
    rw [List.getElem?_append, List.length_drop, h1]
    by_cases h : at_ + j < n
    · rw [if_pos (by omega), if_pos h, List.getElem?_drop]
    · rw [if_neg (by omega), if_neg h, List.getElem?_take_of_lt (by omega)]
      congr 1
      omega
  have hp : (at_ + many) % n = if at_ + many < n then at_ + many else at_ + many - n := by
    by_cases h : at_ + many < n
    · rw [if_pos h, Nat.mod_eq_of_lt h]
    · rw [if_neg h, Nat.mod_eq_sub_mod (by omega), Nat.mod_eq_of_lt (by omega)]
  have hcl : (content at_ many cs).length = many := content_len hl (by omega) (by omega)
  rw [List.getElem?_append, hcl]
  generalize hP : (at_ + many) % n = P at hp
  unfold content
  by_cases hi : i < many
  · rw [if_pos hi, List.getElem?_take_of_lt (by omega), List.getElem?_take_of_lt hi, key _ i (by rw [List.length_set]; exact hl) (by omega), key cs i hl (by omega)]
    by_cases h : at_ + i < n
    · rw [if_pos h, if_pos h, List.getElem?_set_ne]
      rw [hp]
      split <;> omega
    · rw [if_neg h, if_neg h, List.getElem?_set_ne]
      rw [hp]
      split <;> omega
  · rw [if_neg hi]
    by_cases hi2 : i = many
    · subst hi2
      rw [List.getElem?_take_of_lt (by omega), key _ i (by rw [List.length_set]; exact hl) (by omega), Nat.sub_self]
      by_cases h : at_ + i < n
      · rw [if_pos h] at hp ⊢
        rw [hp, List.getElem?_set_self (by omega)]
        rfl
      · rw [if_neg h] at hp ⊢
        rw [hp, List.getElem?_set_self (by omega)]
        rfl
    · rw [List.getElem?_eq_none (by rw [List.length_take]; omega), List.getElem?_eq_none (by simp; omega)]
theorem RingAt.cells_b (h : RingAt w g b at_ many n room cs) (i : Nat) (v : Value) : (w.setCell ⟨b, i, none⟩ v).cell? ⟨g, 0, none⟩ = some (.slice (some ⟨b, 0, none⟩) n n) ∧ (w.setCell ⟨b, i, none⟩ v).cell? ⟨g, 1, none⟩ = some (.int .i64 at_) ∧ (w.setCell ⟨b, i, none⟩ v).cell? ⟨g, 2, none⟩ = some (.int .i64 many) ∧ (w.setCell ⟨b, i, none⟩ v).frozen? ⟨g, 2, none⟩ = false := by
  have h1 : (w.setCell ⟨b, i, none⟩ v).heap[g]? = _ := (blk_far h.hg (fun e => h.ne e) _)
  exact ⟨by rw [blk_cell h1]; rfl, by rw [blk_cell h1]; rfl, by rw [blk_cell h1]; rfl, blk_frozen h1 2⟩
theorem RingAt.put (h : RingAt w g b at_ many n room cs) (hm : many < n) (i : Nat) (hi : i < n) (c : Int) : RingAt ((w.setCell ⟨b, i, none⟩ (.int .u8 c)).setCell ⟨g, 2, none⟩ (.int .i64 ((many + 1 : Nat) : Int))) g b at_ (many + 1) n room (cs.set i c) := by
  have h1 : (w.setCell ⟨b, i, none⟩ (.int .u8 c)).heap[g]? = _ := (blk_far h.hg (fun e => h.ne e) _)
  have h2 : (w.setCell ⟨b, i, none⟩ (.int .u8 c)).heap[b]? = _ := blk_set h.hb i _
  refine ⟨?_, ?_, by rw [List.length_set]; exact h.len, h.ne, by omega, h.hn⟩
  · rw [blk_set h1]
    rfl
  · rw [blk_far h2 (fun e => h.ne e.symm)]
    congr 2
    unfold bytesV
    simp
end
theorem Ring.grow_calls {w : World} {g b : Nat} {room : Int} {s : List Int} (h : Ring w g b room s) (k : Nat) (hk : s.length + k ≤ 1099511627776) :
    Calls Try.prog 27 #[.pointer (some ⟨g, 0, none⟩), .int .i64 k] w fun e w' => e = .returned (.tuple #[]) ∧ ∃ (b' at_ n : Nat) (cs : List Int), RingAt w' g b' at_ s.length n room cs ∧ (at_ < n ∨ n = 0 ∧ at_ = 0) ∧ content at_ s.length cs = s ∧ s.length + k ≤ n ∧ (b' = b ∨ w.heap.size ≤ b') ∧ Fr (fun i => i = g) w w' := by
  obtain ⟨at_, many, n, cs, h, ha, hs⟩ := h
  have hl := content_len (at_ := at_) h.len (by omega) h.hm
  have hsl : s.length = many := by rw [hs, hl]
  rw [hsl] at hk ⊢
  by_cases hc : many + k ≤ n
  · refine (grow_stay h k hc).mono fun e w' ⟨he, hd⟩ => ⟨he, b, at_, n, cs, ?_, ha, hs.symm, hc, .inl rfl, Fr.of_below hd.below⟩
    obtain ⟨q, rfl⟩ := hd.out
    exact h.drewN q
  · refine (grow_more h ha k (2 * (many + k)) (by omega) hk rfl).mono fun e w' ⟨he, hr, hf⟩ => ⟨he, w.heap.size, 0, _, _, hr, by omega, ?_, by omega, .inr (Nat.le_refl _), hf⟩
    rw [content_new _ _ _ hl, hs]
set_option maxHeartbeats 4000000 in
theorem force_calls {w : World} {g b : Nat} {room : Int} {s : List Int} (h : Ring w g b room s) (A : Option Addr) (c : Nat) (l : List Int) (hC : ArgAt (fun i => i = g ∨ i = b) w A l) (hk : s.length + l.length ≤ 1099511627776) :
    Calls Try.prog 14 #[.pointer (some ⟨g, 0, none⟩), .slice A l.length c] w fun e w' => e = .returned (.tuple #[]) ∧ ∃ b', Ring w' g b' room (s ++ l) ∧ (b' = b ∨ w.heap.size ≤ b') ∧ Fr (fun i => i = g ∨ i = b) w w' := by
  have HG := Lib.hid (Ring.grow_calls h l.length hk)
  have HC := Lib.hid hC
  have hkl : l.length ≤ 1099511627776 := by omega
  clear h hC
  go_enter Try.func14, Try.ntmps14
  go_wp2_with fail
  refine HG.out.mono ?_
  rintro e w1 ⟨rfl, b1, at_, n, cs, hr, ha, hs, hn, hb, hf⟩
  have HC1 : Hid (ArgAt (fun i => i = g ∨ i = b1) w1 A l) :=
    (HC.out.more (Y := fun i => i = g ∨ i = b1) (fun i hi h => by rcases h with h | h <;> rcases hb with hb | hb <;> omega)).keep hf (fun i _ h => .inl h)
  have hX : ∀ i, i < w.heap.size → (i = g ∨ i = b1) → (i = g ∨ i = b) := fun i hi h => by rcases h with h | h <;> rcases hb with hb | hb <;> omega
  have HX := Lib.hid hX
  clear hX
  have HS := Lib.hid hs
  have HR := Lib.hid hr
  have HF := Lib.hid hf
  have HA := Lib.hid ha
  have HBB := Lib.hid hb
  have hnn := hr.hn
  have hmm := hr.hm
  clear hs hr hf ha hb HC HG
  go_wp2_with fail
  go_loopw [12] (fun u12 wr => ∃ (k : Nat) (ck : List Int), k ≤ l.length ∧ u12 = .int .i64 k ∧ Aside0 (RingAt wr g b1 at_ (s.length + k) n room ck) ∧ Aside0 (content at_ (s.length + k) ck = s ++ l.take k) ∧ Aside0 (Fr (fun i => i = g ∨ i = b1) w1 wr)) (fun u12 _ => l.length - (intOf u12).toNat)
  case atStart => exact ⟨0, cs, Nat.zero_le _, rfl, ⟨HR.out⟩, ⟨by rw [List.take_zero, List.append_nil]; exact HS.out⟩, ⟨Fr.refl _ _⟩⟩
  case round =>
    obtain ⟨k, ck, hk', rfl, HRk, HTk, HFk⟩ := hrel
    by_cases hlt : k < l.length
    · have hRk := HRk.out
      obtain ⟨ix, hix⟩ : ∃ ix : Nat, ix = (at_ + (s.length + k)) % n := ⟨_, rfl⟩
      have hixn : ix < n := hix ▸ Nat.mod_lt _ (by omega)
      have hat : at_ < n := by have := HA.out; omega
      obtain ⟨sm, hsm⟩ : ∃ sm : Nat, sm = at_ + (s.length + k) := ⟨_, rfl⟩
      have hsum : wrap64 ((at_ : Int) + ((s.length : Int) + (k : Int))) = (sm : Int) := by rw [hsm]; unfold wrap64; omega
      have hrem : (sm : Int).tmod (n : Int) = (ix : Int) := by rw [Int.tmod_eq_emod_of_nonneg (by omega), hix, hsm]; exact_mod_cast rfl
      have hn0 : ¬ (n = 0) := by omega
      clear hsm
      have hput : ∀ (W : World) (u v : Int), RingAt W g b1 at_ (s.length + k) n room ck → u = ((s.length + k + 1 : Nat) : Int) → RingAt ((W.setCell ⟨b1, ix, none⟩ (.int .u8 v)).setCell ⟨g, 2, none⟩ (.int .i64 u)) g b1 at_ (s.length + (k + 1)) n room (ck.set ix v) := by
        rintro W u v hW rfl
        exact hW.put (by omega) ix hixn v
      have htext : ∀ v, content at_ (s.length + (k + 1)) (ck.set ix v) = s ++ l.take k ++ [v] := by
        intro v
        rw [hix, ← Nat.add_assoc, content_put hRk.len hat (by omega), HTk.out]
      have HPUT := Lib.hid hput
      have HTEXT := Lib.hid htext
      have hl1 : l.take (k + 1) = l.take k ++ [l.getD k 0] := by
        rw [List.take_succ_eq_append_getElem hlt, List.getD_eq_getElem?_getD, List.getElem?_eq_getElem hlt]
        rfl
      have HL1 := Lib.hid hl1
      obtain ⟨ad, hA, _, hcell⟩ := (HC1.out.keep HFk.out (fun i _ h => h)).at_ k hlt
      subst hA
      obtain ⟨old, hold⟩ : ∃ old, wr.cell? ⟨b1, ix, none⟩ = some (.int .u8 old) := ⟨_, hRk.cb ix hixn⟩
      have SD : Aside0 (wr.drew.cell? ⟨g, 0, none⟩ = some (.slice (some ⟨b1, 0, none⟩) n n) ∧ wr.drew.cell? ⟨g, 1, none⟩ = some (.int .i64 at_) ∧ wr.drew.cell? ⟨g, 2, none⟩ = some (.int .i64 ((s.length : Int) + (k : Int)))) := ⟨hRk.drew.c0, hRk.drew.c1, hRk.drew.c2⟩
      have CB : Aside0 (wr.drew.cell? ⟨b1, ix, none⟩ = some (.int .u8 old)) := ⟨hold⟩
      have FB : Aside0 (wr.drew.frozen? ⟨b1, ix, none⟩ = false) := ⟨blk_frozen hRk.drew.hb ix⟩
      have hgb : g ≠ b1 := hRk.ne
      have HRD : Aside0 (RingAt wr.drew g b1 at_ (s.length + k) n room ck) := ⟨hRk.drew⟩
      have HFD : Aside0 (Fr (fun i => i = g ∨ i = b1) w1 wr.drew) := ⟨HFk.out.drew⟩
      have hv : l.getD k 0 = l[k] := by rw [List.getD_eq_getElem?_getD, List.getElem?_eq_getElem hlt]; rfl
      have HV := Lib.hid hv
      clear hv
      clear hRk hix hput htext hl1 hold HRk HTk HFk
      have HSUM := Lib.hid hsum
      have HREM := Lib.hid hrem
      clear hsum hrem
      go_wp2_with fail
      have hsum := HSUM.out
      have hrem := HREM.out
      have HS : Aside0 (wr.drew.cell? ⟨g, 0, none⟩ = some (.slice (some ⟨b1, 0, none⟩) n n) ∧ wr.drew.cell? ⟨g, 1, none⟩ = some (.int .i64 at_) ∧ wr.drew.cell? ⟨g, 2, none⟩ = some (.int .i64 ((s.length : Int) + (k : Int)))) := ⟨SD.out⟩
      refine start_ (n := 22) (S := fun w' => w'.cell? ⟨g, 0, none⟩ = some (.slice (some ⟨b1, 0, none⟩) n n) ∧ w'.cell? ⟨g, 1, none⟩ = some (.int .i64 at_) ∧ w'.cell? ⟨g, 2, none⟩ = some (.int .i64 ((s.length : Int) + (k : Int)))) (ds := []) #[false, false, false, false, false, false, false, false, false, false, false, false, false, false, false, false, false, false, false, false, false, false] (by kernel_rfl) rfl rfl HS.out (fun hHeld => ?_); refine with_tabW tabForce bitsForce (fun HT_ HW_ => ?_)
      clear HS SD
      generalize wr.drew = wd at hHeld HRD HFD CB FB ⊢
      have hcd := CB.out
      have hfd := FB.out
      refine pure_ (i := 0) (N := some 16) (v := ?_) (a' := ?_) #[true, false, false, false, false, false, false, false, false, false, false, false, false, false, false, false, false, false, false, false, false, false] rfl rfl (any_of HT_.out (by kernel_rfl)) (fun _ _ _ h => h) (Or.inl ⟨by rfl, ?_⟩) ?_ ?_
      rotate_left
      · intro w'
        go_simp
        with_reducible rfl
      rotate_left
      · simp only [Act.put, List.setIfInBounds_toArray, List.set_cons_zero, List.set_cons_succ, i64_w, i32_w]
        rfl
      refine pure_ (i := 1) (N := some 17) (v := ?_) (a' := ?_) #[true, true, false, false, false, false, false, false, false, false, false, false, false, false, false, false, false, false, false, false, false, false] rfl rfl (any_of HT_.out (by kernel_rfl)) (fun _ _ _ h => h) (Or.inl ⟨by rfl, ?_⟩) ?_ ?_
      rotate_left
      · intro w'
        go_simp
        with_reducible rfl
      rotate_left
      · simp only [Act.put, List.setIfInBounds_toArray, List.set_cons_zero, List.set_cons_succ, i64_w, i32_w]
        rfl
      refine pure_ (i := 2) (N := some 18) (v := ?_) (a' := ?_) #[true, true, true, false, false, false, false, false, false, false, false, false, false, false, false, false, false, false, false, false, false, false] rfl rfl (any_of HT_.out (by kernel_rfl)) (fun _ _ _ h => h) (Or.inl ⟨by rfl, ?_⟩) ?_ ?_
      rotate_left
      · intro w'
        go_simp
        with_reducible rfl
      rotate_left
      · simp only [Act.put, List.setIfInBounds_toArray, List.set_cons_zero, List.set_cons_succ, i64_w, i32_w]
        rfl
      refine take_ (i := 3) (N := some 19) (v := ?_) (a' := ?_) #[true, true, true, true, false, false, false, false, false, false, false, false, false, false, false, false, false, false, false, false, false, false] rfl rfl (take_ofW HT_.out HW_.out (by kernel_rfl)) (fun _ _ _ h => h) (Or.inl ⟨by rfl, ?_⟩) hHeld ?_ ?_
      rotate_left
      · rintro w' ⟨s0, s1, s2⟩
        go_simp
        with_reducible rfl
      rotate_left
      · simp only [Act.put, List.setIfInBounds_toArray, List.set_cons_zero, List.set_cons_succ, i64_w, i32_w]
        rfl
      refine pure_ (i := 4) (N := some 20) (v := ?_) (a' := ?_) #[true, true, true, true, true, false, false, false, false, false, false, false, false, false, false, false, false, false, false, false, false, false] rfl rfl (any_of HT_.out (by kernel_rfl)) (fun _ _ _ h => h) (Or.inl ⟨by rfl, ?_⟩) ?_ ?_
      rotate_left
      · intro w'
        go_simp
        with_reducible rfl
      rotate_left
      · simp only [Act.put, List.setIfInBounds_toArray, List.set_cons_zero, List.set_cons_succ, i64_w, i32_w]
        rfl
      refine pure_ (i := 5) (N := some 21) (v := ?_) (a' := ?_) #[true, true, true, true, true, true, false, false, false, false, false, false, false, false, false, false, false, false, false, false, false, false] rfl rfl (any_of HT_.out (by kernel_rfl)) (fun _ _ _ h => h) (Or.inl ⟨by rfl, ?_⟩) ?_ ?_
      rotate_left
      · intro w'
        go_simp
        with_reducible rfl
      rotate_left
      · simp only [Act.put, List.setIfInBounds_toArray, List.set_cons_zero, List.set_cons_succ, i64_w, i32_w]
        rfl
      refine pure_ (i := 6) (N := some 22) (v := ?_) (a' := ?_) #[true, true, true, true, true, true, true, false, false, false, false, false, false, false, false, false, false, false, false, false, false, false] rfl rfl (any_of HT_.out (by kernel_rfl)) (fun _ _ _ h => h) (Or.inl ⟨by rfl, ?_⟩) ?_ ?_
      rotate_left
      · intro w'
        go_simp
        with_reducible rfl
      rotate_left
      · simp only [Act.put, List.setIfInBounds_toArray, List.set_cons_zero, List.set_cons_succ, i64_w, i32_w]
        rfl
      refine take_ (i := 7) (N := some 23) (v := ?_) (a' := ?_) #[true, true, true, true, true, true, true, true, false, false, false, false, false, false, false, false, false, false, false, false, false, false] rfl rfl (take_ofW HT_.out HW_.out (by kernel_rfl)) (fun _ _ _ h => h) (Or.inl ⟨by rfl, ?_⟩) hHeld ?_ ?_
      rotate_left
      · rintro w' ⟨s0, s1, s2⟩
        go_simp
        with_reducible rfl
      rotate_left
      · simp only [Act.put, List.setIfInBounds_toArray, List.set_cons_zero, List.set_cons_succ, i64_w, i32_w]
        rfl
      refine pure_ (i := 8) (N := some 24) (v := ?_) (a' := ?_) #[true, true, true, true, true, true, true, true, true, false, false, false, false, false, false, false, false, false, false, false, false, false] rfl rfl (any_of HT_.out (by kernel_rfl)) (fun _ _ _ h => h) (Or.inl ⟨by rfl, ?_⟩) ?_ ?_
      rotate_left
      · intro w'
        go_simp
        with_reducible rfl
      rotate_left
      · simp only [Act.put, List.setIfInBounds_toArray, List.set_cons_zero, List.set_cons_succ, i64_w, i32_w]
        rfl
      refine pure_ (i := 9) (N := some 25) (v := ?_) (a' := ?_) #[true, true, true, true, true, true, true, true, true, true, false, false, false, false, false, false, false, false, false, false, false, false] rfl rfl (any_of HT_.out (by kernel_rfl)) (fun _ _ _ h => h) (Or.inl ⟨by rfl, ?_⟩) ?_ ?_
      rotate_left
      · intro w'
        go_simp
        with_reducible rfl
      rotate_left
      · simp only [Act.put, List.setIfInBounds_toArray, List.set_cons_zero, List.set_cons_succ, i64_w, i32_w]
        rfl
      refine pure_ (i := 10) (N := some 26) (v := ?_) (a' := ?_) #[true, true, true, true, true, true, true, true, true, true, true, false, false, false, false, false, false, false, false, false, false, false] rfl rfl (any_of HT_.out (by kernel_rfl)) (fun _ _ _ h => h) (Or.inl ⟨by rfl, ?_⟩) ?_ ?_
      rotate_left
      · intro w'
        go_simp
        with_reducible rfl
      rotate_left
      · simp only [Act.put, List.setIfInBounds_toArray, List.set_cons_zero, List.set_cons_succ, i64_w, i32_w]
        rfl
      refine take_ (i := 11) (N := some 27) (v := ?_) (a' := ?_) #[true, true, true, true, true, true, true, true, true, true, true, true, false, false, false, false, false, false, false, false, false, false] rfl rfl (take_ofW HT_.out HW_.out (by kernel_rfl)) (fun _ _ _ h => h) (Or.inl ⟨by rfl, ?_⟩) hHeld ?_ ?_
      rotate_left
      · rintro w' ⟨s0, s1, s2⟩
        go_simp
        with_reducible rfl
      rotate_left
      · simp only [Act.put, List.setIfInBounds_toArray, List.set_cons_zero, List.set_cons_succ, i64_w, i32_w]
        rfl
      refine pure_ (i := 12) (N := some 28) (v := ?_) (a' := ?_) #[true, true, true, true, true, true, true, true, true, true, true, true, true, false, false, false, false, false, false, false, false, false] rfl rfl (any_of HT_.out (by kernel_rfl)) (fun _ _ _ h => h) (Or.inl ⟨by rfl, ?_⟩) ?_ ?_
      rotate_left
      · intro w'
        go_simp
        with_reducible rfl
      rotate_left
      · simp only [Act.put, List.setIfInBounds_toArray, List.set_cons_zero, List.set_cons_succ, i64_w, i32_w]
        rfl
      refine pure_ (i := 13) (N := some 29) (v := ?_) (a' := ?_) #[true, true, true, true, true, true, true, true, true, true, true, true, true, true, false, false, false, false, false, false, false, false] rfl rfl (any_of HT_.out (by kernel_rfl)) (fun _ _ _ h => h) (Or.inl ⟨by rfl, ?_⟩) ?_ ?_
      rotate_left
      · intro w'
        go_simp
        with_reducible rfl
      rotate_left
      · simp only [Act.put, List.setIfInBounds_toArray, List.set_cons_zero, List.set_cons_succ, i64_w, i32_w]
        rfl
      refine pure_ (i := 14) (N := some 30) (v := ?_) (a' := ?_) #[true, true, true, true, true, true, true, true, true, true, true, true, true, true, true, false, false, false, false, false, false, false] rfl rfl (any_of HT_.out (by kernel_rfl)) (fun _ _ _ h => h) (Or.inl ⟨by rfl, ?_⟩) ?_ ?_
      rotate_left
      · intro w'
        go_simp
        with_reducible rfl
      rotate_left
      · simp only [Act.put, List.setIfInBounds_toArray, List.set_cons_zero, List.set_cons_succ, i64_w, i32_w]
        rfl
      refine pure_ (i := 15) (N := some 31) (v := ?_) (a' := ?_) #[true, true, true, true, true, true, true, true, true, true, true, true, true, true, true, true, false, false, false, false, false, false] rfl rfl (any_of HT_.out (by kernel_rfl)) (fun _ _ _ h => h) (Or.inl ⟨by rfl, ?_⟩) ?_ ?_
      rotate_left
      · intro w'
        go_simp
        with_reducible rfl
      rotate_left
      · simp only [Act.put, List.setIfInBounds_toArray, List.set_cons_zero, List.set_cons_succ, i64_w, i32_w]
        rfl
      refine take_ (i := 16) (N := some 32) (v := ?_) (a' := ?_) #[true, true, true, true, true, true, true, true, true, true, true, true, true, true, true, true, true, false, false, false, false, false] rfl rfl (take_ofW HT_.out HW_.out (by kernel_rfl)) (fun _ _ _ h => h) (Or.inl ⟨by rfl, ?_⟩) hHeld ?_ ?_
      rotate_left
      · rintro w' ⟨s0, s1, s2⟩
        go_simp
        with_reducible rfl
      rotate_left
      · simp only [Act.put, List.setIfInBounds_toArray, List.set_cons_zero, List.set_cons_succ, i64_w, i32_w]
        rfl
      refine pure_ (i := 17) (N := some 33) (v := ?_) (a' := ?_) #[true, true, true, true, true, true, true, true, true, true, true, true, true, true, true, true, true, true, false, false, false, false] rfl rfl (any_of HT_.out (by kernel_rfl)) (fun _ _ _ h => h) (Or.inl ⟨by rfl, ?_⟩) ?_ ?_
      rotate_left
      · intro w'
        go_simp
        with_reducible rfl
      rotate_left
      · simp only [Act.put, List.setIfInBounds_toArray, List.set_cons_zero, List.set_cons_succ, i64_w, i32_w]
        rfl
      refine pure_ (i := 18) (N := some 34) (v := ?_) (a' := ?_) #[true, true, true, true, true, true, true, true, true, true, true, true, true, true, true, true, true, true, true, false, false, false] rfl rfl (any_of HT_.out (by kernel_rfl)) (fun _ _ _ h => h) (Or.inl ⟨by rfl, ?_⟩) ?_ ?_
      rotate_left
      · intro w'
        go_simp
        with_reducible rfl
      rotate_left
      · simp only [Act.put, List.setIfInBounds_toArray, List.set_cons_zero, List.set_cons_succ, i64_w, i32_w]
        rfl
      refine pure_ (i := 19) (N := some 35) (v := ?_) (a' := ?_) #[true, true, true, true, true, true, true, true, true, true, true, true, true, true, true, true, true, true, true, true, false, false] rfl rfl (any_of HT_.out (by kernel_rfl)) (fun _ _ _ h => h) (Or.inl ⟨by rfl, ?_⟩) ?_ ?_
      rotate_left
      · intro w'
        go_simp
        with_reducible rfl
      rotate_left
      · simp only [Act.put, List.setIfInBounds_toArray, List.set_cons_zero, List.set_cons_succ, i64_w, i32_w]
        rfl
      refine pure_ (i := 20) (N := some 36) (v := ?_) (a' := ?_) #[true, true, true, true, true, true, true, true, true, true, true, true, true, true, true, true, true, true, true, true, true, false] rfl rfl (any_of HT_.out (by kernel_rfl)) (fun _ _ _ h => h) (Or.inl ⟨by rfl, ?_⟩) ?_ ?_
      rotate_left
      · intro w'
        go_simp
        with_reducible rfl
      rotate_left
      · simp only [Act.put, List.setIfInBounds_toArray, List.set_cons_zero, List.set_cons_succ, i64_w, i32_w]
        rfl
      refine one_ (i := 21) (N := none) #[true, true, true, true, true, true, true, true, true, true, true, true, true, true, true, true, true, true, true, true, true, true] rfl rfl (one_of HT_.out (by kernel_rfl)) (by decide) (fun K hK => ?_)
      refine skip_ (by rfl) rfl (w1 := ?_) ?_ ?_
      rotate_left
      · go_simp
        with_reducible rfl
      have hv := HV.out
      refine hK.out _ _ ?_ (fun hHeld => ?_)
      · have hc := HRD.out.cells_b ix (.int .u8 (l.getD k 0))
        rw [hv] at hc
        exact ⟨hc.1, hc.2.1, hc.2.2.1⟩
      clear hK K hcd hfd
      refine done_ (done_of HT_.out (by kernel_rfl)) ?_
      have d2 := (HRD.out.cells_b ix (.int .u8 (l.getD k 0))).2.2.1
      have f2 := (HRD.out.cells_b ix (.int .u8 (l.getD k 0))).2.2.2
      rw [hv] at d2 f2
      go_wp2
      go_roundw
      case rel =>
        refine ⟨k + 1, _, by omega, by go_num, ⟨HPUT.out _ _ l[k] HRD.out (by omega)⟩, ⟨?_⟩, ⟨?_⟩⟩
        · rw [HTEXT.out, HL1.out, HV.out, List.append_assoc]
        · exact Fr.set (Fr.set HFD.out (.inr rfl) _) (.inl rfl) _
      case measure => simp [intOf]; omega
    · obtain rfl : k = l.length := by omega
      go_wp2
      go_end0
      refine ⟨rfl, b1, ⟨at_, _, n, ck, HRk.out, HA.out, ?_⟩, HBB.out, ?_⟩
      · rw [HTk.out, List.take_length]
      · exact (HF.out.mono (fun i h => .inl h)).trans HFk.out (fun i h => h) HX.out
end Go.Proofs.Ytbplfoanhfmheaa.Hand
