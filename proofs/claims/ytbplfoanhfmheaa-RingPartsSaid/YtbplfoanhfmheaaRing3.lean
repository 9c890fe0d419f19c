/- A ring as a text: what Len, Room, Free, Drop, Peek, Read tell of it and leave of it. -/
import Derived.Test.YtbplfoanhfmheaaRing2
namespace Go.Proofs.Ytbplfoanhfmheaa.Hand
open Go.RowKit Go.Proofs.YtbplfoanhfmheaaW.PrintWords Go.Proofs.YtbplfoanhfmheaaW.PrintLast Go.Proofs.YtbplfoanhfmheaaW.PrintMore
set_option linter.unusedVariables false
set_option linter.unusedSimpArgs false
/-- The struct lies in block g, the bytes in block b; it may hold room bytes; it holds s. -/
def Ring (w : World) (g b : Nat) (room : Int) (s : List Int) : Prop :=
  ∃ (at_ many n : Nat) (cs : List Int), RingAt w g b at_ many n room cs ∧ (at_ < n ∨ n = 0 ∧ at_ = 0) ∧ s = content at_ many cs
theorem content_len {at_ many n : Nat} {cs : List Int} (hl : cs.length = n) (ha : at_ ≤ n) (hm : many ≤ n) : (content at_ many cs).length = many := by
  unfold content
  rw [List.length_take, List.length_append, List.length_drop, List.length_take]
  omega
theorem content_take {at_ many d : Nat} {cs : List Int} (hd : d ≤ many) : content at_ d cs = (content at_ many cs).take d := by
  unfold content
  rw [List.take_take, Nat.min_eq_left hd]
/-- The first ones gone. -/
theorem content_drop {at_ many n d : Nat} {cs : List Int} (hl : cs.length = n) (ha : at_ < n ∨ n = 0 ∧ at_ = 0) (hm : many ≤ n) (hd : d ≤ many) :
    content (if at_ + d < n then at_ + d else at_ + d - n) (many - d) cs = (content at_ many cs).drop d := by
  apply List.ext_getElem?
  intro i
  generalize hA : (if at_ + d < n then at_ + d else at_ + d - n) = A
  unfold content
  rw [List.getElem?_drop]
  by_cases hi : i < many - d
  · rw [List.getElem?_take_of_lt hi, List.getElem?_take_of_lt (by omega)]
    have key : ∀ a j, a < n → j < n → (cs.drop a ++ cs.take a)[j]? = if a + j < n then cs[a + j]? else cs[a + j - n]? := by
      intro a j h1 h2
      rw [List.getElem?_append]
      rw [List.length_drop, hl]
      by_cases h : a + j < n
      · rw [if_pos (by omega), if_pos h, List.getElem?_drop]
      · rw [if_neg (by omega), if_neg h, List.getElem?_take_of_lt (by omega)]
        congr 1
        omega
    have ha' : at_ < n := by omega
    rw [key at_ (d + i) ha' (by omega)]
    by_cases h : at_ + d < n
    · rw [if_pos h] at hA
      subst hA
      rw [key (at_ + d) i h (by omega), show at_ + d + i = at_ + (d + i) by omega]
    · rw [if_neg h] at hA
      subst hA
      rw [key (at_ + d - n) i (by omega) (by omega), if_pos (by omega), if_neg (by omega)]
      congr 1
      omega
  · rw [List.getElem?_eq_none (by rw [List.length_take]; omega), List.getElem?_eq_none (by rw [List.length_take]; omega)]
/-- How many of the first ones are meant. -/
def cutN (x : Int) (m : Nat) : Nat := min x.toNat m
theorem cutN_cases (x : Int) (m : Nat) : (x < 0 ∧ cutN x m = 0) ∨ (∃ p : Nat, x = p ∧ m < p ∧ cutN x m = m) ∨ (∃ p : Nat, x = p ∧ p ≤ m ∧ cutN x m = p) := by
  unfold cutN
  by_cases h : x < 0
  · exact .inl ⟨h, by omega⟩
  · by_cases h2 : m < x.toNat
    · exact .inr (.inl ⟨x.toNat, by omega, h2, by omega⟩)
    · exact .inr (.inr ⟨x.toNat, by omega, by omega, by omega⟩)
theorem cutN_le (x : Int) (m : Nat) : cutN x m ≤ m := Nat.min_le_right _ _
section
variable {w : World} {g b : Nat} {room : Int} {s : List Int}
theorem Ring.keep {X : Nat → Prop} {w' : World} (h : Ring w g b room s) (hf : Fr X w w') (hg : ¬ X g) (hb : ¬ X b) : Ring w' g b room s := by
  obtain ⟨at_, many, n, cs, h, ha, hs⟩ := h
  exact ⟨at_, many, n, cs, h.keep hf hg hb, ha, hs⟩
theorem Ring.below {w' : World} (h : Ring w g b room s) (hf : Below w.heap.size w w') : Ring w' g b room s :=
  h.keep (X := fun _ => False) (Fr.of_below hf) (fun h => h) (fun h => h)
theorem Ring.lt (h : Ring w g b room s) : g < w.heap.size ∧ b < w.heap.size ∧ g ≠ b := by
  obtain ⟨at_, many, n, cs, h, ha, hs⟩ := h
  exact ⟨h.lg, h.lb, h.ne⟩
theorem Ring.len_calls (h : Ring w g b room s) : Calls Try.prog 16 #[.pointer (some ⟨g, 0, none⟩)] w fun e w' => e = .returned (.int .i64 (s.length : Int)) ∧ w = w' := by
  obtain ⟨at_, many, n, cs, h, ha, hs⟩ := h
  have hl := content_len (at_ := at_) h.len (by omega) h.hm
  rw [hs, hl]
  exact Hand.len_calls h
theorem Ring.room_calls (h : Ring w g b room s) : Calls Try.prog 23 #[.pointer (some ⟨g, 0, none⟩)] w fun e w' => e = .returned (.int .i64 room) ∧ w = w' := by
  obtain ⟨at_, many, n, cs, h, ha, hs⟩ := h
  exact Hand.room_calls h
/-- What is free. -/
def freeOf (room : Int) (s : List Int) : Int := if room - (s.length : Int) < 0 then 0 else room - (s.length : Int)
theorem Ring.free_calls (h : Ring w g b room s) (h0 : 0 ≤ room) (h1 : room ≤ 1000000) : Calls Try.prog 19 #[.pointer (some ⟨g, 0, none⟩)] w fun e w' => e = .returned (.int .i64 (freeOf room s)) ∧ Drawn0 w w' := by
  obtain ⟨at_, many, n, cs, h, ha, hs⟩ := h
  have hl := content_len (at_ := at_) h.len (by omega) h.hm
  exact Hand.free_calls h h0 h1 (freeOf room s) (by unfold freeOf; rw [hs, hl])
theorem Ring.drop_calls (h : Ring w g b room s) (x : Int) : Calls Try.prog 18 #[.pointer (some ⟨g, 0, none⟩), .int .i64 x] w fun e w' => e = .returned (.int .i64 (cutN x s.length)) ∧ Ring w' g b room (s.drop (cutN x s.length)) ∧ Fr (fun i => i = g) w w' := by
  obtain ⟨at_, many, n, cs, h, ha, hs⟩ := h
  have hl := content_len (at_ := at_) h.len (by omega) h.hm
  have hm := h.hm
  have hle := cutN_le x many
  have hd := content_drop h.len ha h.hm hle
  rw [hs, hl]
  by_cases hlt : at_ + cutN x many < n
  · rw [if_pos hlt] at hd
    refine (Hand.drop_low h x _ (cutN_cases x many) hlt).mono fun e w' ⟨he, hr, hf⟩ => ⟨he, ⟨_, _, _, _, hr, .inl hlt, hd.symm⟩, hf⟩
  · rw [if_neg hlt] at hd
    refine (Hand.drop_high h (by omega) x _ (cutN_cases x many) (by omega)).mono fun e w' ⟨he, hr, hf⟩ => ⟨he, ⟨_, _, _, _, hr, by omega, hd.symm⟩, hf⟩
theorem Ring.peek_calls (h : Ring w g b room s) (x : Int) : Calls Try.prog 17 #[.pointer (some ⟨g, 0, none⟩), .int .i64 x] w fun e w' => e = .returned (.slice (some ⟨w.heap.size, 0, none⟩) (cutN x s.length) (cutN x s.length)) ∧ w'.heap[w.heap.size]? = some (.cells (bytesV (s.take (cutN x s.length))).toArray 5 (0, 0)) ∧ Below w.heap.size w w' := by
  obtain ⟨at_, many, n, cs, h, ha, hs⟩ := h
  have hl := content_len (at_ := at_) h.len (by omega) h.hm
  rw [hs, hl, ← content_take (cutN_le x many)]
  exact Hand.peek_calls h (by omega) x _ (cutN_cases x many)
set_option maxHeartbeats 1000000 in
theorem Ring.read_calls (h : Ring w g b room s) (x : Int) (hs : s.length ≤ 2199023255552) : Calls Try.prog 15 #[.pointer (some ⟨g, 0, none⟩), .int .i64 x] w fun e w' => e = .returned (.slice (some ⟨w.heap.size, 0, none⟩) (cutN x s.length) (cutN x s.length)) ∧ w'.heap[w.heap.size]? = some (.cells (bytesV (s.take (cutN x s.length))).toArray 5 (0, 0)) ∧ Ring w' g b room (s.drop (cutN x s.length)) ∧ Fr (fun i => i = g) w w' := by
  have hle := cutN_le x s.length
  have HP := Lib.hid (Ring.peek_calls h x)
  have H := Lib.hid h
  have hlt := h.lt
  obtain ⟨d, hd⟩ : ∃ d, d = cutN x s.length := ⟨_, rfl⟩
  have hdd : cutN (d : Int) s.length = d := by unfold cutN; omega
  rw [← hd] at HP hle ⊢
  have HDD := Lib.hid hdd
  clear h hd hdd
  go_enter Try.func15, Try.ntmps15
  go_wp2_with (first
    | (go_at_call 17; refine HP.out.mono ?_; rintro e w1 ⟨rfl, hq, hb⟩; have HQ := Lib.hid hq; have HB := Lib.hid hb; have HR := Lib.hid (Ring.below H.out hb); clear hq hb)
    | (go_at_call 18; refine (Ring.drop_calls HR.out (d : Int)).mono ?_; rintro e w2 ⟨rfl, hr, hf⟩; have HR2 := Lib.hid hr; have HF := Lib.hid hf; clear hr hf))
  go_ret
  have hr := HR2.out
  have hf := HF.out
  have hb := HB.out
  rw [HDD.out] at hr
  refine ⟨rfl, ?_, hr, ?_⟩
  · rw [hf.block _ (by have := blk_lt HQ.out; exact this) (by omega)]
    exact HQ.out
  · exact Fr.trans (Fr.of_below (X := fun i => i = g) hb) hf (fun i h => h) (fun i _ h => h)
end
end Go.Proofs.Ytbplfoanhfmheaa.Hand
