/- Rings as texts: what the calls on a ring do with texts. -/
import Derived.Test.YtbplfoanhfmheaaRing9
namespace Go.Proofs.Ytbplfoanhfmheaa.Hand
open Go.RowKit Go.Proofs.YtbplfoanhfmheaaW.PrintWords Go.Proofs.YtbplfoanhfmheaaW.PrintLast Go.Proofs.YtbplfoanhfmheaaW.PrintMore
set_option linter.unusedVariables false
set_option linter.unusedSimpArgs false
/-- The bytes of a text. -/
abbrev bs (t : ByteArray) : List Int := Go.Proofs.YtbplfoanhfmheaaW.PrintWords.bytesOf t
theorem bs_len (t : ByteArray) : (bs t).length = t.size := bytesOf_length t
theorem bs_append (s t : ByteArray) : bs (s ++ t) = bs s ++ bs t := by
  simp [bs, Go.Proofs.YtbplfoanhfmheaaW.PrintWords.bytesOf]
theorem bs_take (t : ByteArray) (n : Nat) : (bs t).take n = bs (t.extract 0 n) := by
  simp [bs, Go.Proofs.YtbplfoanhfmheaaW.PrintWords.bytesOf, List.map_take]
theorem bs_drop (t : ByteArray) (n : Nat) : (bs t).drop n = bs (t.extract n t.size) := by
  simp only [bs, Go.Proofs.YtbplfoanhfmheaaW.PrintWords.bytesOf, ByteArray.data_extract, Array.toList_extract, List.extract_eq_take_drop, ← List.map_drop]
  congr 1
  rw [List.take_of_length_le]
  rw [List.length_drop, Array.length_toList]
  show t.data.size - n ≤ t.data.size - n
  omega
/-- A ring's bytes are a text's. -/
def Txt (w : World) (g b : Nat) (room : Int) (t : ByteArray) : Prop := Ring w g b room (bs t)
/-- A row of a text's bytes. -/
def Row (w : World) (q : Nat) (t : ByteArray) : Prop := w.heap[q]? = some (.cells (bytesV (bs t)).toArray 5 (0, 0))
theorem Row.conv {w : World} {q n c : Nat} {t : ByteArray} (h : Row w q t) (hn : t.size = n) (hl : t.size ≤ 9223372036854775807) : (convert 32 9 (.slice (some ⟨q, 0, none⟩) n c)).run Try.prog w = .ok (.string t) w := by
  have := str_block (c := c) h (by rw [bs_len]; exact hl)
  rw [bs_len, hn, strOf_bytesOf] at this
  exact this
theorem Row.below {w w' : World} {q B : Nat} {t : ByteArray} (h : Row w q t) (hb : Below B w w') (hq : q < B) : Row w' q t := (hb.block q hq).trans h
theorem Row.keep {X : Nat → Prop} {w w' : World} {q : Nat} {t : ByteArray} (h : Row w q t) (hf : Fr X w w') (hx : ¬ X q) : Row w' q t := (hf.block q (blk_lt h) hx).trans h
theorem Row.lt {w : World} {q : Nat} {t : ByteArray} (h : Row w q t) : q < w.heap.size := blk_lt h
/-- A string that becomes bytes: a row of its own, apart from all that was there. -/
theorem bytes_arg {X : Nat → Prop} (w : World) (s : ByteArray) (hs : s.size ≤ 1099511627776) (hx : ¬ X w.heap.size) : ArgAt X (Lib.bytesWorld w 5 s) (some ⟨w.heap.size, 0, none⟩) (bs s) ∧ Below w.heap.size w (Lib.bytesWorld w 5 s) := by
  have hl := bs_len s
  have hC : (Kd.int .u8).C (Lib.bytesWorld w 5 s) (some ⟨w.heap.size, 0, none⟩) (bs s).length (bs s) := by
    rw [hl]
    exact Kd.C_of_reads (d := (0 : Int)) (h1 := fun _ => rfl) (bytes_reads w 5 s (by omega))
  exact ⟨ArgAt.of_C hC (by omega) (fun ad e i => by cases e; rw [add_plain]; exact hx), bytes_below (Below.refl _ _) (Nat.le_refl _) 5 s⟩
section
variable {w : World} {g b : Nat} {room : Int} {s : ByteArray}
theorem Txt.lt (h : Txt w g b room s) : g < w.heap.size ∧ b < w.heap.size ∧ g ≠ b := Ring.lt h
theorem Txt.keep {X : Nat → Prop} {w' : World} (h : Txt w g b room s) (hf : Fr X w w') (hg : ¬ X g) (hb : ¬ X b) : Txt w' g b room s := Ring.keep h hf hg hb
theorem Txt.below {w' : World} (h : Txt w g b room s) (hf : Below w.heap.size w w') : Txt w' g b room s := Ring.below h hf
/-- How many more a ring of so many may have. -/
def freeT (room : Int) (n : Nat) : Nat := (max (room - n) 0).toNat
def wrT (room : Int) (s t : ByteArray) : Nat := min t.size (freeT room s.size)
theorem wrN_bs (room : Int) (s t : ByteArray) : wrN room (bs s) (bs t) = wrT room s t := by
  unfold wrN wrT freeOf freeT
  rw [bs_len, bs_len]
  omega
theorem Txt.force (h : Txt w g b room s) (t : ByteArray) (c : Nat) (hk : s.size + t.size ≤ 1099511627776) :
    Calls Try.prog 14 #[.pointer (some ⟨g, 0, none⟩), .slice (some ⟨w.heap.size, 0, none⟩) t.size c] (Lib.bytesWorld w 5 t) fun e w' => e = .returned (.tuple #[]) ∧ ∃ b', Txt w' g b' room (s ++ t) ∧ (b' = b ∨ w.heap.size ≤ b') ∧ Fr (fun i => i = g ∨ i = b) w w' := by
  have hlt := h.lt
  obtain ⟨ha, hb⟩ := bytes_arg (X := fun i => i = g ∨ i = b) w t (by omega) (by omega)
  have hf := force_calls (Ring.below h hb) (some ⟨w.heap.size, 0, none⟩) c (bs t) ha (by rw [bs_len, bs_len]; exact hk)
  rw [bs_len] at hf
  refine hf.mono ?_
  rintro e w' ⟨rfl, b', hr, hb', hf'⟩
  refine ⟨rfl, b', ?_, ?_, Fr.trans (Fr.of_below hb) hf' (fun i h => h) (fun i _ h => h)⟩
  · show Ring w' g b' room (bs (s ++ t))
    rw [bs_append]
    exact hr
  · have := hb.size
    omega
theorem Txt.write (h : Txt w g b room s) (h0 : 0 ≤ room) (h1 : room ≤ 1000000) (t : ByteArray) (c : Nat) (hc : t.size ≤ c) (hk : s.size + t.size ≤ 1099511627776) :
    Calls Try.prog 13 #[.pointer (some ⟨g, 0, none⟩), .slice (some ⟨w.heap.size, 0, none⟩) t.size c] (Lib.bytesWorld w 5 t) fun e w' => e = .returned (.int .i64 (wrT room s t)) ∧ ∃ b', Txt w' g b' room (s ++ t.extract 0 (wrT room s t)) ∧ (b' = b ∨ w.heap.size ≤ b') ∧ Fr (fun i => i = g ∨ i = b) w w' := by
  have hlt := h.lt
  obtain ⟨ha, hb⟩ := bytes_arg (X := fun i => i = g ∨ i = b) w t (by omega) (by omega)
  have hf := write_calls (Ring.below h hb) h0 h1 (some ⟨w.heap.size, 0, none⟩) c (bs t) (by rw [bs_len]; exact hc) ha (by rw [bs_len, bs_len]; exact hk)
  rw [bs_len, wrN_bs] at hf
  refine hf.mono ?_
  rintro e w' ⟨rfl, b', hr, hb', hf'⟩
  refine ⟨rfl, b', ?_, ?_, Fr.trans (Fr.of_below hb) hf' (fun i h => h) (fun i _ h => h)⟩
  · show Ring w' g b' room (bs (s ++ t.extract 0 (wrT room s t)))
    rw [bs_append, ← bs_take]
    exact hr
  · have := hb.size
    omega
theorem Txt.len (h : Txt w g b room s) : Calls Try.prog 16 #[.pointer (some ⟨g, 0, none⟩)] w fun e w' => e = .returned (.int .i64 (s.size : Int)) ∧ w = w' := by
  have := Ring.len_calls h
  rw [bs_len] at this
  exact this
theorem Txt.room_ (h : Txt w g b room s) : Calls Try.prog 23 #[.pointer (some ⟨g, 0, none⟩)] w fun e w' => e = .returned (.int .i64 room) ∧ w = w' := Ring.room_calls h
theorem Txt.free (h : Txt w g b room s) (h0 : 0 ≤ room) (h1 : room ≤ 1000000) : Calls Try.prog 19 #[.pointer (some ⟨g, 0, none⟩)] w fun e w' => e = .returned (.int .i64 (freeT room s.size)) ∧ Drawn0 w w' := by
  have := Ring.free_calls h h0 h1
  have e : freeOf room (bs s) = (freeT room s.size : Int) := by unfold freeOf freeT; rw [bs_len]; omega
  rw [e] at this
  exact this
theorem Txt.drop (h : Txt w g b room s) (x : Int) : Calls Try.prog 18 #[.pointer (some ⟨g, 0, none⟩), .int .i64 x] w fun e w' => e = .returned (.int .i64 (cutN x s.size)) ∧ Txt w' g b room (s.extract (cutN x s.size) s.size) ∧ Fr (fun i => i = g) w w' := by
  have := Ring.drop_calls h x
  rw [bs_len, bs_drop] at this
  exact this
theorem Txt.peek (h : Txt w g b room s) (x : Int) : Calls Try.prog 17 #[.pointer (some ⟨g, 0, none⟩), .int .i64 x] w fun e w' => e = .returned (.slice (some ⟨w.heap.size, 0, none⟩) (cutN x s.size) (cutN x s.size)) ∧ Row w' w.heap.size (s.extract 0 (cutN x s.size)) ∧ Below w.heap.size w w' := by
  have := Ring.peek_calls h x
  rw [bs_len, bs_take] at this
  exact this
theorem Txt.read (h : Txt w g b room s) (x : Int) (hs : s.size ≤ 2199023255552) : Calls Try.prog 15 #[.pointer (some ⟨g, 0, none⟩), .int .i64 x] w fun e w' => e = .returned (.slice (some ⟨w.heap.size, 0, none⟩) (cutN x s.size) (cutN x s.size)) ∧ Row w' w.heap.size (s.extract 0 (cutN x s.size)) ∧ Txt w' g b room (s.extract (cutN x s.size) s.size) ∧ Fr (fun i => i = g) w w' := by
  have := Ring.read_calls h x (by rw [bs_len]; exact hs)
  rw [bs_len, bs_take, bs_drop] at this
  exact this
theorem Txt.clear (h : Txt w g b room s) : Calls Try.prog 26 #[.pointer (some ⟨g, 0, none⟩)] w fun e w' => e = .returned (.int .i64 (s.size : Int)) ∧ Txt w' g b room ⟨#[]⟩ ∧ Fr (fun i => i = g ∨ i = b) w w' := by
  have := clear_calls h
  rw [bs_len] at this
  exact this
end
theorem Txt.new {w : World} {g b : Nat} {room : Int} (h : Ring w g b room []) : Txt w g b room ⟨#[]⟩ := h
theorem cut_size (x : Int) (s : ByteArray) : (s.extract 0 (cutN x s.size)).size = cutN x s.size := by
  have := cutN_le x s.size
  simp
  omega
theorem bs_inj {s t : ByteArray} (h : bs s = bs t) : s = t := by
  rw [← strOf_bytesOf s, ← strOf_bytesOf t]
  exact congrArg strOfNums h
theorem ba_nil (s : ByteArray) : (⟨#[]⟩ : ByteArray) ++ s = s := bs_inj (by rw [bs_append]; rfl)
theorem ba_len0 : (⟨#[]⟩ : ByteArray).size = 0 := rfl
theorem ba_all (s : ByteArray) (n : Nat) (h : s.size ≤ n) : s.extract 0 n = s := bs_inj (by rw [← bs_take, List.take_of_length_le (by rw [bs_len]; exact h)])
theorem ba_self (s : ByteArray) : s.extract 0 s.size = s := ba_all s _ (Nat.le_refl _)
theorem ba_drop (s t : ByteArray) (n m : Nat) (hn : s.size = n) (hm : n + t.size = m) : (s ++ t).extract n m = t := by
  have e : m = (s ++ t).size := by rw [ByteArray.size_append]; omega
  rw [e]
  exact bs_inj (by rw [← bs_drop, bs_append, List.drop_left' (by rw [bs_len]; exact hn)])
theorem ba_tsize (s : ByteArray) (n : Nat) (h : n ≤ s.size) : (s.extract 0 n).size = n := by
  rw [ByteArray.size_extract]; omega
theorem max2_mx (k k' : IntKind) (x y : Int) : Builtin.max2 (.int k x) (.int k' y) = pure (.int k (max x y)) := by
  rw [max2_int]
  congr 2
  omega
theorem min2_mn (k k' : IntKind) (x y : Int) : Builtin.min2 (.int k x) (.int k' y) = pure (.int k (min x y)) := by
  rw [min2_int]
  congr 2
  omega
end Go.Proofs.Ytbplfoanhfmheaa.Hand
