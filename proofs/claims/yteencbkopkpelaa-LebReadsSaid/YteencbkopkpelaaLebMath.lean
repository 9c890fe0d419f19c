/- Numbers as bytes, seven bits each: what Put writes, what Get reads, in plain lists. -/
import Derived.Test.YteencbkopkpelaaPLebReadsx1
import Derived.Test.YteencbkopkpelaaPLebReadsx2
import Derived.Laws.BitsLemmas
import Derived.Laws.BytesArg
import Derived.Laws.Strings
namespace Go.Proofs.Yteencbkopkpelaa.Hand
open Go Go.RowKit Go.Proofs.YteencbkopkpelaaW.PrintWords Go.Proofs.YteencbkopkpelaaW.PrintLast Go.Proofs.YteencbkopkpelaaW.PrintMore Go.Proofs.Yteencbkopkpelaa.PLebReads
set_option linter.unusedVariables false
theorem pow_le {i j : Nat} (h : i ≤ j) : (128 : Int) ^ i ≤ 128 ^ j := by
  have := Nat.pow_le_pow_right (n := 128) (by decide) h
  exact_mod_cast this
/-- All are bytes. -/
def Bytes (l : List Int) : Prop := ∀ c ∈ l, 0 ≤ c ∧ c < 256
def numL : Nat → Int → List Int
  | 0, n => [n]
  | k + 1, n => if n < 128 then [n] else (n % 128 + 128) :: numL k (n / 128)
/-- A number's bytes; none of one below 0. -/
def num (n : Int) : List Int := if n < 0 then [] else numL 8 n
def scan : Nat → List Int → Int → Int → Nat → Option (Int × Nat)
  | 0, _, _, _, _ => none
  | _ + 1, [], _, _, _ => none
  | k + 1, c :: t, acc, p, i => if c < 128 then some (acc + c % 128 * p, i + 1) else scan k t (acc + c % 128 * p) (p * 128) (i + 1)
/-- The number with which bytes begin, and how many bytes it has; (0, 0): there is none. -/
def getP (l : List Int) : Int × Nat :=
  match scan 9 l 0 1 0 with
  | none => (0, 0)
  | some (n, k) => if num n = l.take k then (n, k) else (0, 0)
theorem wrap_of {n : Int} (h0 : -9223372036854775808 ≤ n) (h1 : n < 9223372036854775808) : wrap64 n = n := by
  unfold wrap64
  omega
theorem numL_len : ∀ (k : Nat) (n : Int), 1 ≤ (numL k n).length ∧ (numL k n).length ≤ k + 1
  | 0, n => by simp [numL]
  | k + 1, n => by
    have := numL_len k (n / 128)
    unfold numL
    split <;> simp <;> omega
theorem num_len (n : Int) : (num n).length ≤ 9 := by
  unfold num
  split
  · simp
  · exact (numL_len 8 n).2
theorem numL_bytes : ∀ (k : Nat) (n : Int), 0 ≤ n → n < 128 ^ (k + 1) → Bytes (numL k n)
  | 0, n, h0, h1 => by
    intro c hc
    simp [numL] at hc h1
    omega
  | k + 1, n, h0, h1 => by
    unfold numL
    have hp : (128 : Int) ^ (k + 1 + 1) = 128 ^ (k + 1) * 128 := Int.pow_succ ..
    split
    · intro c hc
      simp at hc
      omega
    · intro c hc
      rcases List.mem_cons.1 hc with rfl | hc
      · omega
      · exact numL_bytes k (n / 128) (by omega) (by rw [hp] at h1; omega) c hc
theorem put_l0 : ∀ (j k : Nat) (x : List Int) (n : Int), 0 ≤ n → n < 128 ^ (j + 1) → j ≤ 8 → j < k → x.length + j < 140737488355328 → leb_Put.l0 k x n = some (x ++ numL j n)
  | 0, k, x, n, h0, h1, hj, hk, hx => by
    obtain ⟨k, rfl⟩ : ∃ m, k = m + 1 := ⟨k - 1, by omega⟩
    have h1' : n < 128 := h1
    rw [leb_Put.l0, if_neg (by omega), if_pos (by omega), show n % 256 = n by omega]
    rfl
  | j + 1, k, x, n, h0, h1, hj, hk, hx => by
    obtain ⟨k, rfl⟩ : ∃ m, k = m + 1 := ⟨k - 1, by omega⟩
    have hp : (128 : Int) ^ (j + 1 + 1) = 128 ^ (j + 1) * 128 := Int.pow_succ ..
    have hb : (128 : Int) ^ (j + 1 + 1) ≤ 128 ^ 9 := pow_le (by omega)
    have hb' : (128 : Int) ^ 9 = 9223372036854775808 := by decide
    rw [leb_Put.l0]
    unfold numL
    by_cases hn : n < 128
    · rw [if_neg (by omega), if_pos (by omega), if_pos hn, show n % 256 = n by omega]
    · rw [if_pos (by omega), if_pos (by omega), if_neg hn, Int.tmod_eq_emod_of_nonneg h0, Int.tdiv_eq_ediv_of_nonneg h0, wrap_of (n := n % 128 + 128) (by omega) (by omega), wrap_of (n := n / 128) (by omega) (by omega), show (n % 128 + 128) % 256 = n % 128 + 128 by omega]
      rw [put_l0 j k _ (n / 128) (by omega) (by rw [hp] at h1; omega) (by omega) (by omega) (by rw [List.length_append]; simp; omega), List.append_assoc]
      rfl
/-- What Put writes. -/
theorem put_is (x : List Int) (n : Int) (hn : n < 9223372036854775808) (hx : x.length ≤ 140737488355000) : leb_Put.f 20 x n = some (x ++ num n) := by
  unfold leb_Put.f num
  by_cases h : n < 0
  · rw [if_pos h, if_pos h, List.append_nil]
  · rw [if_neg h, if_neg h]
    exact put_l0 8 20 x n (by omega) hn (by omega) (by omega) (by omega)
theorem put_more {k : Nat} {x : List Int} {n : Int} {r : List Int} (h : leb_Put.f k x n = some r) : ∀ d, leb_Put.f (k + d) x n = some r
  | 0 => h
  | d + 1 => leb_Put.mono x n (k + d) r (put_more h d)
theorem or_join (i : Nat) (x y : Int) (hx0 : 0 ≤ x) (hx : x < 2 ^ i) (hy0 : 0 ≤ y) (hy : y % 2 ^ i = 0) (hx1 : x < 9223372036854775808) (hy1 : y < 9223372036854775808) : Go.bits .or .i64 x y = x + y := by
  have hw : ∀ n : Int, 0 ≤ n → n < 2 ^ 63 → IntKind.i64.wrap n = n := fun n h0 h1 => by rw [IntKind.wrap_i64]; omega
  have h := bits_join .i64 63 (by decide) hw i y x hy0 hy hy1 hx0 hx hx1
  obtain ⟨a, rfl⟩ := Int.eq_ofNat_of_zero_le hx0
  obtain ⟨b, rfl⟩ := Int.eq_ofNat_of_zero_le hy0
  have ha : a < 2 ^ 63 := by omega
  have hb : b < 2 ^ 63 := by omega
  rw [(bits_nat .i64 63 (by decide) hw a b ha hb).2]
  rw [(bits_nat .i64 63 (by decide) hw b a hb ha).2] at h
  rw [Nat.or_comm, h]
  omega
theorem pow7 (i : Nat) : (2 : Int) ^ (7 * i) = 128 ^ i := by rw [Int.pow_mul]; rfl
theorem shl7 (i : Nat) (v : Int) (hi : i ≤ 8) (h0 : 0 ≤ v) (h1 : v < 128) : shl .i64 v (wrap64 (7 * (i : Int))) = v * 128 ^ i := by
  have hb : (128 : Int) ^ i ≤ 128 ^ 8 := pow_le hi
  have hp : (0 : Int) < 128 ^ i := Int.pow_pos (by decide)
  have hb' : (128 : Int) ^ 8 = 72057594037927936 := by decide
  rw [wrap_of (by omega) (by omega)]
  unfold shl
  have e : min (7 * (i : Int)).toNat IntKind.i64.bits = 7 * i := by
    have : IntKind.i64.bits = 64 := by decide
    rw [this]
    omega
  rw [e, pow7, i64_w]
  have h2 : v * 128 ^ i ≤ 127 * 128 ^ i := Int.mul_le_mul_of_nonneg_right (by omega) (by omega)
  have h3 : 0 ≤ v * 128 ^ i := Int.mul_nonneg h0 (by omega)
  exact wrap_of (by omega) (by omega)
theorem scan_facts : ∀ (k : Nat) (l : List Int) (acc p : Int) (i : Nat) (n : Int) (j : Nat), 0 ≤ acc → acc < p → 0 ≤ p → scan k l acc p i = some (n, j) → i < j ∧ j ≤ i + k ∧ j ≤ i + l.length ∧ 0 ≤ n ∧ n < p * 128 ^ k
  | 0, l, acc, p, i, n, j, h0, h1, hp, h => by simp [scan] at h
  | k + 1, [], acc, p, i, n, j, h0, h1, hp, h => by simp [scan] at h
  | k + 1, c :: t, acc, p, i, n, j, h0, h1, hp, h => by
    have hc0 : 0 ≤ c % 128 := by omega
    have hc1 : c % 128 ≤ 127 := by omega
    have hm0 : 0 ≤ c % 128 * p := Int.mul_nonneg hc0 hp
    have hm1 : c % 128 * p ≤ 127 * p := Int.mul_le_mul_of_nonneg_right hc1 hp
    have hpk : p * 128 ^ (k + 1) = p * 128 * 128 ^ k := by rw [Int.pow_succ, Int.mul_comm (128 ^ k) 128, Int.mul_assoc]
    unfold scan at h
    split at h
    · simp only [Option.some.injEq, Prod.mk.injEq] at h
      obtain ⟨rfl, rfl⟩ := h
      have h1k : (1 : Int) ≤ 128 ^ k := by have := pow_le (Nat.zero_le k); simpa using this
      have h2 : p * 128 * 1 ≤ p * 128 * 128 ^ k := Int.mul_le_mul_of_nonneg_left h1k (by omega)
      refine ⟨by omega, by omega, by simp, by omega, ?_⟩
      rw [hpk]
      omega
    · obtain ⟨h2, h3, h4, h5, h6⟩ := scan_facts k t _ _ _ n j (by omega) (by omega) (by omega) h
      refine ⟨by omega, by omega, by simp; omega, h5, ?_⟩
      rw [hpk]
      exact h6
/-- What is known of a number that was read. -/
theorem getP_facts {l : List Int} {n : Int} {k : Nat} (h : getP l = (n, k)) : k ≤ l.length ∧ k ≤ 9 ∧ 0 ≤ n ∧ n < 9223372036854775808 ∧ (k ≠ 0 → num n = l.take k) ∧ (k = 0 → n = 0) := by
  unfold getP at h
  split at h
  · simp only [Prod.mk.injEq] at h
    obtain ⟨rfl, rfl⟩ := h
    refine ⟨by omega, by omega, by omega, by omega, fun h => absurd rfl h, fun _ => rfl⟩
  · rename_i m j hs
    obtain ⟨h2, h3, h4, h5, h6⟩ := scan_facts _ _ _ _ _ _ _ (by omega) (by omega) (by omega) hs
    have hb' : (128 : Int) ^ 9 = 9223372036854775808 := by decide
    split at h
    · simp only [Prod.mk.injEq] at h
      obtain ⟨rfl, rfl⟩ := h
      refine ⟨by omega, by omega, by omega, by omega, fun _ => by assumption, fun h => by omega⟩
    · simp only [Prod.mk.injEq] at h
      obtain ⟨rfl, rfl⟩ := h
      refine ⟨by omega, by omega, by omega, by omega, fun h => absurd rfl h, fun _ => rfl⟩
theorem scan_numL : ∀ (j : Nat) (n : Int) (t : List Int) (acc p : Int) (i : Nat), 0 ≤ n → n < 128 ^ (j + 1) → scan (j + 1) (numL j n ++ t) acc p i = some (acc + n * p, i + (numL j n).length)
  | 0, n, t, acc, p, i, h0, h1 => by
    have h1' : n < 128 := h1
    show scan 1 (n :: t) acc p i = _
    rw [scan, if_pos h1', show n % 128 = n by omega]
    rfl
  | j + 1, n, t, acc, p, i, h0, h1 => by
    have hp : (128 : Int) ^ (j + 1 + 1) = 128 ^ (j + 1) * 128 := Int.pow_succ ..
    unfold numL
    by_cases hn : n < 128
    · rw [if_pos hn]
      show scan (j + 1 + 1) (n :: t) acc p i = _
      rw [scan, if_pos hn, show n % 128 = n by omega]
      rfl
    · rw [if_neg hn]
      show scan (j + 1 + 1) ((n % 128 + 128) :: (numL j (n / 128) ++ t)) acc p i = _
      rw [scan, if_neg (by omega), scan_numL j (n / 128) t _ _ _ (by omega) (by rw [hp] at h1; omega)]
      congr 2
      · have e1 : (n % 128 + 128) % 128 = n % 128 := by omega
        have e2 : n = n % 128 + 128 * (n / 128) := by omega
        rw [e1]
        have e3 : n * p = n % 128 * p + n / 128 * (p * 128) := by
          have e4 : n / 128 * (p * 128) = 128 * (n / 128) * p := by rw [Int.mul_comm p 128, ← Int.mul_assoc, Int.mul_comm (n / 128) 128]
          rw [e4, ← Int.add_mul, ← e2]
        omega
      · simp only [List.length_cons]
        omega
/-- What was written is read, whatever stands behind. -/
theorem getP_num (n : Int) (t : List Int) (h0 : 0 ≤ n) (h1 : n < 9223372036854775808) : getP (num n ++ t) = (n, (num n).length) := by
  have hb' : (128 : Int) ^ 9 = 9223372036854775808 := by decide
  have e : num n = numL 8 n := if_neg (by omega)
  unfold getP
  rw [e, scan_numL 8 n t 0 1 0 h0 (by rw [hb']; exact h1)]
  simp only [Int.zero_add, Int.mul_one, Nat.zero_add]
  rw [List.take_left' rfl, if_pos e]
theorem str_data (a : List Int) : (strOfNums a).toList = a.map fun n => UInt8.ofNat n.toNat := by
  rw [ByteArray.toList_eq]
  rfl
theorem map_inj : ∀ {a b : List Int}, Bytes a → Bytes b → (a.map fun n => UInt8.ofNat n.toNat) = (b.map fun n => UInt8.ofNat n.toNat) → a = b
  | [], [], _, _, _ => rfl
  | [], _ :: _, _, _, h => by simp at h
  | _ :: _, [], _, _, h => by simp at h
  | x :: a, y :: b, ha, hb, h => by
    simp only [List.map_cons, List.cons.injEq] at h
    have hx := ha x (List.mem_cons_self ..)
    have hy := hb y (List.mem_cons_self ..)
    have e : x = y := by
      have := congrArg UInt8.toNat h.1
      simp only [UInt8.toNat_ofNat'] at this
      omega
    rw [e, map_inj (fun c hc => ha c (List.mem_cons_of_mem _ hc)) (fun c hc => hb c (List.mem_cons_of_mem _ hc)) h.2]
theorem nums_eq {a b : List Int} (ha : Bytes a) (hb : Bytes b) : ((strOfNums a).toList == (strOfNums b).toList) = decide (a = b) := by
  rw [str_data, str_data]
  by_cases h : a = b
  · subst h; simp
  · rw [decide_eq_false h]
    exact beq_eq_false_iff_ne.mpr (fun e => h (map_inj ha hb e))
theorem equal_is {a b : List Int} (ha : Bytes a) (hb : Bytes b) : bytes_Equal.f a b = some (decide (a = b)) := by
  unfold bytes_Equal.f
  rw [nums_eq ha hb]
theorem Bytes.take {l : List Int} (h : Bytes l) (k : Nat) : Bytes (l.take k) := fun c hc => h c (List.mem_of_mem_take hc)
theorem Bytes.drop {l : List Int} (h : Bytes l) (k : Nat) : Bytes (l.drop k) := fun c hc => h c (List.mem_of_mem_drop hc)
theorem num_bytes (n : Int) (h1 : n < 9223372036854775808) : Bytes (num n) := by
  have hb' : (128 : Int) ^ 9 = 9223372036854775808 := by decide
  unfold num
  split
  · intro c hc; cases hc
  · exact numL_bytes 8 n (by omega) (by rw [hb']; exact h1)
/-- What a number that was found tells: whether it is written so. -/
def outc (l : List Int) : Option (Int × Nat) → Int × Int
  | none => (0, 0)
  | some (n, k) => if num n = l.take k then (n, (k : Int)) else (0, 0)
theorem outc_getP (l : List Int) : outc l (scan 9 l 0 1 0) = ((getP l).1, ((getP l).2 : Int)) := by
  unfold getP outc
  split
  · rfl
  · split <;> rfl
theorem get_l0 (l : List Int) (hb : Bytes l) (hl : l.length ≤ 140737488355000) : ∀ (d i k : Nat) (acc : Int), i + d = 9 → 0 ≤ acc → acc < 128 ^ i → 2 * d + 24 ≤ k → leb_Get.l0 k l acc (i : Int) = some (outc l (scan d (l.drop i) acc (128 ^ i) i))
  | 0, i, k, acc, hi, h0, h1, hk => by
    obtain ⟨k, rfl⟩ : ∃ m, k = m + 2 := ⟨k - 2, by omega⟩
    obtain rfl : i = 9 := by omega
    have e : decide (((9 : Nat) : Int) < 9) = false := by decide
    rw [leb_Get.l0, e]
    split <;> rw [leb_Get.j1, if_neg (by decide)] <;> rfl
  | d + 1, i, k, acc, hi, h0, h1, hk => by
    obtain ⟨k, rfl⟩ : ∃ m, k = m + 2 := ⟨k - 2, by omega⟩
    have hpi : (128 : Int) ^ i ≤ 128 ^ 8 := pow_le (by omega)
    have hp8 : (128 : Int) ^ 8 = 72057594037927936 := by decide
    have hpp : (0 : Int) < 128 ^ i := Int.pow_pos (by decide)
    have hps : (128 : Int) ^ (i + 1) = 128 ^ i * 128 := Int.pow_succ ..
    rw [leb_Get.l0]
    by_cases hlt : i < l.length
    · have e9 : decide ((i : Int) < 9) = true := decide_eq_true (by omega)
      have ec : rd l (i : Int) = l[i] := by
        unfold rd
        rw [Int.toNat_natCast, List.getD_eq_getElem?_getD, List.getElem?_eq_getElem hlt]
        rfl
      have hc := hb l[i] (List.getElem_mem hlt)
      have hdr : l.drop i = l[i] :: l.drop (i + 1) := List.drop_eq_getElem_cons hlt
      have w1 : wrap64 (7 * (i : Int)) = 7 * (i : Int) := wrap_of (by omega) (by omega)
      have w2 : wrap64 ((i : Int) + 1) = ((i + 1 : Nat) : Int) := by rw [wrap_of (by omega) (by omega)]; omega
      rw [if_pos (by omega), leb_Get.j1, if_pos e9, if_pos (by omega), if_pos (by omega), ec, hdr]
      generalize l[i] = c at hc ⊢
      have hv : wrap64 (Int.tmod c 128) = c % 128 := by rw [Int.tmod_eq_emod_of_nonneg hc.1]; exact wrap_of (by omega) (by omega)
      rw [hv, shl7 i (c % 128) (by omega) (by omega) (by omega)]
      have hm0 : 0 ≤ c % 128 * 128 ^ i := Int.mul_nonneg (by omega) (by omega)
      have hm1 : c % 128 * 128 ^ i ≤ 127 * 128 ^ i := Int.mul_le_mul_of_nonneg_right (by omega) (by omega)
      have hor : Go.bits .or .i64 acc (c % 128 * 128 ^ i) = acc + c % 128 * 128 ^ i := or_join (7 * i) _ _ h0 (by rw [pow7]; exact h1) hm0 (by rw [pow7]; exact Int.mul_emod_left _ _) (by omega) (by omega)
      rw [hor, w2, if_pos (by omega), scan]
      by_cases hc8 : c < 128
      · rw [if_neg (by omega), if_pos hc8, show k = 20 + (k - 20) by omega, put_more (put_is [] _ (by omega) (by simp)) (k - 20)]
        simp only [Option.bind_some, List.nil_append]
        rw [if_pos (by omega), if_pos (by omega), Int.toNat_natCast, equal_is (num_bytes _ (by omega)) (hb.take _)]
        simp only [Option.bind_some, outc]
        split <;> rename_i hd
        · rw [if_pos (of_decide_eq_true hd)]
        · rw [if_neg (fun e => hd (decide_eq_true e))]
      · rw [if_pos (by omega), if_neg hc8, get_l0 l hb hl d (i + 1) k _ (by omega) (by omega) (by rw [hps]; omega) (by omega), hps]
    · rw [if_neg (by omega), leb_Get.j1, if_neg (by decide), List.drop_eq_nil_of_le (by omega)]
      rfl
/-- What Get reads. -/
theorem get_is (l : List Int) (hb : Bytes l) (hl : l.length ≤ 140737488355000) : leb_Get.f 50 l = some ((getP l).1, ((getP l).2 : Int)) := by
  unfold leb_Get.f
  have h := get_l0 l hb hl 9 0 50 0 (by omega) (by omega) (by decide) (by omega)
  rw [List.drop_zero] at h
  exact h.trans (congrArg some (outc_getP l))
abbrev bs (t : ByteArray) : List Int := Go.Proofs.YteencbkopkpelaaW.PrintWords.bytesOf t
theorem bs_bytes (s : ByteArray) : Bytes (bs s) := by
  intro c hc
  simp only [bs, Go.Proofs.YteencbkopkpelaaW.PrintWords.bytesOf, List.mem_map] at hc
  obtain ⟨b, _, rfl⟩ := hc
  have := b.toNat_lt
  omega
theorem bs_len (s : ByteArray) : (bs s).length = s.size := bytesOf_length s
theorem bs_str {l : List Int} (h : Bytes l) : bs (strOfNums l) = l := by
  simp only [bs, Go.Proofs.YteencbkopkpelaaW.PrintWords.bytesOf, strOfNums_data, List.map_map]
  refine (List.map_congr_left fun c hc => ?_).trans (List.map_id l)
  have := h c hc
  simp only [Function.comp, UInt8.toNat_ofNat', id]
  omega
theorem bs_inj {s t : ByteArray} (h : bs s = bs t) : s = t := by
  have e1 : strOfNums (bs s) = s := by
    simp only [strOfNums, bs, Go.Proofs.YteencbkopkpelaaW.PrintWords.bytesOf, List.map_map]
    have : ((fun n : Int => UInt8.ofNat n.toNat) ∘ fun b : UInt8 => (b.toNat : Int)) = id := by
      funext b
      simp
    rw [this, List.map_id]
  have e2 : strOfNums (bs t) = t := by
    simp only [strOfNums, bs, Go.Proofs.YteencbkopkpelaaW.PrintWords.bytesOf, List.map_map]
    have : ((fun n : Int => UInt8.ofNat n.toNat) ∘ fun b : UInt8 => (b.toNat : Int)) = id := by
      funext b
      simp
    rw [this, List.map_id]
  rw [← e1, h, e2]
theorem str_bs (s : ByteArray) : strOfNums (bs s) = s := bs_inj (bs_str (bs_bytes s))
theorem bs_append (s t : ByteArray) : bs (s ++ t) = bs s ++ bs t := by
  simp [bs, Go.Proofs.YteencbkopkpelaaW.PrintWords.bytesOf, ByteArray.data_append]
theorem bs_take (t : ByteArray) (n : Nat) : (bs t).take n = bs (t.extract 0 n) := by
  simp [bs, Go.Proofs.YteencbkopkpelaaW.PrintWords.bytesOf, ByteArray.data_extract, List.map_take]
theorem bs_drop (t : ByteArray) (n : Nat) : (bs t).drop n = bs (t.extract n t.size) := by
  simp only [bs, Go.Proofs.YteencbkopkpelaaW.PrintWords.bytesOf, ByteArray.data_extract, Array.toList_extract, List.extract_eq_take_drop, ← List.map_drop]
  congr 1
  rw [List.take_of_length_le]
  rw [List.length_drop, Array.length_toList]
  show t.data.size - n ≤ t.data.size - n
  omega
theorem strOf_append (a b : List Int) : strOfNums (a ++ b) = strOfNums a ++ strOfNums b := by
  simp [strOfNums]
  rfl
theorem num_f : ∀ (j k : Nat) (n : Int), 0 ≤ n → n < 128 ^ (j + 1) → j ≤ 8 → j < k → chicaneref04_Num.f k n = some (strOfNums (numL j n))
  | 0, k, n, h0, h1, hj, hk => by
    obtain ⟨k, rfl⟩ : ∃ m, k = m + 1 := ⟨k - 1, by omega⟩
    have h1' : n < 128 := h1
    rw [chicaneref04_Num.f, if_neg (by omega), if_pos h1', show n % 256 = n by omega]
    rfl
  | j + 1, k, n, h0, h1, hj, hk => by
    obtain ⟨k, rfl⟩ : ∃ m, k = m + 1 := ⟨k - 1, by omega⟩
    have hp : (128 : Int) ^ (j + 1 + 1) = 128 ^ (j + 1) * 128 := Int.pow_succ ..
    have hb : (128 : Int) ^ (j + 1 + 1) ≤ 128 ^ 9 := pow_le (by omega)
    have hb' : (128 : Int) ^ 9 = 9223372036854775808 := by decide
    rw [chicaneref04_Num.f, if_neg (by omega)]
    unfold numL
    by_cases hn : n < 128
    · rw [if_pos hn, if_pos hn, show n % 256 = n by omega]
    · rw [if_neg hn, if_neg hn, Int.tmod_eq_emod_of_nonneg h0, Int.tdiv_eq_ediv_of_nonneg h0, wrap_of (n := n % 128 + 128) (by omega) (by omega), wrap_of (n := n / 128) (by omega) (by omega), show (n % 128 + 128) % 256 = n % 128 + 128 by omega]
      rw [num_f j k (n / 128) (by omega) (by rw [hp] at h1; omega) (by omega) (by omega)]
      simp only [Option.bind_some]
      have := (numL_len j (n / 128)).2
      rw [if_pos (by rw [strOfNums_size, strOfNums_size]; simp; omega), ← strOf_append]
      rfl
/-- The document's number. -/
theorem Num_is (n : Int) (h1 : n < 9223372036854775808) : chicaneref04_Num.f 20 n = some (strOfNums (num n)) := by
  have hb' : (128 : Int) ^ 9 = 9223372036854775808 := by decide
  unfold num
  by_cases h : n < 0
  · rw [chicaneref04_Num.f, if_pos h, if_pos h]; rfl
  · rw [if_neg h]
    exact num_f 8 20 n (by omega) (by rw [hb']; exact h1) (by omega) (by omega)
theorem Num_more {k : Nat} {n : Int} {r : ByteArray} (h : chicaneref04_Num.f k n = some r) : ∀ d, chicaneref04_Num.f (k + d) n = some r
  | 0 => h
  | d + 1 => chicaneref04_Num.mono n (k + d) r (Num_more h d)
theorem str_eq {a : List Int} {s : ByteArray} {m : Nat} (ha : Bytes a) : (strOfNums a).toList = (s.extract 0 m).toList ↔ a = (bs s).take m := by
  have e : s.extract 0 m = strOfNums ((bs s).take m) := by rw [bs_take, str_bs]
  rw [e, str_data, str_data]
  exact ⟨fun h => map_inj ha ((bs_bytes s).take m) h, fun h => by rw [h]⟩
theorem bt_bs {s : ByteArray} {i : Nat} (h : i < s.size) : bt s (i : Int) = (bs s)[i]'(by rw [bs_len]; exact h) := by
  unfold bt
  rw [dif_pos (by rw [Int.toNat_natCast]; exact h)]
  simp [bs, Go.Proofs.YteencbkopkpelaaW.PrintWords.bytesOf]
  rfl
theorem refget_l0 (s : ByteArray) (hl : s.size ≤ 140737488355000) : ∀ (d i k : Nat) (acc p : Int), i + d = 9 → 0 ≤ acc → acc < 128 ^ i → (i ≤ 8 → p = 128 ^ i) → 2 * d + 24 ≤ k → chicaneref04_Get.l0 k s acc p (i : Int) = some (outc (bs s) (scan d ((bs s).drop i) acc (128 ^ i) i))
  | 0, i, k, acc, p, hi, h0, h1, hp, hk => by
    obtain ⟨k, rfl⟩ : ∃ m, k = m + 2 := ⟨k - 2, by omega⟩
    obtain rfl : i = 9 := by omega
    have e : decide (((9 : Nat) : Int) < 9) = false := by decide
    rw [chicaneref04_Get.l0, e]
    split <;> rw [chicaneref04_Get.j1, if_neg (by decide)] <;> rfl
  | d + 1, i, k, acc, p, hi, h0, h1, hp, hk => by
    obtain ⟨k, rfl⟩ : ∃ m, k = m + 2 := ⟨k - 2, by omega⟩
    obtain rfl := hp (by omega)
    have hpi : (128 : Int) ^ i ≤ 128 ^ 8 := pow_le (by omega)
    have hp8 : (128 : Int) ^ 8 = 72057594037927936 := by decide
    have hpp : (0 : Int) < 128 ^ i := Int.pow_pos (by decide)
    have hps : (128 : Int) ^ (i + 1) = 128 ^ i * 128 := Int.pow_succ ..
    rw [chicaneref04_Get.l0]
    by_cases hlt : i < s.size
    · have hlt' : i < (bs s).length := by rw [bs_len]; exact hlt
      have e9 : decide ((i : Int) < 9) = true := decide_eq_true (by omega)
      have hc := bs_bytes s (bs s)[i] (List.getElem_mem hlt')
      have hdr : (bs s).drop i = (bs s)[i] :: (bs s).drop (i + 1) := List.drop_eq_getElem_cons hlt'
      have w2 : wrap64 ((i : Int) + 1) = ((i + 1 : Nat) : Int) := by rw [wrap_of (by omega) (by omega)]; omega
      rw [if_pos (by omega), chicaneref04_Get.j1, if_pos e9, if_pos (by omega), if_pos (by omega), bt_bs hlt, hdr]
      generalize (bs s)[i] = c at hc ⊢
      have hv : wrap64 (Int.tmod c 128) = c % 128 := by rw [Int.tmod_eq_emod_of_nonneg hc.1]; exact wrap_of (by omega) (by omega)
      have hm0 : 0 ≤ c % 128 * 128 ^ i := Int.mul_nonneg (by omega) (by omega)
      have hm1 : c % 128 * 128 ^ i ≤ 127 * 128 ^ i := Int.mul_le_mul_of_nonneg_right (by omega) (by omega)
      rw [hv, wrap_of (n := c % 128 * 128 ^ i) (by omega) (by omega), wrap_of (n := acc + c % 128 * 128 ^ i) (by omega) (by omega), w2, scan]
      by_cases hc8 : c < 128
      · rw [if_pos hc8, if_pos hc8, show k = 20 + (k - 20) by omega, Num_more (Num_is _ (by omega)) (k - 20)]
        simp only [Option.bind_some]
        rw [if_pos (by omega), if_pos (by omega), Int.toNat_natCast]
        simp only [outc]
        split <;> rename_i hd
        · rw [if_pos ((str_eq (num_bytes _ (by omega))).1 hd)]
        · rw [if_neg (fun e => hd ((str_eq (num_bytes _ (by omega))).2 e))]
      · rw [if_neg hc8, if_neg hc8]
        rw [refget_l0 s hl d (i + 1) k _ (wrap64 (128 ^ i * 128)) (by omega) (by omega) (by rw [hps]; omega) (fun h => by
          have hpj : (128 : Int) ^ (i + 1) ≤ 128 ^ 8 := pow_le h
          rw [hps] at hpj ⊢
          exact wrap_of (by omega) (by omega)) (by omega), hps]
    · rw [if_neg (by omega), chicaneref04_Get.j1, if_neg (by decide), List.drop_eq_nil_of_le (by rw [bs_len]; omega)]
      rfl
/-- The document reads the same. -/
theorem refGet_is (s : ByteArray) (hl : s.size ≤ 140737488355000) : chicaneref04_Get.f 50 s = some ((getP (bs s)).1, ((getP (bs s)).2 : Int)) := by
  unfold chicaneref04_Get.f
  have h := refget_l0 s hl 9 0 50 0 1 (by omega) (by omega) (by decide) (fun _ => rfl) (by omega)
  rw [List.drop_zero] at h
  exact h.trans (congrArg some (outc_getP (bs s)))
/-- The text with which bytes begin, if it may be so long, and how many bytes it has. -/
def getS (l : List Int) (most : Int) : List Int × Nat :=
  if (getP l).2 = 0 ∨ (getP l).1 > most ∨ (getP l).1 > (l.length : Int) - (getP l).2 then ([], 0)
  else ((l.drop (getP l).2).take (getP l).1.toNat, (getP l).2 + (getP l).1.toNat)
theorem getS_facts {l : List Int} {most : Int} {t : List Int} {k : Nat} (h : getS l most = (t, k)) : k ≤ l.length ∧ t.length ≤ k := by
  obtain ⟨n, j, hg⟩ : ∃ n j, getP l = (n, j) := ⟨_, _, rfl⟩
  have hf := getP_facts hg
  unfold getS at h
  rw [hg] at h
  simp only at h
  split at h <;> simp only [Prod.mk.injEq] at h <;> obtain ⟨rfl, rfl⟩ := h
  · exact ⟨Nat.zero_le _, Nat.le_refl _⟩
  · rename_i hn
    have := List.length_take_le n.toNat (l.drop j)
    omega
theorem refGetStr_is (s : ByteArray) (most : Int) (hl : s.size ≤ 1000000) : chicaneref04_GetStr.f 50 s most = some (strOfNums (getS (bs s) most).1, ((getS (bs s) most).2 : Int)) := by
  unfold chicaneref04_GetStr.f
  rw [refGet_is s (by omega)]
  simp only [Option.bind_some]
  obtain ⟨n, k, hg⟩ : ∃ n k, getP (bs s) = (n, k) := ⟨_, _, rfl⟩
  have hf := getP_facts hg
  rw [bs_len] at hf
  unfold getS
  rw [hg, bs_len]
  simp only
  rw [wrap_of (n := (s.size : Int) - (k : Int)) (by omega) (by omega)]
  by_cases h0 : k = 0
  · rw [if_pos (by omega), if_pos (.inl h0)]; rfl
  rw [if_neg (by omega)]
  by_cases h1 : n > most
  · rw [if_pos h1, if_pos (.inr (.inl h1))]; rfl
  rw [if_neg h1]
  by_cases h2 : n > (s.size : Int) - (k : Int)
  · rw [if_pos h2, if_pos (.inr (.inr h2))]; rfl
  rw [if_neg h2, if_pos (by omega), wrap_of (n := (k : Int) + n) (by omega) (by omega), if_pos (by omega), if_pos (by omega), if_neg (show ¬ (k = 0 ∨ n > most ∨ n > (s.size : Int) - (k : Int)) by omega)]
  have e1 : ((k : Int) + n).toNat = k + n.toNat := by omega
  have e2 : (k : Int) + n = ((k + n.toNat : Nat) : Int) := by omega
  rw [e1, Int.toNat_natCast]
  congr 2
  refine bs_inj ?_
  rw [bs_str (((bs_bytes s).drop k).take n.toNat)]
  simp only [bs, Go.Proofs.YteencbkopkpelaaW.PrintWords.bytesOf, ByteArray.data_extract, Array.toList_extract, List.extract_eq_take_drop, List.map_take, List.map_drop]
  congr 1
  omega
end Go.Proofs.Yteencbkopkpelaa.Hand
