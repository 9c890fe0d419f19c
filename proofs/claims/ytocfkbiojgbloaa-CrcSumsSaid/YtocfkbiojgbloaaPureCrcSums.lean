/- The plain statement of the law CrcSums: for every input that may come in, with enough rounds, the law's function tells true. No further condition. -/
import Derived.Test.YtocfkbiojgbloaaPCrcSumsx4
import Derived.Test.YtocfkbiojgbloaaCrcLink
import Derived.Lib.Bytes
namespace Go.Proofs.Ytocfkbiojgbloaa.Pure
open Go Go.RowKit Go.Proofs.Ytocfkbiojgbloaa.PCrcSums Go.Proofs.YtocfkbiojgbloaaW.PrintWords Go.Proofs.YtocfkbiojgbloaaW.PrintLast Go.Proofs.Ytocfkbiojgbloaa.Hand Go.Proofs.Ytocfkbiojgbloaa.CrcMath
set_option linter.unusedVariables false
set_option linter.unusedSimpArgs false
theorem wrap_in {i : Int} (h0 : -9223372036854775808 ≤ i) (h1 : i ≤ 9223372036854775807) : wrap64 i = i := by
  unfold wrap64
  omega
theorem rd_cons (l : List Int) (i : Nat) (h : i < l.length) : l.drop i = rd l i :: l.drop (i + 1) := by
  rw [List.drop_eq_getElem_cons h]
  simp [rd, h]
theorem More_l0 (l : List Int) (hl : l.length ≤ 9000000000000000000) (d : Nat) : ∀ (k : Nat) (x : B) (i : Nat), l.length - i = d → i ≤ l.length → d < k →
    crc_More.l0 k (x.toNat : Int) l (l.length : Int) (i : Int) = some ((~~~ raw x (l.drop i)).toNat : Int) := by
  induction d with
  | zero =>
    intro k x i hd hi hk
    obtain ⟨k, rfl⟩ : ∃ m, k = m + 1 := ⟨k - 1, by omega⟩
    simp only [crc_More.l0]
    rw [if_neg (by omega), compl_eq, List.drop_of_length_le (by omega)]
    rfl
  | succ d ih =>
    intro k x i hd hi hk
    obtain ⟨k, rfl⟩ : ∃ m, k = m + 1 := ⟨k - 1, by omega⟩
    simp only [crc_More.l0, crc_one.f]
    rw [if_pos (by omega), if_pos (by omega), if_pos (by omega)]
    simp only [Option.bind_some]
    rw [one_eq, wrap_in (by omega) (by omega), show ((i : Int) + 1) = ((i + 1 : Nat) : Int) by omega, ih k _ (i + 1) (by omega) (by omega) (by omega), rd_cons l i (by omega)]
    rfl
theorem More_f (l : List Int) (hl : l.length ≤ 9000000000000000000) (k : Nat) (hk : l.length < k) (a : B) : crc_More.f k (a.toNat : Int) l = some ((~~~ raw (~~~ a) l).toNat : Int) := by
  unfold crc_More.f
  rw [compl_eq]
  have := More_l0 l hl l.length k (~~~ a) 0 (by omega) (by omega) hk
  simpa using this
theorem Sum_f (l : List Int) (hl : l.length ≤ 9000000000000000000) (k : Nat) (hk : l.length < k) : crc_Sum.f k l = some (Hand.sum l) := by
  unfold crc_Sum.f
  have := More_f l hl k hk 0#32
  have e : ((BitVec.toNat 0#32 : Nat) : Int) = 0 := rfl
  rw [e] at this
  rw [this]
  rfl
theorem tail_f (n : Int) : crc_tail.f n = some (tailOf n) := rfl
theorem Seal_f (l : List Int) (hl : l.length + 4 < 140737488355328) (k : Nat) (hk : l.length < k) : crc_Seal.f k l = some (l ++ tailOf (Hand.sum l)) := by
  unfold crc_Seal.f crc_clone.f
  rw [if_pos (by omega), Sum_f l (by omega) k hk]
  simp only [Option.bind_some, crc_tail.f]
  rw [if_pos (by simp; omega)]
  rfl
theorem wf_take {l : List Int} (h : Wf l) (n : Nat) : Wf (l.take n) := fun x hx => h x (List.mem_of_mem_take hx)
theorem wf_drop {l : List Int} (h : Wf l) (n : Nat) : Wf (l.drop n) := fun x hx => h x (List.mem_of_mem_drop hx)
theorem four_of {l : List Int} (h : l.length = 4) : ∃ a b c d, l = [a, b, c, d] := by
  match l, h with
  | [a, b, c, d], _ => exact ⟨a, b, c, d, rfl⟩
theorem Open_short (l : List Int) (hl : l.length < 4) (k : Nat) : crc_Open.f k l = some ([], false) := by
  unfold crc_Open.f
  rw [wrap_in (by omega) (by omega), if_pos (by omega)]
theorem bytesEq (l m : List Int) (hl : Wf l) (hm : Wf m) : ((strOfNums l).toList == (strOfNums m).toList) = decide (l = m) := by
  rw [Bool.eq_iff_iff]
  simp only [beq_iff_eq, decide_eq_true_eq]
  rw [Lib.strOfNums_toList, Lib.strOfNums_toList]
  exact ⟨fun h => str_eq hl hm h, fun h => by rw [h]⟩
theorem Open_f (l : List Int) (hl : 4 ≤ l.length) (hl2 : l.length < 140737488355328) (hw : Wf l) (k : Nat) (hk : l.length < k) :
    crc_Open.f k l = some (if raw (~~~ 0#32) l = residue then (l.take (l.length - 4), true) else ([], false)) := by
  unfold crc_Open.f
  rw [wrap_in (by omega) (by omega), if_neg (by omega), if_pos (by omega), if_pos (by omega)]
  rw [show ((l.length : Int) - 4).toNat = l.length - 4 by omega]
  rw [Sum_f _ (by rw [List.length_take]; omega) k (by rw [List.length_take]; omega)]
  simp only [Option.bind_some]
  rw [tail_f]
  simp only [Option.bind_some, bytes_Equal.f]
  obtain ⟨a, b, c, d, h4⟩ := four_of (l := l.drop (l.length - 4)) (by rw [List.length_drop]; omega)
  have hsplit : l = l.take (l.length - 4) ++ [a, b, c, d] := by rw [← h4, List.take_append_drop]
  have hw4 : Wf [a, b, c, d] := by rw [← h4]; exact wf_drop hw _
  have hiff := sealed_iff (l.take (l.length - 4)) a b c d hw4
  rw [← hsplit] at hiff
  rw [h4]
  rw [bytesEq _ _ hw4 (show Wf (tailOf (Hand.sum (l.take (l.length - 4)))) from tail_wf _)]
  by_cases hr : raw (~~~ 0#32) l = residue
  · rw [if_pos hr, if_pos (decide_eq_true (hiff.1 hr))]
    unfold crc_clone.f
    rw [if_pos (by rw [List.length_take]; omega)]
    rfl
  · rw [if_neg hr, if_neg (by simp only [decide_eq_true_eq]; exact fun h => hr (hiff.2 h))]
theorem seal_wf {l : List Int} (h : Wf l) : Wf (l ++ tailOf (Hand.sum l)) := by
  intro x hx
  rcases List.mem_append.1 hx with h1 | h1
  · exact h x h1
  · exact tail_wf _ x h1
theorem alive_f (k : Nat) : chicanelaw03_alive.f k = some true := rfl
theorem bits_u8 (x y : Int) : BitVec.ofInt 32 (Go.bits .xor .u8 x y) = (BitVec.ofInt 8 x ^^^ BitVec.ofInt 8 y).setWidth 32 := by
  simp only [Go.bits, IntKind.wrap_u8]
  have := (BitVec.ofInt 8 x ^^^ BitVec.ofInt 8 y).isLt
  have e : (((BitVec.ofInt 8 x ^^^ BitVec.ofInt 8 y).toNat : Nat) : Int) % 256 = (((BitVec.ofInt 8 x ^^^ BitVec.ofInt 8 y).toNat : Nat) : Int) := by omega
  show BitVec.ofInt 32 ((((BitVec.ofInt 8 x ^^^ BitVec.ofInt 8 y).toNat : Nat) : Int) % 256) = _
  rw [e, BitVec.ofInt_natCast, BitVec.ofNat_toNat]
theorem wide8 {x : Int} (h : 0 ≤ x ∧ x ≤ 255) : (BitVec.ofInt 8 x).setWidth 32 = BitVec.ofInt 32 x := by
  obtain ⟨n, rfl⟩ := Int.eq_ofNat_of_zero_le h.1
  rw [BitVec.ofInt_natCast, BitVec.ofInt_natCast]
  apply BitVec.eq_of_toNat_eq
  rw [BitVec.toNat_setWidth, BitVec.toNat_ofNat, BitVec.toNat_ofNat]
  omega
theorem bits_u8' {x y : Int} (hx : 0 ≤ x ∧ x ≤ 255) (hy : 0 ≤ y ∧ y ≤ 255) : BitVec.ofInt 32 (Go.bits .xor .u8 x y) = BitVec.ofInt 32 x ^^^ BitVec.ofInt 32 y := by
  rw [bits_u8, BitVec.setWidth_xor, wide8 hx, wide8 hy]
theorem wf_getD {l : List Int} (h : Wf l) (i : Nat) : 0 ≤ l.getD i 0 ∧ l.getD i 0 ≤ 255 := by
  by_cases hi : i < l.length
  · have : l.getD i 0 ∈ l := by rw [List.getD_eq_getElem?_getD, List.getElem?_eq_getElem hi]; exact List.getElem_mem hi
    exact h _ this
  · rw [List.getD_eq_getElem?_getD, List.getElem?_eq_none (by omega)]; simp
/-! ### the document's sum: a row of bits -/
def bitsN : Nat → Int → List Bool
  | 0, _ => []
  | m + 1, n => (n % 2 == 1) :: bitsN m (n / 2)
theorem bitsN_len (m : Nat) : ∀ n, (bitsN m n).length = m := by
  induction m with
  | zero => intro n; rfl
  | succ m ih => intro n; simp [bitsN, ih]
def bitsOf (l : List Int) : List Bool := l.flatMap (bitsN 8)
theorem bitsOf_cons (a : Int) (l : List Int) : bitsOf (a :: l) = bitsN 8 a ++ bitsOf l := by unfold bitsOf; rw [List.flatMap_cons]
theorem bitsOf_len (l : List Int) : (bitsOf l).length = 8 * l.length := by
  induction l with
  | nil => rfl
  | cons a l ih => rw [bitsOf_cons, List.length_append, bitsN_len, ih, List.length_cons]; omega
theorem Bits_l1 (s : ByteArray) (i : Int) (d : Nat) : ∀ (k : Nat) (out : List Bool) (n : Int) (j : Nat), j + d = 8 → d < k → 0 ≤ n → n ≤ 255 → out.length + d < 140737488355328 →
    chicaneref03_Bits.l1 k s out i n (j : Int) = chicaneref03_Bits.l0 (k - d - 1) s (out ++ bitsN d n) (wrap64 (i + 1)) := by
  induction d with
  | zero =>
    intro k out n j hd hk h0 h1 ho
    obtain ⟨k, rfl⟩ : ∃ m, k = m + 1 := ⟨k - 1, by omega⟩
    simp only [chicaneref03_Bits.l1]
    rw [if_neg (by omega)]
    simp [bitsN]
  | succ d ih =>
    intro k out n j hd hk h0 h1 ho
    obtain ⟨k, rfl⟩ : ∃ m, k = m + 1 := ⟨k - 1, by omega⟩
    simp only [chicaneref03_Bits.l1]
    rw [if_pos (by omega), if_pos (by omega), wrap_in (by omega) (by omega), show ((j : Int) + 1) = ((j + 1 : Nat) : Int) by omega]
    rw [Int.tdiv_eq_ediv_of_nonneg h0, Int.tmod_eq_emod_of_nonneg h0, show (n / 2) % 256 = n / 2 by omega]
    rw [ih k (out ++ [n % 2 == 1]) (n / 2) (j + 1) (by omega) (by omega) (by omega) (by omega) (by rw [List.length_append]; simp; omega)]
    rw [show k - d - 1 = k + 1 - (d + 1) - 1 by omega, List.append_assoc]
    rfl
/-- A string's bytes, as numbers. -/
theorem bt_strOfNums (l : List Int) (hw : Wf l) (i : Nat) (h : i < l.length) : bt (strOfNums l) (i : Int) = l.getD i 0 := by
  have hi : (i : Int).toNat = i := by omega
  unfold bt
  rw [dif_pos (by rw [strOfNums_size, hi]; exact h)]
  have hv := wf_getD hw i
  have : (strOfNums l)[(i : Int).toNat]'(by rw [strOfNums_size, hi]; exact h) = UInt8.ofNat (l.getD i 0).toNat := by
    simp only [hi]
    show (strOfNums l).data[i]'(by show i < (strOfNums l).size; rw [strOfNums_size]; exact h) = _
    simp [strOfNums, h]
  rw [this, UInt8.toNat_ofNat']
  omega
theorem Bits_l0 (l : List Int) (hw : Wf l) (hl : l.length ≤ 2000) (d : Nat) : ∀ (k : Nat) (out : List Bool) (i : Nat), i + d = l.length → 10 * d < k → out.length = 8 * i →
    chicaneref03_Bits.l0 k (strOfNums l) out (i : Int) = some (out ++ bitsOf (l.drop i)) := by
  induction d with
  | zero =>
    intro k out i hd hk ho
    obtain ⟨k, rfl⟩ : ∃ m, k = m + 1 := ⟨k - 1, by omega⟩
    simp only [chicaneref03_Bits.l0]
    rw [if_neg (by rw [strOfNums_size]; omega), List.drop_of_length_le (by omega)]
    simp [bitsOf]
  | succ d ih =>
    intro k out i hd hk ho
    obtain ⟨k, rfl⟩ : ∃ m, k = m + 1 := ⟨k - 1, by omega⟩
    simp only [chicaneref03_Bits.l0]
    have hv := wf_getD hw i
    rw [if_pos (by rw [strOfNums_size]; omega), if_pos (by omega), bt_strOfNums l hw i (by omega)]
    have h1 := Bits_l1 (strOfNums l) (i : Int) 8 k out (l.getD i 0) 0 (by omega) (by omega) hv.1 hv.2 (by omega)
    have e0 : ((0 : Nat) : Int) = 0 := rfl
    rw [e0] at h1
    rw [h1, wrap_in (by omega) (by omega), show ((i : Int) + 1) = ((i + 1 : Nat) : Int) by omega]
    rw [ih _ _ (i + 1) (by omega) (by omega) (by rw [List.length_append, bitsN_len]; omega)]
    rw [List.append_assoc, ← bitsOf_cons, rd_cons l i (by omega)]
    simp [rd]
theorem Bits_f (l : List Int) (hw : Wf l) (hl : l.length ≤ 2000) (k : Nat) (hk : 10 * l.length < k) : chicaneref03_Bits.f k (strOfNums l) = some (bitsOf l) := by
  unfold chicaneref03_Bits.f
  have := Bits_l0 l hw hl l.length k [] 0 (by omega) hk rfl
  simpa using this
/-- A row of bits is a register. -/
def Rep (x : List Bool) (R : B) : Prop := x.length = 32 ∧ ∀ j, j < 32 → x.getD j false = R.getLsbD j
def bitB (b : Bool) : B := if b then 1#32 else 0#32
def stepsB : List Bool → B → B
  | [], R => R
  | b :: bs, R => stepsB bs (CrcMath.step (R ^^^ bitB b))
theorem getD_set (x : List Bool) (i j : Nat) (b : Bool) (h : i < x.length) : (x.set i b).getD j false = if i = j then b else x.getD j false := by
  rw [List.getD_eq_getElem?_getD, List.getElem?_set]
  by_cases e : i = j
  · subst e; simp [h]
  · rw [if_neg e, if_neg e, List.getD_eq_getElem?_getD]
theorem rdB (x : List Bool) (i : Nat) : rdOf false x (i : Int) = x.getD i false := by simp [rdOf]
theorem poly_bits (j : Nat) (hj : j < 32) : ((3988292384 / 2 ^ j : Nat) % 2 == 1) = poly.getLsbD j := by
  revert hj; revert j; decide
theorem Sum_l3 (bits : List Bool) (i6 : Nat) (hi6 : i6 < 100000) (S : B) (d : Nat) : ∀ (k : Nat) (x : List Bool) (j q : Nat), j + d = 32 → d < k → x.length = 32 → q = 3988292384 / 2 ^ j →
    (∀ t, t < 32 → x.getD t false = if t < j then (S.getLsbD t != poly.getLsbD t) else S.getLsbD t) →
    ∃ y, Rep y (S ^^^ poly) ∧ chicaneref03_Sum.l3 k bits (i6 : Int) x (q : Int) (j : Int) = chicaneref03_Sum.l1 (k - d - 1) y bits ((i6 + 1 : Nat) : Int) := by
  induction d with
  | zero =>
    intro k x j q hd hk hx hq hrel
    obtain ⟨k, rfl⟩ : ∃ m, k = m + 1 := ⟨k - 1, by omega⟩
    refine ⟨x, ⟨hx, fun t ht => ?_⟩, ?_⟩
    · rw [hrel t ht, if_pos (by omega), BitVec.getLsbD_xor]
      try (cases S.getLsbD t <;> cases poly.getLsbD t <;> rfl)
    · clear hrel
      simp only [chicaneref03_Sum.l3]
      rw [if_neg (by omega), wrap_in (by omega) (by omega), show ((i6 : Int) + 1) = ((i6 + 1 : Nat) : Int) by omega]
      try rfl
  | succ d ih =>
    intro k x j q hd hk hx hq hrel
    obtain ⟨k, rfl⟩ : ∃ m, k = m + 1 := ⟨k - 1, by omega⟩
    have hlt : q ≤ 3988292384 := hq ▸ Nat.div_le_self _ _
    have hq2 : q / 2 = 3988292384 / 2 ^ (j + 1) := by rw [hq, Nat.pow_succ, ← Nat.div_div_eq_div_mul]
    have hb0 : (q % 2 == 1) = poly.getLsbD j := by rw [hq]; exact poly_bits j (by omega)
    have hn : (Int.tdiv (q : Int) 2) % 4294967296 = ((q / 2 : Nat) : Int) := by
      rw [Int.tdiv_eq_ediv_of_nonneg (by omega)]
      clear hq hq2
      omega
    have hb : ((Int.tmod (q : Int) 2) == 1) = poly.getLsbD j := by
      rw [Int.tmod_eq_emod_of_nonneg (by omega), ← hb0]
      clear hq hq2
      rw [Bool.eq_iff_iff]
      simp only [beq_iff_eq]
      omega
    obtain ⟨y, hy, he⟩ := ih k (x.set j ((x.getD j false) != poly.getLsbD j)) (j + 1) (q / 2) (by omega) (by omega) (by rw [List.length_set]; exact hx) hq2 (fun t ht => by
      clear hq hq2
      rw [getD_set _ _ _ _ (by omega)]
      by_cases e : j = t
      · subst e
        rw [if_pos rfl, if_pos (by omega), hrel j ht, if_neg (by omega)]
      · rw [if_neg e, hrel t ht]
        by_cases h : t < j
        · rw [if_pos h, if_pos (by omega)]
        · rw [if_neg h, if_neg (by omega)])
    refine ⟨y, hy, ?_⟩
    clear hq hq2
    simp only [chicaneref03_Sum.l3]
    rw [if_pos (by omega), if_pos (by omega), if_pos (by omega), hn, hb, rdB, wrap_in (by omega) (by omega), show ((j : Int) + 1) = ((j + 1 : Nat) : Int) by omega]
    rw [show (j : Int).toNat = j by omega, he, show k - d - 1 = k + 1 - (d + 1) - 1 by omega]
theorem Sum_l2 (x : List Bool) (R : B) (hR : Rep x R) (bits : List Bool) (i6 : Nat) (odd : Bool) (d : Nat) : ∀ (k : Nat) (y : List Bool) (j : Nat), j + d = 31 → d < k → y.length = 32 →
    (∀ t, t < 32 → y.getD t false = if t < j then R.getLsbD (t + 1) else false) →
    ∃ z, Rep z (R >>> 1) ∧ chicaneref03_Sum.l2 k x bits (i6 : Int) odd y (j : Int) = (if odd = true then chicaneref03_Sum.l3 (k - d - 1) bits (i6 : Int) z 3988292384 0 else chicaneref03_Sum.l1 (k - d - 1) z bits (wrap64 ((i6 : Int) + 1))) := by
  induction d with
  | zero =>
    intro k y j hd hk hy hrel
    obtain ⟨k, rfl⟩ : ∃ m, k = m + 1 := ⟨k - 1, by omega⟩
    refine ⟨y, ⟨hy, fun t ht => ?_⟩, ?_⟩
    · rw [hrel t ht, BitVec.getLsbD_ushiftRight]
      by_cases h : t < j
      · rw [if_pos h, Nat.add_comm]
      · rw [if_neg h, show 1 + t = 32 by omega, BitVec.getLsbD_of_ge _ _ (by omega)]
    · simp only [chicaneref03_Sum.l2]
      rw [if_neg (by omega)]
      rfl
  | succ d ih =>
    intro k y j hd hk hy hrel
    obtain ⟨k, rfl⟩ : ∃ m, k = m + 1 := ⟨k - 1, by omega⟩
    obtain ⟨z, hz, he⟩ := ih k (y.set j (x.getD (j + 1) false)) (j + 1) (by omega) (by omega) (by rw [List.length_set]; exact hy) (fun t ht => by
      rw [getD_set _ _ _ _ (by omega)]
      by_cases e : j = t
      · subst e
        rw [if_pos rfl, if_pos (by omega), hR.2 (j + 1) (by omega)]
      · rw [if_neg e, hrel t ht]
        by_cases h : t < j
        · rw [if_pos h, if_pos (by omega)]
        · rw [if_neg h, if_neg (by omega)])
    refine ⟨z, hz, ?_⟩
    have hx := hR.1
    simp only [chicaneref03_Sum.l2]
    rw [wrap_in (i := (j : Int) + 1) (by omega) (by omega), if_pos (by omega), if_pos (by omega), if_pos (by omega), if_pos (by omega), if_pos (by omega), show ((j : Int) + 1) = ((j + 1 : Nat) : Int) by omega, rdB]
    rw [show (j : Int).toNat = j by omega, he, show k - d - 1 = k + 1 - (d + 1) - 1 by omega]
theorem Sum_l1 (bits : List Bool) (hb : bits.length ≤ 16000) (d : Nat) : ∀ (k : Nat) (x : List Bool) (R : B) (i : Nat), i + d = bits.length → 100 * d + 1 < k → Rep x R →
    ∃ y, ∃ k', k - 100 * d - 2 ≤ k' ∧ Rep y (stepsB (bits.drop i) R) ∧ chicaneref03_Sum.l1 k x bits (i : Int) = chicaneref03_Sum.l4 k' y 0 31 := by
  induction d with
  | zero =>
    intro k x R i hd hk hR
    obtain ⟨k, rfl⟩ : ∃ m, k = m + 1 := ⟨k - 1, by omega⟩
    refine ⟨x, k, by omega, ?_, ?_⟩
    · rw [List.drop_of_length_le (by omega)]; exact hR
    · simp only [chicaneref03_Sum.l1]
      rw [if_neg (by omega)]
  | succ d ih =>
    intro k x R i hd hk hR
    obtain ⟨k, rfl⟩ : ∃ m, k = m + 1 := ⟨k - 1, by omega⟩
    have hcons : bits.drop i = bits.getD i false :: bits.drop (i + 1) := by
      rw [List.drop_eq_getElem_cons (by omega), List.getD_eq_getElem?_getD, List.getElem?_eq_getElem (by omega)]
      rfl
    have hx := hR.1
    obtain ⟨z, hz, he⟩ := Sum_l2 x R hR bits i (x.getD 0 false != bits.getD i false) 31 k (List.replicate 32 false) 0 (by omega) (by omega) (by simp) (fun t ht => by
      rw [if_neg (by omega), List.getD_eq_getElem?_getD, List.getElem?_replicate]
      split <;> rfl)
    have hodd : (x.getD 0 false != bits.getD i false) = (R ^^^ bitB (bits.getD i false)).getLsbD 0 := by
      rw [hR.2 0 (by omega), BitVec.getLsbD_xor]
      cases R.getLsbD 0 <;> cases bits.getD i false <;> decide
    have hsh : (R ^^^ bitB (bits.getD i false)) >>> 1 = R >>> 1 := by
      rw [BitVec.ushiftRight_xor_distrib]
      cases bits.getD i false <;> simp [bitB]
    have e0 : rdOf false x 0 = x.getD 0 false := rdB x 0
    have hstart : chicaneref03_Sum.l1 (k + 1) x bits (i : Int) = chicaneref03_Sum.l2 k x bits (i : Int) (x.getD 0 false != bits.getD i false) (List.replicate 32 false) 0 := by
      simp only [chicaneref03_Sum.l1]
      rw [if_pos (by omega), if_pos (by omega), if_pos (by omega), if_pos (by omega), e0, rdB]
    have he' : chicaneref03_Sum.l1 (k + 1) x bits (i : Int) = _ := hstart.trans he
    rw [hcons]
    cases ho : (x.getD 0 false != bits.getD i false) with
    | true =>
      rw [ho, if_pos rfl] at he'
      obtain ⟨y, hy, he3⟩ := Sum_l3 bits i (by omega) (R >>> 1) 32 (k - 31 - 1) z 0 3988292384 (by omega) (by omega) hz.1 rfl (fun t ht => by rw [if_neg (by omega)]; exact hz.2 t ht)
      have hy' : Rep y (CrcMath.step (R ^^^ bitB (bits.getD i false))) := by
        unfold CrcMath.step
        rw [← hodd, ho, hsh]
        exact hy
      obtain ⟨u, k', hk', hu, he4⟩ := ih (k - 31 - 1 - 32 - 1) y _ (i + 1) (by omega) (by omega) hy'
      refine ⟨u, k', by omega, hu, ?_⟩
      rw [he', ← he4]
      exact he3
    | false =>
      rw [ho, if_neg (by decide), wrap_in (by omega) (by omega), show ((i : Int) + 1) = ((i + 1 : Nat) : Int) by omega] at he'
      have hy' : Rep z (CrcMath.step (R ^^^ bitB (bits.getD i false))) := by
        unfold CrcMath.step
        rw [← hodd, ho, hsh]
        simpa using hz
      obtain ⟨u, k', hk', hu, he4⟩ := ih (k - 31 - 1) z _ (i + 1) (by omega) (by omega) hy'
      exact ⟨u, k', by omega, hu, by rw [he', ← he4]⟩
theorem Sum_l4 (y : List Bool) (R : B) (hR : Rep y R) (d : Nat) : ∀ (k q : Nat), d ≤ 32 → d < k → q = (~~~ R).toNat / 2 ^ d →
    chicaneref03_Sum.l4 k y (q : Int) ((d : Int) - 1) = some ((~~~ R).toNat : Int) := by
  have hM := (~~~ R).isLt
  induction d with
  | zero =>
    intro k q hd hk hq
    obtain ⟨k, rfl⟩ : ∃ m, k = m + 1 := ⟨k - 1, by omega⟩
    simp only [chicaneref03_Sum.l4]
    rw [if_neg (by omega), hq]
    simp
  | succ d ih =>
    intro k q hd hk hq
    obtain ⟨k, rfl⟩ : ∃ m, k = m + 1 := ⟨k - 1, by omega⟩
    have hy := hR.1
    have hbit : y.getD d false = !((~~~ R).toNat.testBit d) := by
      rw [hR.2 d (by omega)]
      have h1 : (~~~ R).getLsbD d = !R.getLsbD d := by rw [BitVec.getLsbD_not]; simp; omega
      have h2 : (~~~ R).getLsbD d = (~~~ R).toNat.testBit d := rfl
      rw [← h2, h1]; simp
    obtain ⟨p, hp⟩ : ∃ p, p = (~~~ R).toNat / 2 ^ d := ⟨_, rfl⟩
    have hpq : q = p / 2 := by rw [hq, hp, Nat.pow_succ, ← Nat.div_div_eq_div_mul]
    have hpb : (~~~ R).toNat.testBit d = decide (p % 2 = 1) := by rw [Nat.testBit_eq_decide_div_mod_eq, hp]
    have hle : p < 4294967296 := by rw [hp]; exact Nat.lt_of_le_of_lt (Nat.div_le_self _ _) hM
    have := ih k p (by omega) (by omega) hp
    rw [hpb] at hbit
    have e1 : (((d + 1 : Nat) : Int) - 1) = (d : Int) := by omega
    clear hq hp hpb
    simp only [chicaneref03_Sum.l4]
    rw [e1, if_pos (by omega), if_pos (by omega), if_pos (by omega), rdB, hbit, wrap_in (by omega) (by omega)]
    by_cases h : p % 2 = 1
    · rw [decide_eq_true h, if_neg (by decide), ← this]
      congr 1
      omega
    · rw [decide_eq_false h, if_pos (by decide), ← this]
      congr 1
      omega
theorem Sum_l0 (s : ByteArray) (d : Nat) : ∀ (k : Nat) (x : List Bool) (j : Nat), j + d = 32 → d < k → x.length = 32 → (∀ t, t < j → x.getD t false = true) →
    ∃ y, Rep y (~~~ 0#32) ∧ chicaneref03_Sum.l0 k s x (j : Int) = (chicaneref03_Bits.f (k - d - 1) s).bind fun t => chicaneref03_Sum.l1 (k - d - 1) y t 0 := by
  induction d with
  | zero =>
    intro k x j hd hk hx hrel
    obtain ⟨k, rfl⟩ : ∃ m, k = m + 1 := ⟨k - 1, by omega⟩
    refine ⟨x, ⟨hx, fun t ht => ?_⟩, ?_⟩
    · rw [hrel t (by omega), BitVec.getLsbD_not]
      simp [ht]
    · simp only [chicaneref03_Sum.l0]
      rw [if_neg (by omega)]
      rfl
  | succ d ih =>
    intro k x j hd hk hx hrel
    obtain ⟨k, rfl⟩ : ∃ m, k = m + 1 := ⟨k - 1, by omega⟩
    obtain ⟨y, hy, he⟩ := ih k (x.set j true) (j + 1) (by omega) (by omega) (by rw [List.length_set]; exact hx) (fun t ht => by
      rw [getD_set _ _ _ _ (by omega)]
      by_cases e : j = t
      · rw [if_pos e]
      · rw [if_neg e]; exact hrel t (by omega))
    refine ⟨y, hy, ?_⟩
    simp only [chicaneref03_Sum.l0]
    rw [if_pos (by omega), if_pos (by omega), if_pos (by omega), wrap_in (by omega) (by omega), show ((j : Int) + 1) = ((j + 1 : Nat) : Int) by omega]
    rw [show (j : Int).toNat = j by omega, he, show k - d - 1 = k + 1 - (d + 1) - 1 by omega]
/-- The bits of bytes, one by one, are the bytes. -/
def wordB : List Bool → B
  | [] => 0#32
  | b :: bs => bitB b ^^^ (wordB bs) <<< 1
theorem wordB_top (bs : List Bool) : ∀ i, bs.length ≤ i → (wordB bs).getLsbD i = false := by
  induction bs with
  | nil => intro i _; simp [wordB]
  | cons b bs ih =>
    intro i hi
    simp only [List.length_cons] at hi
    unfold wordB
    rw [BitVec.getLsbD_xor, BitVec.getLsbD_shiftLeft, ih (i - 1) (by omega)]
    cases b
    · simp [bitB]
    · have : i ≠ 0 := by omega
      simp [bitB, BitVec.getLsbD_one, this]
theorem stepsB_word (bs : List Bool) : ∀ R : B, bs.length ≤ 32 → stepsB bs R = CrcMath.steps bs.length (R ^^^ wordB bs) := by
  induction bs with
  | nil => intro R _; simp [stepsB, wordB, CrcMath.steps]
  | cons b bs ih =>
    intro R h
    simp only [List.length_cons] at h
    show stepsB bs (CrcMath.step (R ^^^ bitB b)) = CrcMath.steps bs.length (CrcMath.step (R ^^^ (bitB b ^^^ (wordB bs) <<< 1)))
    rw [ih _ (by omega), ← BitVec.xor_assoc, step_xor (R ^^^ bitB b), step_shl _ (wordB_top bs 31 (by omega))]
theorem stepsB_append (a b : List Bool) : ∀ R, stepsB (a ++ b) R = stepsB b (stepsB a R) := by
  induction a with
  | nil => intro R; rfl
  | cons x a ih => intro R; exact ih _
theorem word_byte (c : Int) (h : 0 ≤ c ∧ c ≤ 255) : wordB (bitsN 8 c) = BitVec.ofInt 32 c := by
  obtain ⟨n, rfl⟩ := Int.eq_ofNat_of_zero_le h.1
  have hn : n < 256 := by omega
  have key : ∀ n : Fin 256, wordB (bitsN 8 ((n.val : Nat) : Int)) = BitVec.ofInt 32 ((n.val : Nat) : Int) := by decide +kernel
  exact key ⟨n, hn⟩
theorem stepsB_bytes (l : List Int) (hw : Wf l) : ∀ R : B, stepsB (bitsOf l) R = raw R l := by
  induction l with
  | nil => intro R; rfl
  | cons a l ih =>
    intro R
    rw [bitsOf_cons, stepsB_append, stepsB_word (bitsN 8 a) _ (by rw [bitsN_len]; omega), word_byte a (hw a (by simp)), bitsN_len, ih (fun x hx => hw x (by simp [hx]))]
    rfl
theorem RefSum_f (l : List Int) (hw : Wf l) (hl : l.length ≤ 2000) (k : Nat) (hk : 900 * l.length + 200 < k) : chicaneref03_Sum.f k (strOfNums l) = some (Hand.sum l) := by
  unfold chicaneref03_Sum.f
  rw [if_pos (by omega)]
  obtain ⟨y, hy, he⟩ := Sum_l0 (strOfNums l) 32 k (List.replicate 32 false) 0 (by omega) (by omega) (by simp) (fun t ht => by omega)
  have e0 : ((0 : Nat) : Int) = 0 := rfl
  rw [e0] at he
  rw [he, Bits_f l hw hl _ (by omega)]
  rw [Option.bind_some]
  obtain ⟨z, k', hk', hz, he2⟩ := Sum_l1 (bitsOf l) (by rw [bitsOf_len]; omega) (8 * l.length) (k - 32 - 1) y _ 0 (by rw [bitsOf_len]; omega) (by omega) hy
  rw [e0] at he2
  rw [he2]
  rw [List.drop_zero, stepsB_bytes l hw] at hz
  have hM := (~~~ raw (~~~ 0#32) l).isLt
  exact Sum_l4 z _ hz 32 k' 0 (by omega) (by omega) (Nat.div_eq_of_lt hM).symm
theorem str_append (l m : List Int) : strOfNums l ++ strOfNums m = strOfNums (l ++ m) := by
  apply ByteArray.ext
  rw [ByteArray.data_append]
  simp [strOfNums]
theorem More_sum (l m : List Int) (hm : m.length ≤ 9000000000000000000) (k : Nat) (hk : m.length < k) : crc_More.f k (Hand.sum l) m = some (Hand.sum (l ++ m)) := by
  have := More_f m hm k hk (Hand.sumB l)
  unfold Hand.sum
  rw [this]
  unfold Hand.sumB
  rw [raw_append, BitVec.not_not]
theorem zero_sum : Hand.sum [] = 0 := by decide
theorem Parts_two (l m : List Int) (hl : l.length ≤ 2000) (hm : m.length ≤ 2000) (k : Nat) (hk : 2000 < k) : crc_Parts.f (k + 3) [l, m] = some (Hand.sum (l ++ m)) := by
  unfold crc_Parts.f
  have h0 : crc_More.f (k + 2) 0 l = some (Hand.sum l) := by
    have := More_sum [] l (by omega) (k + 2) (by omega)
    rwa [zero_sum, List.nil_append] at this
  have w1 : wrap64 (0 + 1) = 1 := wrap_in (by omega) (by omega)
  have w2 : wrap64 (1 + 1) = 2 := wrap_in (by omega) (by omega)
  simp only [crc_Parts.l0, List.length_cons, List.length_nil]
  have e2 : (((0 + 1 + 1 : Nat)) : Int) = 2 := rfl
  rw [e2, if_pos (by decide), if_pos (by decide), if_pos (by decide)]
  rw [show rd_L1 [l, m] 0 = l from rfl, h0, Option.bind_some, w1, if_pos (by decide), if_pos (by decide), if_pos (by decide)]
  rw [show rd_L1 [l, m] 1 = m from rfl, More_sum l m (by omega) (k + 1) (by omega), Option.bind_some, w2, if_neg (by decide)]
theorem Parts_three (l m : List Int) (hl : l.length ≤ 2000) (hm : m.length ≤ 2000) (k : Nat) (hk : 2000 < k) : crc_Parts.f (k + 4) [l, [], m] = some (Hand.sum (l ++ m)) := by
  unfold crc_Parts.f
  have h0 : crc_More.f (k + 3) 0 l = some (Hand.sum l) := by
    have := More_sum [] l (by omega) (k + 3) (by omega)
    rwa [zero_sum, List.nil_append] at this
  have h1 : crc_More.f (k + 2) (Hand.sum l) [] = some (Hand.sum l) := by
    have := More_sum l [] (by simp) (k + 2) (by simp)
    rwa [List.append_nil] at this
  have w1 : wrap64 (0 + 1) = 1 := wrap_in (by omega) (by omega)
  have w2 : wrap64 (1 + 1) = 2 := wrap_in (by omega) (by omega)
  have w3 : wrap64 (2 + 1) = 3 := wrap_in (by omega) (by omega)
  simp only [crc_Parts.l0, List.length_cons, List.length_nil]
  have e3 : (((0 + 1 + 1 + 1 : Nat)) : Int) = 3 := rfl
  rw [e3, if_pos (by decide), if_pos (by decide), if_pos (by decide)]
  rw [show rd_L1 [l, [], m] 0 = l from rfl, h0, Option.bind_some, w1, if_pos (by decide), if_pos (by decide), if_pos (by decide)]
  rw [show rd_L1 [l, [], m] 1 = [] from rfl, h1, Option.bind_some, w2, if_pos (by decide), if_pos (by decide), if_pos (by decide)]
  rw [show rd_L1 [l, [], m] 2 = m from rfl, More_sum l m (by omega) (k + 1) (by omega), Option.bind_some, w3, if_neg (by decide)]
theorem sums_walk (a0 : Option Addr) (len0 cap0 : Nat) (z0 : List Int) (a1 : Option Addr) (len1 cap1 : Nat) (z1 : List Int) (w : World) (w0 : (a0 = none ∧ len0 = 0 ∧ cap0 = 0 ∧ z0 = []) ∨ ∃ x, a0 = some x ∧ len0 ≤ cap0 ∧ cap0 ≤ maxLen ∧ z0.length = cap0 ∧ (∀ i, i < z0.length → w.cell? (x.add i) = some (.int .u8 (z0.getD i 0))) ∧ ∀ n ∈ z0, (Lit.int .u8 n).wf = true) (y0 : len0 * 1 ≤ 140737488351232) (w1 : (a1 = none ∧ len1 = 0 ∧ cap1 = 0 ∧ z1 = []) ∨ ∃ x, a1 = some x ∧ len1 ≤ cap1 ∧ cap1 ≤ maxLen ∧ z1.length = cap1 ∧ (∀ i, i < z1.length → w.cell? (x.add i) = some (.int .u8 (z1.getD i 0))) ∧ ∀ n ∈ z1, (Lit.int .u8 n).wf = true) (y1 : len1 * 1 ≤ 140737488351232) :
    Calls Try.prog 3 #[.slice a0 len0 cap0, .slice a1 len1 cap1] w fun e w' => e = .returned (.bool true) ∧ Below w.heap.size w w' := by
  obtain ⟨l0, rfl, hr0, hm0, hw0, hc0⟩ := ReadsInt.ofRowC w0
  obtain ⟨l1, rfl, hr1, hm1, hw1, hc1⟩ := ReadsInt.ofRowC w1
  by_cases h : 2000 < l0.length + l1.length
  · exact sums_long a0 cap0 l0 a1 cap1 l1 w (by omega) (by omega) h
  · have g0 := wf_of hw0
    have g1 := wf_of hw1
    have g2 : Wf (l0 ++ l1) := fun x hx => (List.mem_append.1 hx).elim (g0 x) (g1 x)
    obtain ⟨K, hK⟩ : ∃ K, 900 * (l0.length + l1.length) + 3000 < K := ⟨_, Nat.lt_succ_self _⟩
    refine sums_short (K + 4) a0 cap0 l0 a1 cap1 l1 (Hand.sum (l0 ++ l1)) (Hand.sum l0) (Hand.sum []) w (by omega) (Kd.C_of_reads (d := (0 : Int)) (h1 := fun _ => rfl) hr0) hc0 (Kd.C_of_reads (d := (0 : Int)) (h1 := fun _ => rfl) hr1) hc1
      (Sum_f l0 (by omega) _ (by omega)) (RefSum_f l0 g0 (by omega) _ (by omega)) ?_ (More_sum l0 l1 (by omega) _ (by omega)) ?_ (Parts_three l0 l1 (by omega) (by omega) K (by omega)) ?_ (Sum_f [] (by simp) _ (by simp))
    · rw [str_append]
      exact RefSum_f (l0 ++ l1) g2 (by rw [List.length_append]; omega) _ (by rw [List.length_append]; omega)
    · exact Parts_two l0 l1 (by omega) (by omega) (K + 1) (by omega)
    · unfold crc_Parts.f
      simp only [crc_Parts.l0, List.length_nil]
      rw [zero_sum]
      rfl
end Go.Proofs.Ytocfkbiojgbloaa.Pure
