import Derived.Test.YtmklmpajcomimaaZMath
import Derived.Test.YtmklmpajcomimaaYTrP10
import Derived.Test.YtmklmpajcomimaaYPTraceWritesx5
section
/- The document's Encode, in plain lists. -/
namespace Go.Proofs.Ytmklmpajcomimaa.Hand
open Go.RowKit Go.Proofs.YtmklmpajcomimaaW.PrintWords Go.Proofs.YtmklmpajcomimaaW.PrintLast Go.Proofs.YtmklmpajcomimaaW.PrintMore Go.Proofs.Ytmklmpajcomimaa.PTraceWrites Go.Proofs.Ytmklmpajcomimaa.CrcMath
set_option linter.unusedVariables false
set_option linter.unusedSimpArgs false
theorem wrap_in {i : Int} (h0 : -9223372036854775808 ≤ i) (h1 : i ≤ 9223372036854775807) : wrap64 i = i := by
  unfold wrap64
  omega
theorem rd_cons (l : List Int) (i : Nat) (h : i < l.length) : l.drop i = rd l i :: l.drop (i + 1) := by
  rw [List.drop_eq_getElem_cons h]
  simp [rd, h]
theorem Bits_l1 (s : ByteArray) (i : Int) (d : Nat) : ∀ (k : Nat) (out : List Bool) (n : Int) (j : Nat), j + d = 8 → d < k → 0 ≤ n → n ≤ 255 → out.length + d < 140737488355328 →
    chicaneref03_Bits.l1 k s out i n (j : Int) = chicaneref03_Bits.l0 (k - d - 1) s (out ++ bitsN d n) (wrap64 (i + 1)) := by
  induction d with
  | zero =>
    intro k out n j hd hk h0 h1 ho
    obtain ⟨k, rfl⟩ : ∃ m, k = m + 1 := ⟨k - 1, by omega⟩
    simp only [chicaneref03_Bits.l1]
    rw [if_neg (by omega)]
    simp [bitsN]
  | succ d ih =>
    intro k out n j hd hk h0 h1 ho
    obtain ⟨k, rfl⟩ : ∃ m, k = m + 1 := ⟨k - 1, by omega⟩
    simp only [chicaneref03_Bits.l1]
    rw [if_pos (by omega), if_pos (by omega), wrap_in (by omega) (by omega), show ((j : Int) + 1) = ((j + 1 : Nat) : Int) by omega]
    rw [Int.tdiv_eq_ediv_of_nonneg h0, Int.tmod_eq_emod_of_nonneg h0, show (n / 2) % 256 = n / 2 by omega]
    rw [ih k (out ++ [n % 2 == 1]) (n / 2) (j + 1) (by omega) (by omega) (by omega) (by omega) (by rw [List.length_append]; simp; omega)]
    rw [show k - d - 1 = k + 1 - (d + 1) - 1 by omega, List.append_assoc]
    rfl
/-- A string's bytes, as numbers. -/
theorem bt_strOfNums (l : List Int) (hw : Wf l) (i : Nat) (h : i < l.length) : bt (strOfNums l) (i : Int) = l.getD i 0 := by
  have hi : (i : Int).toNat = i := by omega
  unfold bt
  rw [dif_pos (by rw [strOfNums_size, hi]; exact h)]
  have hv := wf_getD hw i
  have : (strOfNums l)[(i : Int).toNat]'(by rw [strOfNums_size, hi]; exact h) = UInt8.ofNat (l.getD i 0).toNat := by
    simp only [hi]
    show (strOfNums l).data[i]'(by show i < (strOfNums l).size; rw [strOfNums_size]; exact h) = _
    simp [strOfNums, h]
  rw [this, UInt8.toNat_ofNat']
  omega
theorem Bits_l0 (l : List Int) (hw : Wf l) (hl : l.length ≤ 4000) (d : Nat) : ∀ (k : Nat) (out : List Bool) (i : Nat), i + d = l.length → 10 * d < k → out.length = 8 * i →
    chicaneref03_Bits.l0 k (strOfNums l) out (i : Int) = some (out ++ bitsOf (l.drop i)) := by
  induction d with
  | zero =>
    intro k out i hd hk ho
    obtain ⟨k, rfl⟩ : ∃ m, k = m + 1 := ⟨k - 1, by omega⟩
    simp only [chicaneref03_Bits.l0]
    rw [if_neg (by rw [strOfNums_size]; omega), List.drop_of_length_le (by omega)]
    simp [bitsOf]
  | succ d ih =>
    intro k out i hd hk ho
    obtain ⟨k, rfl⟩ : ∃ m, k = m + 1 := ⟨k - 1, by omega⟩
    simp only [chicaneref03_Bits.l0]
    have hv := wf_getD hw i
    rw [if_pos (by rw [strOfNums_size]; omega), if_pos (by omega), bt_strOfNums l hw i (by omega)]
    have h1 := Bits_l1 (strOfNums l) (i : Int) 8 k out (l.getD i 0) 0 (by omega) (by omega) hv.1 hv.2 (by omega)
    have e0 : ((0 : Nat) : Int) = 0 := rfl
    rw [e0] at h1
    rw [h1, wrap_in (by omega) (by omega), show ((i : Int) + 1) = ((i + 1 : Nat) : Int) by omega]
    rw [ih _ _ (i + 1) (by omega) (by omega) (by rw [List.length_append, bitsN_len]; omega)]
    rw [List.append_assoc, ← bitsOf_cons, rd_cons l i (by omega)]
    simp [rd]
theorem Bits_f (l : List Int) (hw : Wf l) (hl : l.length ≤ 4000) (k : Nat) (hk : 10 * l.length < k) : chicaneref03_Bits.f k (strOfNums l) = some (bitsOf l) := by
  unfold chicaneref03_Bits.f
  have := Bits_l0 l hw hl l.length k [] 0 (by omega) hk rfl
  simpa using this
/-- A row of bits is a register. -/
def Rep (x : List Bool) (R : B) : Prop := x.length = 32 ∧ ∀ j, j < 32 → x.getD j false = R.getLsbD j
theorem getD_set (x : List Bool) (i j : Nat) (b : Bool) (h : i < x.length) : (x.set i b).getD j false = if i = j then b else x.getD j false := by
  rw [List.getD_eq_getElem?_getD, List.getElem?_set]
  by_cases e : i = j
  · subst e; simp [h]
  · rw [if_neg e, if_neg e, List.getD_eq_getElem?_getD]
theorem rdB (x : List Bool) (i : Nat) : rdOf false x (i : Int) = x.getD i false := by simp [rdOf]
theorem poly_bits (j : Nat) (hj : j < 32) : ((3988292384 / 2 ^ j : Nat) % 2 == 1) = poly.getLsbD j := by
  revert hj; revert j; decide
theorem Sum_l3 (bits : List Bool) (i6 : Nat) (hi6 : i6 < 100000) (S : B) (d : Nat) : ∀ (k : Nat) (x : List Bool) (j q : Nat), j + d = 32 → d < k → x.length = 32 → q = 3988292384 / 2 ^ j →
    (∀ t, t < 32 → x.getD t false = if t < j then (S.getLsbD t != poly.getLsbD t) else S.getLsbD t) →
    ∃ y, Rep y (S ^^^ poly) ∧ chicaneref03_Sum.l3 k bits (i6 : Int) x (q : Int) (j : Int) = chicaneref03_Sum.l1 (k - d - 1) y bits ((i6 + 1 : Nat) : Int) := by
  induction d with
  | zero =>
    intro k x j q hd hk hx hq hrel
    obtain ⟨k, rfl⟩ : ∃ m, k = m + 1 := ⟨k - 1, by omega⟩
    refine ⟨x, ⟨hx, fun t ht => ?_⟩, ?_⟩
    · rw [hrel t ht, if_pos (by omega), BitVec.getLsbD_xor]
      try (cases S.getLsbD t <;> cases poly.getLsbD t <;> rfl)
    · clear hrel
      simp only [chicaneref03_Sum.l3]
      rw [if_neg (by omega), wrap_in (by omega) (by omega), show ((i6 : Int) + 1) = ((i6 + 1 : Nat) : Int) by omega]
      try rfl
  | succ d ih =>
    intro k x j q hd hk hx hq hrel
    obtain ⟨k, rfl⟩ : ∃ m, k = m + 1 := ⟨k - 1, by omega⟩
    have hlt : q ≤ 3988292384 := hq ▸ Nat.div_le_self _ _
    have hq2 : q / 2 = 3988292384 / 2 ^ (j + 1) := by rw [hq, Nat.pow_succ, ← Nat.div_div_eq_div_mul]
    have hb0 : (q % 2 == 1) = poly.getLsbD j := by rw [hq]; exact poly_bits j (by omega)
    have hn : (Int.tdiv (q : Int) 2) % 4294967296 = ((q / 2 : Nat) : Int) := by
      rw [Int.tdiv_eq_ediv_of_nonneg (by omega)]
      clear hq hq2
      omega
    have hb : ((Int.tmod (q : Int) 2) == 1) = poly.getLsbD j := by
      rw [Int.tmod_eq_emod_of_nonneg (by omega), ← hb0]
      clear hq hq2
      rw [Bool.eq_iff_iff]
      simp only [beq_iff_eq]
      omega
    obtain ⟨y, hy, he⟩ := ih k (x.set j ((x.getD j false) != poly.getLsbD j)) (j + 1) (q / 2) (by omega) (by omega) (by rw [List.length_set]; exact hx) hq2 (fun t ht => by
      clear hq hq2
      rw [getD_set _ _ _ _ (by omega)]
      by_cases e : j = t
      · subst e
        rw [if_pos rfl, if_pos (by omega), hrel j ht, if_neg (by omega)]
      · rw [if_neg e, hrel t ht]
        by_cases h : t < j
        · rw [if_pos h, if_pos (by omega)]
        · rw [if_neg h, if_neg (by omega)])
    refine ⟨y, hy, ?_⟩
    clear hq hq2
    simp only [chicaneref03_Sum.l3]
    rw [if_pos (by omega), if_pos (by omega), if_pos (by omega), hn, hb, rdB, wrap_in (by omega) (by omega), show ((j : Int) + 1) = ((j + 1 : Nat) : Int) by omega]
    rw [show (j : Int).toNat = j by omega, he, show k - d - 1 = k + 1 - (d + 1) - 1 by omega]
theorem Sum_l2 (x : List Bool) (R : B) (hR : Rep x R) (bits : List Bool) (i6 : Nat) (odd : Bool) (d : Nat) : ∀ (k : Nat) (y : List Bool) (j : Nat), j + d = 31 → d < k → y.length = 32 →
    (∀ t, t < 32 → y.getD t false = if t < j then R.getLsbD (t + 1) else false) →
    ∃ z, Rep z (R >>> 1) ∧ chicaneref03_Sum.l2 k x bits (i6 : Int) odd y (j : Int) = (if odd = true then chicaneref03_Sum.l3 (k - d - 1) bits (i6 : Int) z 3988292384 0 else chicaneref03_Sum.l1 (k - d - 1) z bits (wrap64 ((i6 : Int) + 1))) := by
  induction d with
  | zero =>
    intro k y j hd hk hy hrel
    obtain ⟨k, rfl⟩ : ∃ m, k = m + 1 := ⟨k - 1, by omega⟩
    refine ⟨y, ⟨hy, fun t ht => ?_⟩, ?_⟩
    · rw [hrel t ht, BitVec.getLsbD_ushiftRight]
      by_cases h : t < j
      · rw [if_pos h, Nat.add_comm]
      · rw [if_neg h, show 1 + t = 32 by omega, BitVec.getLsbD_of_ge _ _ (by omega)]
    · simp only [chicaneref03_Sum.l2]
      rw [if_neg (by omega)]
      rfl
  | succ d ih =>
    intro k y j hd hk hy hrel
    obtain ⟨k, rfl⟩ : ∃ m, k = m + 1 := ⟨k - 1, by omega⟩
    obtain ⟨z, hz, he⟩ := ih k (y.set j (x.getD (j + 1) false)) (j + 1) (by omega) (by omega) (by rw [List.length_set]; exact hy) (fun t ht => by
      rw [getD_set _ _ _ _ (by omega)]
      by_cases e : j = t
      · subst e
        rw [if_pos rfl, if_pos (by omega), hR.2 (j + 1) (by omega)]
      · rw [if_neg e, hrel t ht]
        by_cases h : t < j
        · rw [if_pos h, if_pos (by omega)]
        · rw [if_neg h, if_neg (by omega)])
    refine ⟨z, hz, ?_⟩
    have hx := hR.1
    simp only [chicaneref03_Sum.l2]
    rw [wrap_in (i := (j : Int) + 1) (by omega) (by omega), if_pos (by omega), if_pos (by omega), if_pos (by omega), if_pos (by omega), if_pos (by omega), show ((j : Int) + 1) = ((j + 1 : Nat) : Int) by omega, rdB]
    rw [show (j : Int).toNat = j by omega, he, show k - d - 1 = k + 1 - (d + 1) - 1 by omega]
theorem Sum_l1 (bits : List Bool) (hb : bits.length ≤ 32000) (d : Nat) : ∀ (k : Nat) (x : List Bool) (R : B) (i : Nat), i + d = bits.length → 100 * d + 1 < k → Rep x R →
    ∃ y, ∃ k', k - 100 * d - 2 ≤ k' ∧ Rep y (stepsB (bits.drop i) R) ∧ chicaneref03_Sum.l1 k x bits (i : Int) = chicaneref03_Sum.l4 k' y 0 31 := by
  induction d with
  | zero =>
    intro k x R i hd hk hR
    obtain ⟨k, rfl⟩ : ∃ m, k = m + 1 := ⟨k - 1, by omega⟩
    refine ⟨x, k, by omega, ?_, ?_⟩
    · rw [List.drop_of_length_le (by omega)]; exact hR
    · simp only [chicaneref03_Sum.l1]
      rw [if_neg (by omega)]
  | succ d ih =>
    intro k x R i hd hk hR
    obtain ⟨k, rfl⟩ : ∃ m, k = m + 1 := ⟨k - 1, by omega⟩
    have hcons : bits.drop i = bits.getD i false :: bits.drop (i + 1) := by
      rw [List.drop_eq_getElem_cons (by omega), List.getD_eq_getElem?_getD, List.getElem?_eq_getElem (by omega)]
      rfl
    have hx := hR.1
    obtain ⟨z, hz, he⟩ := Sum_l2 x R hR bits i (x.getD 0 false != bits.getD i false) 31 k (List.replicate 32 false) 0 (by omega) (by omega) (by simp) (fun t ht => by
      rw [if_neg (by omega), List.getD_eq_getElem?_getD, List.getElem?_replicate]
      split <;> rfl)
    have hodd : (x.getD 0 false != bits.getD i false) = (R ^^^ bitB (bits.getD i false)).getLsbD 0 := by
      rw [hR.2 0 (by omega), BitVec.getLsbD_xor]
      cases R.getLsbD 0 <;> cases bits.getD i false <;> decide
    have hsh : (R ^^^ bitB (bits.getD i false)) >>> 1 = R >>> 1 := by
      rw [BitVec.ushiftRight_xor_distrib]
      cases bits.getD i false <;> simp [bitB]
    have e0 : rdOf false x 0 = x.getD 0 false := rdB x 0
    have hstart : chicaneref03_Sum.l1 (k + 1) x bits (i : Int) = chicaneref03_Sum.l2 k x bits (i : Int) (x.getD 0 false != bits.getD i false) (List.replicate 32 false) 0 := by
      simp only [chicaneref03_Sum.l1]
      rw [if_pos (by omega), if_pos (by omega), if_pos (by omega), if_pos (by omega), e0, rdB]
    have he' : chicaneref03_Sum.l1 (k + 1) x bits (i : Int) = _ := hstart.trans he
    rw [hcons]
    cases ho : (x.getD 0 false != bits.getD i false) with
    | true =>
      rw [ho, if_pos rfl] at he'
      obtain ⟨y, hy, he3⟩ := Sum_l3 bits i (by omega) (R >>> 1) 32 (k - 31 - 1) z 0 3988292384 (by omega) (by omega) hz.1 rfl (fun t ht => by rw [if_neg (by omega)]; exact hz.2 t ht)
      have hy' : Rep y (CrcMath.step (R ^^^ bitB (bits.getD i false))) := by
        unfold CrcMath.step
        rw [← hodd, ho, hsh]
        exact hy
      obtain ⟨u, k', hk', hu, he4⟩ := ih (k - 31 - 1 - 32 - 1) y _ (i + 1) (by omega) (by omega) hy'
      refine ⟨u, k', by omega, hu, ?_⟩
      rw [he', ← he4]
      exact he3
    | false =>
      rw [ho, if_neg (by decide), wrap_in (by omega) (by omega), show ((i : Int) + 1) = ((i + 1 : Nat) : Int) by omega] at he'
      have hy' : Rep z (CrcMath.step (R ^^^ bitB (bits.getD i false))) := by
        unfold CrcMath.step
        rw [← hodd, ho, hsh]
        simpa using hz
      obtain ⟨u, k', hk', hu, he4⟩ := ih (k - 31 - 1) z _ (i + 1) (by omega) (by omega) hy'
      exact ⟨u, k', by omega, hu, by rw [he', ← he4]⟩
theorem Sum_l4 (y : List Bool) (R : B) (hR : Rep y R) (d : Nat) : ∀ (k q : Nat), d ≤ 32 → d < k → q = (~~~ R).toNat / 2 ^ d →
    chicaneref03_Sum.l4 k y (q : Int) ((d : Int) - 1) = some ((~~~ R).toNat : Int) := by
  have hM := (~~~ R).isLt
  induction d with
  | zero =>
    intro k q hd hk hq
    obtain ⟨k, rfl⟩ : ∃ m, k = m + 1 := ⟨k - 1, by omega⟩
    simp only [chicaneref03_Sum.l4]
    rw [if_neg (by omega), hq]
    simp
  | succ d ih =>
    intro k q hd hk hq
    obtain ⟨k, rfl⟩ : ∃ m, k = m + 1 := ⟨k - 1, by omega⟩
    have hy := hR.1
    have hbit : y.getD d false = !((~~~ R).toNat.testBit d) := by
      rw [hR.2 d (by omega)]
      have h1 : (~~~ R).getLsbD d = !R.getLsbD d := by rw [BitVec.getLsbD_not]; simp; omega
      have h2 : (~~~ R).getLsbD d = (~~~ R).toNat.testBit d := rfl
      rw [← h2, h1]; simp
    obtain ⟨p, hp⟩ : ∃ p, p = (~~~ R).toNat / 2 ^ d := ⟨_, rfl⟩
    have hpq : q = p / 2 := by rw [hq, hp, Nat.pow_succ, ← Nat.div_div_eq_div_mul]
    have hpb : (~~~ R).toNat.testBit d = decide (p % 2 = 1) := by rw [Nat.testBit_eq_decide_div_mod_eq, hp]
    have hle : p < 4294967296 := by rw [hp]; exact Nat.lt_of_le_of_lt (Nat.div_le_self _ _) hM
    have := ih k p (by omega) (by omega) hp
    rw [hpb] at hbit
    have e1 : (((d + 1 : Nat) : Int) - 1) = (d : Int) := by omega
    clear hq hp hpb
    simp only [chicaneref03_Sum.l4]
    rw [e1, if_pos (by omega), if_pos (by omega), if_pos (by omega), rdB, hbit, wrap_in (by omega) (by omega)]
    by_cases h : p % 2 = 1
    · rw [decide_eq_true h, if_neg (by decide), ← this]
      congr 1
      omega
    · rw [decide_eq_false h, if_pos (by decide), ← this]
      congr 1
      omega
theorem Sum_l0 (s : ByteArray) (d : Nat) : ∀ (k : Nat) (x : List Bool) (j : Nat), j + d = 32 → d < k → x.length = 32 → (∀ t, t < j → x.getD t false = true) →
    ∃ y, Rep y (~~~ 0#32) ∧ chicaneref03_Sum.l0 k s x (j : Int) = (chicaneref03_Bits.f (k - d - 1) s).bind fun t => chicaneref03_Sum.l1 (k - d - 1) y t 0 := by
  induction d with
  | zero =>
    intro k x j hd hk hx hrel
    obtain ⟨k, rfl⟩ : ∃ m, k = m + 1 := ⟨k - 1, by omega⟩
    refine ⟨x, ⟨hx, fun t ht => ?_⟩, ?_⟩
    · rw [hrel t (by omega), BitVec.getLsbD_not]
      simp [ht]
    · simp only [chicaneref03_Sum.l0]
      rw [if_neg (by omega)]
      rfl
  | succ d ih =>
    intro k x j hd hk hx hrel
    obtain ⟨k, rfl⟩ : ∃ m, k = m + 1 := ⟨k - 1, by omega⟩
    obtain ⟨y, hy, he⟩ := ih k (x.set j true) (j + 1) (by omega) (by omega) (by rw [List.length_set]; exact hx) (fun t ht => by
      rw [getD_set _ _ _ _ (by omega)]
      by_cases e : j = t
      · rw [if_pos e]
      · rw [if_neg e]; exact hrel t (by omega))
    refine ⟨y, hy, ?_⟩
    simp only [chicaneref03_Sum.l0]
    rw [if_pos (by omega), if_pos (by omega), if_pos (by omega), wrap_in (by omega) (by omega), show ((j : Int) + 1) = ((j + 1 : Nat) : Int) by omega]
    rw [show (j : Int).toNat = j by omega, he, show k - d - 1 = k + 1 - (d + 1) - 1 by omega]
theorem RefSum_f (l : List Int) (hw : Wf l) (hl : l.length ≤ 4000) (k : Nat) (hk : 900 * l.length + 200 < k) : chicaneref03_Sum.f k (strOfNums l) = some (Hand.sum l) := by
  unfold chicaneref03_Sum.f
  rw [if_pos (by omega)]
  obtain ⟨y, hy, he⟩ := Sum_l0 (strOfNums l) 32 k (List.replicate 32 false) 0 (by omega) (by omega) (by simp) (fun t ht => by omega)
  have e0 : ((0 : Nat) : Int) = 0 := rfl
  rw [e0] at he
  rw [he, Bits_f l hw hl _ (by omega)]
  rw [Option.bind_some]
  obtain ⟨z, k', hk', hz, he2⟩ := Sum_l1 (bitsOf l) (by rw [bitsOf_len]; omega) (8 * l.length) (k - 32 - 1) y _ 0 (by rw [bitsOf_len]; omega) (by omega) hy
  rw [e0] at he2
  rw [he2]
  rw [List.drop_zero, stepsB_bytes l hw] at hz
  have hM := (~~~ raw (~~~ 0#32) l).isLt
  exact Sum_l4 z _ hz 32 k' 0 (by omega) (by omega) (Nat.div_eq_of_lt hM).symm
theorem num_f : ∀ (j k : Nat) (n : Int), 0 ≤ n → n < 128 ^ (j + 1) → j ≤ 8 → j < k → chicaneref04_Num.f k n = some (strOfNums (numL j n))
  | 0, k, n, h0, h1, hj, hk => by
    obtain ⟨k, rfl⟩ : ∃ m, k = m + 1 := ⟨k - 1, by omega⟩
    have h1' : n < 128 := h1
    rw [chicaneref04_Num.f, if_neg (by omega), if_pos h1', show n % 256 = n by omega]
    rfl
  | j + 1, k, n, h0, h1, hj, hk => by
    obtain ⟨k, rfl⟩ : ∃ m, k = m + 1 := ⟨k - 1, by omega⟩
    have hp : (128 : Int) ^ (j + 1 + 1) = 128 ^ (j + 1) * 128 := Int.pow_succ ..
    have hb : (128 : Int) ^ (j + 1 + 1) ≤ 128 ^ 9 := pow_le (by omega)
    have hb' : (128 : Int) ^ 9 = 9223372036854775808 := by decide
    rw [chicaneref04_Num.f, if_neg (by omega)]
    unfold numL
    by_cases hn : n < 128
    · rw [if_pos hn, if_pos hn, show n % 256 = n by omega]
    · rw [if_neg hn, if_neg hn, Int.tmod_eq_emod_of_nonneg h0, Int.tdiv_eq_ediv_of_nonneg h0, wrap_of (n := n % 128 + 128) (by omega) (by omega), wrap_of (n := n / 128) (by omega) (by omega), show (n % 128 + 128) % 256 = n % 128 + 128 by omega]
      rw [num_f j k (n / 128) (by omega) (by rw [hp] at h1; omega) (by omega) (by omega)]
      simp only [Option.bind_some]
      have := (numL_len j (n / 128)).2
      rw [if_pos (by rw [strOfNums_size, strOfNums_size]; simp; omega), ← strOf_append]
      rfl
/-- The document's number. -/
theorem Num_is (n : Int) (h1 : n < 9223372036854775808) : chicaneref04_Num.f 20 n = some (strOfNums (num n)) := by
  have hb' : (128 : Int) ^ 9 = 9223372036854775808 := by decide
  unfold num
  by_cases h : n < 0
  · rw [chicaneref04_Num.f, if_pos h, if_pos h]; rfl
  · rw [if_neg h]
    exact num_f 8 20 n (by omega) (by rw [hb']; exact h1) (by omega) (by omega)
theorem Num_more {k : Nat} {n : Int} {r : ByteArray} (h : chicaneref04_Num.f k n = some r) : ∀ d, chicaneref04_Num.f (k + d) n = some r
  | 0 => h
  | d + 1 => chicaneref04_Num.mono n (k + d) r (Num_more h d)
theorem low_f : ∀ (d : Nat) (k : Nat) (n i m : Int) (x : List Int), i + d = m → 0 ≤ i → m ≤ 100 → 0 ≤ n → n < 18446744073709551616 → d < k → x.length + d ≤ 1000000 → chicaneref21_low.l0 k n m (strOfNums x) i = some (strOfNums (x ++ low d n))
  | 0, k, n, i, m, x, h, h0, hm, hn, hn1, hk, hx => by
    obtain ⟨k, rfl⟩ : ∃ q, k = q + 1 := ⟨k - 1, by omega⟩
    rw [chicaneref21_low.l0, if_neg (by omega), low, List.append_nil]
  | d + 1, k, n, i, m, x, h, h0, hm, hn, hn1, hk, hx => by
    obtain ⟨k, rfl⟩ : ∃ q, k = q + 1 := ⟨k - 1, by omega⟩
    rw [chicaneref21_low.l0, if_pos (by omega)]
    simp only [Option.bind_some]
    have hw : IntKind.u64.wrap (Int.tdiv n 256) = n / 256 := by
      rw [IntKind.wrap_u64, Int.tdiv_eq_ediv_of_nonneg hn]
      omega
    have e : Int.tmod n 256 % 256 = n % 256 := by
      rw [Int.tmod_eq_emod_of_nonneg hn]
      omega
    rw [if_pos (by rw [strOfNums_size, strOfNums_size]; simp; omega), hw, e, ← strOf_append, wrap_of (n := i + 1) (by omega) (by omega), low_f d k (n / 256) (i + 1) m (x ++ [n % 256]) (by omega) (by omega) hm (by omega) (by omega) (by omega) (by simp; omega), low, List.append_assoc]
    rfl
theorem lowRef (k d : Nat) (n : Int) (hn : 0 ≤ n) (hn1 : n < 18446744073709551616) (hk : d < k) (hd : d ≤ 100) : chicaneref21_low.f k n (d : Int) = some (strOfNums (low d n)) := by
  have h := low_f d k n 0 d [] (by omega) (by omega) (by omega) hn hn1 hk (by simp; omega)
  exact h
theorem tailRef (n : Int) (h0 : 0 ≤ n) (h1 : n < 4294967296) : chicaneref03_Tail.f n = some (strOfNums (tailOf n)) := by
  unfold chicaneref03_Tail.f tailOf
  rw [Int.tmod_eq_emod_of_nonneg h0, Int.tdiv_eq_ediv_of_nonneg h0, Int.tdiv_eq_ediv_of_nonneg h0, Int.tdiv_eq_ediv_of_nonneg h0]
  congr 3
  · omega
  · congr 1
    · omega
    · congr 1
      · omega
      · congr 1
        omega
theorem sealRef (k : Nat) (l : List Int) (hw : Wf l) (hl : l.length ≤ 4000) (hk : 900 * l.length + 200 < k) : chicaneref03_Seal.f k (strOfNums l) = some (strOfNums (sealP l)) := by
  have hs := (sumB l).isLt
  unfold chicaneref03_Seal.f
  rw [RefSum_f l hw hl k hk]
  simp only [Option.bind_some]
  rw [tailRef (Hand.sum l) (by unfold Hand.sum; omega) (by unfold Hand.sum; omega)]
  simp only [Option.bind_some]
  rw [if_pos (by rw [strOfNums_size, strOfNums_size, tailOf_len]; omega), ← strOf_append]
  rfl
theorem frameRef (k : Nat) (l : List Int) (hw : Wf l) (hl : l.length ≤ 4000) (hk : 5000000 ≤ k) : chicaneref21_frame.f k (strOfNums l) = some (strOfNums (frameP l)) := by
  unfold chicaneref21_frame.f
  have hz : IntKind.u64.wrap (((strOfNums l).size : Nat) : Int) = (l.length : Int) := by
    rw [strOfNums_size, IntKind.wrap_u64]
    omega
  have h4 := lowRef k 4 (l.length : Int) (by omega) (by omega) (by omega) (by omega)
  have e4 : ((4 : Nat) : Int) = 4 := rfl
  rw [e4] at h4
  rw [hz, h4]
  simp only [Option.bind_some]
  rw [sealRef k _ (low_wf 4 _) (by rw [low_len]; omega) (by rw [low_len]; omega)]
  simp only [Option.bind_some]
  rw [sealRef k l hw hl (by omega)]
  simp only [Option.bind_some]
  rw [if_pos (by rw [strOfNums_size, strOfNums_size, sealP_len, sealP_len, low_len]; omega), ← strOf_append]
  rfl
theorem numRef {k : Nat} (n : Int) (h1 : n < 9223372036854775808) (hk : 20 ≤ k) : chicaneref04_Num.f k n = some (strOfNums (num n)) := by
  have := Num_more (Num_is n h1) (k - 20)
  rw [show 20 + (k - 20) = k by omega] at this
  exact this
theorem headRef (k : Nat) (s r d : Int) (hh : HeadOk s r d) (hk : 5000000 ≤ k) : chicaneref21_Head.f k s r d = some (strOfNums (headP s r d)) := by
  have h8 := lowRef k 8 s hh.1.1 hh.1.2 (by omega) (by omega)
  have h4 := lowRef k 4 d hh.2.2.1 (by have := hh.2.2.2; omega) (by omega) (by omega)
  have e8 : ((8 : Nat) : Int) = 8 := rfl
  have e4 : ((4 : Nat) : Int) = 4 := rfl
  rw [e8] at h8
  rw [e4] at h4
  have hw : IntKind.u64.wrap d = d := by
    have := hh.2.2
    rw [IntKind.wrap_u64]
    omega
  have hn := num_len r
  have hrr := hh.2.1
  unfold chicaneref21_Head.f
  simp only [Option.bind_some]
  rw [h8]
  simp only [Option.bind_some]
  rw [if_pos (by rw [strOfNums_size, strOfNums_size, low_len]; simp), numRef r (by omega) (by omega)]
  simp only [Option.bind_some]
  rw [← strOf_append, if_pos (by rw [strOfNums_size, strOfNums_size, List.length_append, low_len]; simp; omega), hw, h4]
  simp only [Option.bind_some]
  rw [← strOf_append, if_pos (by rw [strOfNums_size, strOfNums_size, List.length_append, List.length_append, low_len, low_len]; simp; omega), ← strOf_append]
  rfl
theorem strRef {k : Nat} (s : ByteArray) (hs : s.size ≤ 65536) (hk : 20 ≤ k) : chicaneref04_Str.f k s = some (strOfNums (num (s.size : Int) ++ bs s)) := by
  have hn := num_len (s.size : Int)
  unfold chicaneref04_Str.f
  rw [numRef _ (by omega) hk]
  simp only [Option.bind_some]
  rw [if_pos (by rw [strOfNums_size]; omega), strOf_append, str_bs]
theorem bytesRef (k : Nat) (r : S39) (h : rightP r = true) (hk : 5000000 ≤ k) : chicaneref21_bytes.f k r.f0 r.f1 r.f2 r.f3 r.f4 r.f5 r.f6 = some (strOfNums (bytesP r)) := by
  have hq := fun i hi => right_num h i hi
  have n1 := hq 0 (by omega)
  have n2 := hq 1 (by omega)
  have n3 := hq 2 (by omega)
  have n4 := hq 3 (by omega)
  have n5 := hq 4 (by omega)
  have hs := right_size h
  have n1' : r.f1 ≤ 2199023255552 := n1.2
  have n2' : r.f2 ≤ 2199023255552 := n2.2
  have n3' : r.f3 ≤ 2199023255552 := n3.2
  have n4' : r.f4 ≤ 2199023255552 := n4.2
  have n5' : r.f5 ≤ 2199023255552 := n5.2
  have l1 := num_len r.f1
  have l2 := num_len r.f2
  have l3 := num_len r.f3
  have l4 := num_len r.f4
  have l5 := num_len r.f5
  have l6 := num_len (r.f6.size : Int)
  have l7 := bs_len r.f6
  unfold chicaneref21_bytes.f
  simp only [Option.bind_some]
  rw [numRef r.f1 (by omega) (by omega)]
  simp only [Option.bind_some]
  rw [if_pos (by simp only [strOfNums_size, List.length_cons, List.length_nil]; omega), numRef r.f2 (by omega) (by omega), ← strOf_append]
  simp only [Option.bind_some]
  rw [if_pos (by simp only [strOfNums_size, List.length_append, List.length_cons, List.length_nil]; omega), numRef r.f3 (by omega) (by omega), ← strOf_append]
  simp only [Option.bind_some]
  rw [if_pos (by simp only [strOfNums_size, List.length_append, List.length_cons, List.length_nil]; omega), numRef r.f4 (by omega) (by omega), ← strOf_append]
  simp only [Option.bind_some]
  rw [if_pos (by simp only [strOfNums_size, List.length_append, List.length_cons, List.length_nil]; omega), numRef r.f5 (by omega) (by omega), ← strOf_append]
  simp only [Option.bind_some]
  rw [if_pos (by simp only [strOfNums_size, List.length_append, List.length_cons, List.length_nil]; omega), strRef r.f6 hs (by omega), ← strOf_append]
  simp only [Option.bind_some]
  rw [if_pos (by simp only [strOfNums_size, List.length_append, List.length_cons, List.length_nil]; omega), ← strOf_append]
  simp only [bytesP, fld, numsP, List.append_nil, List.append_assoc, List.cons_append, List.nil_append]
theorem isRef (n : Int) : chicaneref21_is.f n = some (inNum n) := by
  unfold chicaneref21_is.f chicaneref21_top.f inNum
  by_cases h : n ≥ 0
  · rw [if_pos h]
    simp only [Option.bind_some]
    congr 1
    by_cases h2 : n ≤ 2199023255552
    · rw [decide_eq_true h2, decide_eq_true ⟨h, h2⟩]
    · rw [decide_eq_false h2, decide_eq_false (fun e => h2 e.2)]
  · rw [if_neg h, decide_eq_false (fun e => h e.1)]
theorem rightRef (k : Nat) (r : S39) : chicaneref21_Right.f (k + 1) r.f0 r.f1 r.f2 r.f3 r.f4 r.f5 r.f6 = some (rightP r) := by
  have hj : ∀ b : Bool, chicaneref21_Right.j0 (k + 1) b r.f0 r.f1 r.f2 r.f3 r.f4 r.f5 r.f6 = some (b && ((fld r).all inNum && decide (r.f6.size ≤ 65536))) := by
    intro b
    rw [chicaneref21_Right.j0]
    cases b with
    | false => rfl
    | true =>
      rw [if_pos rfl, isRef, isRef, isRef, isRef, isRef]
      simp only [Option.bind_some, fld, List.all_cons, List.all_nil, Bool.and_true, Bool.true_and]
      cases inNum r.f1 <;> cases inNum r.f2 <;> cases inNum r.f3 <;> cases inNum r.f4 <;> cases inNum r.f5 <;> simp
      omega
  have hr : rightP r = ((decide (1 ≤ r.f0 ∧ r.f0 ≤ 6) || decide (11 ≤ r.f0 ∧ r.f0 ≤ 14)) && ((fld r).all inNum && decide (r.f6.size ≤ 65536))) := by
    unfold rightP
    rw [Bool.and_comm ((fld r).all inNum), Bool.and_assoc]
  unfold chicaneref21_Right.f
  rw [hr]
  simp only [hj]
  by_cases h1 : r.f0 ≥ 1
  · rw [if_pos h1]
    by_cases h6 : r.f0 ≤ 6
    · rw [if_pos h6, decide_eq_true (show 1 ≤ r.f0 ∧ r.f0 ≤ 6 from ⟨h1, h6⟩), Bool.true_or]
    · rw [if_neg h6, decide_eq_false (fun e : 1 ≤ r.f0 ∧ r.f0 ≤ 6 => h6 e.2), Bool.false_or]
      by_cases h11 : r.f0 ≥ 11
      · rw [if_pos h11]
        have e : decide (r.f0 ≤ 14) = decide (11 ≤ r.f0 ∧ r.f0 ≤ 14) := by
          by_cases h14 : r.f0 ≤ 14
          · rw [decide_eq_true h14, decide_eq_true (show 11 ≤ r.f0 ∧ r.f0 ≤ 14 from ⟨h11, h14⟩)]
          · rw [decide_eq_false h14, decide_eq_false (fun e : 11 ≤ r.f0 ∧ r.f0 ≤ 14 => h14 e.2)]
        rw [e]
      · rw [if_neg h11, decide_eq_false (fun e : 11 ≤ r.f0 ∧ r.f0 ≤ 14 => h11 e.1)]
  · rw [if_neg h1, decide_eq_false (fun e : 1 ≤ r.f0 ∧ r.f0 ≤ 6 => h1 e.1), Bool.false_or]
    by_cases h11 : r.f0 ≥ 11
    · omega
    · rw [if_neg h11, decide_eq_false (fun e : 11 ≤ r.f0 ∧ r.f0 ≤ 14 => h11 e.1)]
/-- What the document's Encode tells. -/
def encR (s r d : Int) (l : List S39) : ByteArray × Int := if fitP r l = true ∧ (encP s r d l).length ≤ 1048576 then (strOfNums (encP s r d l), 0) else (⟨#[]⟩, 1)
/-- Few and small: as the laws ask. -/
def FewOk (l : List S39) : Prop := l.length ≤ 30 ∧ ∀ r ∈ l, r.f6.size ≤ 2000
theorem few_bytes {l : List S39} (hf : FewOk l) {r : S39} (hr : r ∈ l) (h : rightP r = true) : (bytesP r).length ≤ 2064 := by
  have h1 := numsP_len (fld r)
  have h2 := num_len (r.f6.size : Int)
  have h3 := hf.2 r hr
  have h4 : (fld r).length = 5 := rfl
  simp only [bytesP, List.length_cons, List.length_append, bs_len]
  omega
theorem few_frames : ∀ {l : List S39}, (∀ r ∈ l, (bytesP r).length ≤ 2064) → (framesP l).length ≤ 2076 * l.length
  | [], _ => by simp [framesP]
  | r :: l, h => by
    have h1 := h r (List.mem_cons_self ..)
    have h2 := few_frames (fun x hx => h x (List.mem_cons_of_mem _ hx) : ∀ x ∈ l, (bytesP x).length ≤ 2064)
    have : (framesP (r :: l)).length = (frameP (bytesP r)).length + (framesP l).length := List.length_append ..
    rw [frameP_len] at this
    rw [List.length_cons]
    omega
theorem few_enc {s r d : Int} {l : List S39} (hf : FewOk l) (hr : l.all rightP = true) : (encP s r d l).length ≤ 70000 := by
  have h1 := few_frames (fun x hx => few_bytes hf hx (List.all_eq_true.1 hr x hx) : ∀ x ∈ l, (bytesP x).length ≤ 2064)
  have h2 := num_len r
  have h3 := num_len (l.length : Int)
  have h4 := hf.1
  have h5 := headP_len s r d
  unfold encP partP
  rw [List.length_append, List.length_append, frameP_len, frameP_len, List.length_append]
  simp
  omega
theorem lastRef (k n : Nat) (hn : n ≤ 4096) (hk : 5000000 ≤ k) : (chicaneref04_Num.f k (n : Int)).bind (fun t => if (strOfNums [0]).size + t.size ≤ 9223372036854775807 then chicaneref21_frame.f k (strOfNums [0] ++ t) else none) = some (strOfNums (frameP (lastP n))) := by
  have hl := num_len (n : Int)
  rw [numRef _ (by omega) (by omega)]
  simp only [Option.bind_some]
  rw [if_pos (by simp only [strOfNums_size, List.length_cons, List.length_nil]; omega), ← strOf_append]
  exact frameRef k _ (lastP_wf n hn) (by simp only [List.length_append, List.length_cons, List.length_nil]; omega) hk
theorem enc_l0 (l : List S39) (hf : FewOk l) : ∀ (d k i : Nat) (x : List Int), i + d = l.length → d + 5000001 ≤ k → x.length ≤ 100 + 2076 * i →
    chicaneref21_Encode.l0 k l (strOfNums x) (i : Int) = some (if (l.drop i).all rightP = true then (if (x ++ framesP (l.drop i) ++ frameP (lastP l.length)).length ≤ 1048576 then (strOfNums (x ++ framesP (l.drop i) ++ frameP (lastP l.length)), 0) else (⟨#[]⟩, 1)) else (⟨#[]⟩, 1))
  | 0, k, i, x, hd, hk, hx => by
    obtain ⟨k, rfl⟩ : ∃ q, k = q + 1 := ⟨k - 1, by omega⟩
    have h30 := hf.1
    have hla := lastRef k l.length (by omega) (by omega)
    have hll := num_len (l.length : Int)
    have hfl : (frameP (lastP l.length)).length ≤ 30 := by
      rw [frameP_len]
      simp only [lastP, List.length_append, List.length_cons, List.length_nil]
      omega
    rw [List.drop_of_length_le (by omega)]
    rw [numRef _ (by omega) (by omega)] at hla
    simp only [Option.bind_some] at hla
    rw [if_pos (by simp only [strOfNums_size, List.length_cons, List.length_nil]; omega)] at hla
    rw [chicaneref21_Encode.l0, if_neg (by omega)]
    simp only [Option.bind_some]
    rw [numRef _ (by omega) (by omega)]
    simp only [Option.bind_some]
    rw [if_pos (by simp only [strOfNums_size, List.length_cons, List.length_nil]; omega), hla]
    simp only [Option.bind_some]
    rw [if_pos (by simp only [strOfNums_size]; omega), ← strOf_append]
    rw [if_neg (by rw [strOfNums_size, List.length_append]; omega)]
    simp only [List.all_nil, if_true, framesP, List.append_nil]
    rw [if_pos (by rw [List.length_append]; omega)]
  | d + 1, k, i, x, hd, hk, hx => by
    obtain ⟨k, rfl⟩ : ∃ q, k = q + 1 := ⟨k - 1, by omega⟩
    have h30 := hf.1
    have hlt : i < l.length := by omega
    have hdr : l.drop i = l[i] :: l.drop (i + 1) := List.drop_eq_getElem_cons hlt
    have hmem : l[i] ∈ l := List.getElem_mem hlt
    obtain ⟨r, hr⟩ : ∃ r, l[i] = r := ⟨_, rfl⟩
    rw [hr] at hdr hmem
    rw [chicaneref21_Encode.l0, if_pos (by omega), if_pos (by omega), rd39_at l i hlt, hr]
    obtain ⟨k, rfl⟩ : ∃ q, k = q + 1 := ⟨k - 1, by omega⟩
    rw [rightRef]
    simp only [Option.bind_some]
    rw [hdr]
    cases hq : rightP r with
    | false => simp [hq]
    | true =>
      have hb := few_bytes hf hmem hq
      rw [if_pos rfl, bytesRef _ r hq (by omega)]
      simp only [Option.bind_some]
      rw [frameRef _ _ (bytesP_wf hq) (by omega) (by omega)]
      simp only [Option.bind_some]
      rw [if_pos (by simp only [strOfNums_size, frameP_len]; omega), ← strOf_append, wrap_of (n := (i : Int) + 1) (by omega) (by omega), show (i : Int) + 1 = ((i + 1 : Nat) : Int) by omega]
      rw [enc_l0 l hf d (k + 1) (i + 1) (x ++ frameP (bytesP r)) (by omega) (by omega) (by rw [List.length_append, frameP_len]; omega)]
      simp only [List.all_cons, hq, Bool.true_and]
      have e : x ++ frameP (bytesP r) ++ framesP (l.drop (i + 1)) = x ++ framesP (r :: l.drop (i + 1)) := by
        rw [List.append_assoc]
        rfl
      rw [e]
/-- The document's Encode. -/
theorem encRef (s r d : Int) (l : List S39) (hh : (0 ≤ s ∧ s < 18446744073709551616) ∧ (0 ≤ d ∧ d < 4294967296)) (hf : FewOk l) : chicaneref21_Encode.f 5000100 s r d l = some (encR s r d l) := by
  have h30 := hf.1
  unfold chicaneref21_Encode.f
  rw [isRef]
  simp only [Option.bind_some]
  have h4 : decide ((l.length : Int) > 4096) = false := decide_eq_false (by omega)
  have hfit : fitP r l = (inNum r && l.all rightP) := by
    unfold fitP
    rw [decide_eq_true (show l.length ≤ 4096 by omega), Bool.and_true]
  unfold encR
  rw [hfit]
  cases hin : inNum r with
  | false =>
    rw [if_neg (by decide), chicaneref21_Encode.j0, if_pos rfl, if_neg (by simp)]
  | true =>
    have hrr := of_decide_eq_true hin
    rw [if_pos rfl, chicaneref21_Encode.j0, h4, if_neg (by decide), headRef _ s r d ⟨hh.1, hrr, hh.2⟩ (by omega)]
    simp only [Option.bind_some]
    have hhl := headP_len s r d
    have hnl := num_len r
    rw [frameRef _ _ (headP_wf ⟨hh.1, hrr, hh.2⟩) (by omega) (by omega)]
    simp only [Option.bind_some]
    have hl0 := enc_l0 l hf l.length 5000099 0 (frameP (headP s r d)) (by omega) (by omega) (by rw [frameP_len]; omega)
    have e0 : ((0 : Nat) : Int) = 0 := rfl
    rw [e0, List.drop_zero] at hl0
    rw [hl0]
    have e : frameP (headP s r d) ++ framesP l ++ frameP (lastP l.length) = encP s r d l := by
      unfold encP partP lastP
      rfl
    rw [e]
    congr 1
    cases hall : l.all rightP with
    | false => simp
    | true =>
      rw [if_pos rfl]
      by_cases hle : (encP s r d l).length ≤ 1048576
      · rw [if_pos hle, if_pos ⟨rfl, hle⟩]
      · rw [if_neg hle, if_neg (fun e => hle e.2)]
end Go.Proofs.Ytmklmpajcomimaa.Hand
end
