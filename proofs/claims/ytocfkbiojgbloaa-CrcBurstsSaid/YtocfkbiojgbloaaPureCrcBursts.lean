/- The plain statement of the law CrcBursts: for every input that may come in, with enough rounds, the law's function tells true. No further condition. -/
import Derived.Test.YtocfkbiojgbloaaPCrcBurstsx3
import Derived.Test.YtocfkbiojgbloaaCrcLink
import Derived.Lib.Bytes
namespace Go.Proofs.Ytocfkbiojgbloaa.Pure
open Go Go.RowKit Go.Proofs.Ytocfkbiojgbloaa.PCrcBursts Go.Proofs.YtocfkbiojgbloaaW.PrintWords Go.Proofs.YtocfkbiojgbloaaW.PrintLast Go.Proofs.Ytocfkbiojgbloaa.Hand Go.Proofs.Ytocfkbiojgbloaa.CrcMath
set_option linter.unusedVariables false
set_option linter.unusedSimpArgs false
theorem wrap_in {i : Int} (h0 : -9223372036854775808 ≤ i) (h1 : i ≤ 9223372036854775807) : wrap64 i = i := by
  unfold wrap64
  omega
theorem rd_cons (l : List Int) (i : Nat) (h : i < l.length) : l.drop i = rd l i :: l.drop (i + 1) := by
  rw [List.drop_eq_getElem_cons h]
  simp [rd, h]
theorem More_l0 (l : List Int) (hl : l.length ≤ 9000000000000000000) (d : Nat) : ∀ (k : Nat) (x : B) (i : Nat), l.length - i = d → i ≤ l.length → d < k →
    crc_More.l0 k (x.toNat : Int) l (l.length : Int) (i : Int) = some ((~~~ raw x (l.drop i)).toNat : Int) := by
  induction d with
  | zero =>
    intro k x i hd hi hk
    obtain ⟨k, rfl⟩ : ∃ m, k = m + 1 := ⟨k - 1, by omega⟩
    simp only [crc_More.l0]
    rw [if_neg (by omega), compl_eq, List.drop_of_length_le (by omega)]
    rfl
  | succ d ih =>
    intro k x i hd hi hk
    obtain ⟨k, rfl⟩ : ∃ m, k = m + 1 := ⟨k - 1, by omega⟩
    simp only [crc_More.l0, crc_one.f]
    rw [if_pos (by omega), if_pos (by omega), if_pos (by omega)]
    simp only [Option.bind_some]
    rw [one_eq, wrap_in (by omega) (by omega), show ((i : Int) + 1) = ((i + 1 : Nat) : Int) by omega, ih k _ (i + 1) (by omega) (by omega) (by omega), rd_cons l i (by omega)]
    rfl
theorem More_f (l : List Int) (hl : l.length ≤ 9000000000000000000) (k : Nat) (hk : l.length < k) (a : B) : crc_More.f k (a.toNat : Int) l = some ((~~~ raw (~~~ a) l).toNat : Int) := by
  unfold crc_More.f
  rw [compl_eq]
  have := More_l0 l hl l.length k (~~~ a) 0 (by omega) (by omega) hk
  simpa using this
theorem Sum_f (l : List Int) (hl : l.length ≤ 9000000000000000000) (k : Nat) (hk : l.length < k) : crc_Sum.f k l = some (Hand.sum l) := by
  unfold crc_Sum.f
  have := More_f l hl k hk 0#32
  have e : ((BitVec.toNat 0#32 : Nat) : Int) = 0 := rfl
  rw [e] at this
  rw [this]
  rfl
theorem tail_f (n : Int) : crc_tail.f n = some (tailOf n) := rfl
theorem Seal_f (l : List Int) (hl : l.length + 4 < 140737488355328) (k : Nat) (hk : l.length < k) : crc_Seal.f k l = some (l ++ tailOf (Hand.sum l)) := by
  unfold crc_Seal.f crc_clone.f
  rw [if_pos (by omega), Sum_f l (by omega) k hk]
  simp only [Option.bind_some, crc_tail.f]
  rw [if_pos (by simp; omega)]
  rfl
theorem wf_take {l : List Int} (h : Wf l) (n : Nat) : Wf (l.take n) := fun x hx => h x (List.mem_of_mem_take hx)
theorem wf_drop {l : List Int} (h : Wf l) (n : Nat) : Wf (l.drop n) := fun x hx => h x (List.mem_of_mem_drop hx)
theorem four_of {l : List Int} (h : l.length = 4) : ∃ a b c d, l = [a, b, c, d] := by
  match l, h with
  | [a, b, c, d], _ => exact ⟨a, b, c, d, rfl⟩
theorem Open_short (l : List Int) (hl : l.length < 4) (k : Nat) : crc_Open.f k l = some ([], false) := by
  unfold crc_Open.f
  rw [wrap_in (by omega) (by omega), if_pos (by omega)]
theorem bytesEq (l m : List Int) (hl : Wf l) (hm : Wf m) : ((strOfNums l).toList == (strOfNums m).toList) = decide (l = m) := by
  rw [Bool.eq_iff_iff]
  simp only [beq_iff_eq, decide_eq_true_eq]
  rw [Lib.strOfNums_toList, Lib.strOfNums_toList]
  exact ⟨fun h => str_eq hl hm h, fun h => by rw [h]⟩
theorem Open_f (l : List Int) (hl : 4 ≤ l.length) (hl2 : l.length < 140737488355328) (hw : Wf l) (k : Nat) (hk : l.length < k) :
    crc_Open.f k l = some (if raw (~~~ 0#32) l = residue then (l.take (l.length - 4), true) else ([], false)) := by
  unfold crc_Open.f
  rw [wrap_in (by omega) (by omega), if_neg (by omega), if_pos (by omega), if_pos (by omega)]
  rw [show ((l.length : Int) - 4).toNat = l.length - 4 by omega]
  rw [Sum_f _ (by rw [List.length_take]; omega) k (by rw [List.length_take]; omega)]
  simp only [Option.bind_some]
  rw [tail_f]
  simp only [Option.bind_some, bytes_Equal.f]
  obtain ⟨a, b, c, d, h4⟩ := four_of (l := l.drop (l.length - 4)) (by rw [List.length_drop]; omega)
  have hsplit : l = l.take (l.length - 4) ++ [a, b, c, d] := by rw [← h4, List.take_append_drop]
  have hw4 : Wf [a, b, c, d] := by rw [← h4]; exact wf_drop hw _
  have hiff := sealed_iff (l.take (l.length - 4)) a b c d hw4
  rw [← hsplit] at hiff
  rw [h4]
  rw [bytesEq _ _ hw4 (show Wf (tailOf (Hand.sum (l.take (l.length - 4)))) from tail_wf _)]
  by_cases hr : raw (~~~ 0#32) l = residue
  · rw [if_pos hr, if_pos (decide_eq_true (hiff.1 hr))]
    unfold crc_clone.f
    rw [if_pos (by rw [List.length_take]; omega)]
    rfl
  · rw [if_neg hr, if_neg (by simp only [decide_eq_true_eq]; exact fun h => hr (hiff.2 h))]
theorem seal_wf {l : List Int} (h : Wf l) : Wf (l ++ tailOf (Hand.sum l)) := by
  intro x hx
  rcases List.mem_append.1 hx with h1 | h1
  · exact h x h1
  · exact tail_wf _ x h1
theorem alive_f (k : Nat) : chicanelaw03_alive.f k = some true := rfl
theorem bits_u8 (x y : Int) : BitVec.ofInt 32 (Go.bits .xor .u8 x y) = (BitVec.ofInt 8 x ^^^ BitVec.ofInt 8 y).setWidth 32 := by
  simp only [Go.bits, IntKind.wrap_u8]
  have := (BitVec.ofInt 8 x ^^^ BitVec.ofInt 8 y).isLt
  have e : (((BitVec.ofInt 8 x ^^^ BitVec.ofInt 8 y).toNat : Nat) : Int) % 256 = (((BitVec.ofInt 8 x ^^^ BitVec.ofInt 8 y).toNat : Nat) : Int) := by omega
  show BitVec.ofInt 32 ((((BitVec.ofInt 8 x ^^^ BitVec.ofInt 8 y).toNat : Nat) : Int) % 256) = _
  rw [e, BitVec.ofInt_natCast, BitVec.ofNat_toNat]
theorem wide8 {x : Int} (h : 0 ≤ x ∧ x ≤ 255) : (BitVec.ofInt 8 x).setWidth 32 = BitVec.ofInt 32 x := by
  obtain ⟨n, rfl⟩ := Int.eq_ofNat_of_zero_le h.1
  rw [BitVec.ofInt_natCast, BitVec.ofInt_natCast]
  apply BitVec.eq_of_toNat_eq
  rw [BitVec.toNat_setWidth, BitVec.toNat_ofNat, BitVec.toNat_ofNat]
  omega
theorem bits_u8' {x y : Int} (hx : 0 ≤ x ∧ x ≤ 255) (hy : 0 ≤ y ∧ y ≤ 255) : BitVec.ofInt 32 (Go.bits .xor .u8 x y) = BitVec.ofInt 32 x ^^^ BitVec.ofInt 32 y := by
  rw [bits_u8, BitVec.setWidth_xor, wide8 hx, wide8 hy]
theorem wf_getD {l : List Int} (h : Wf l) (i : Nat) : 0 ≤ l.getD i 0 ∧ l.getD i 0 ≤ 255 := by
  by_cases hi : i < l.length
  · have : l.getD i 0 ∈ l := by rw [List.getD_eq_getElem?_getD, List.getElem?_eq_getElem hi]; exact List.getElem_mem hi
    exact h _ this
  · rw [List.getD_eq_getElem?_getD, List.getElem?_eq_none (by omega)]; simp
theorem shl_u8 (j : Nat) (hj : j ≤ 7) : shl .u8 1 (j : Int) = ((2 ^ j : Nat) : Int) := by
  have : j = 0 ∨ j = 1 ∨ j = 2 ∨ j = 3 ∨ j = 4 ∨ j = 5 ∨ j = 6 ∨ j = 7 := by omega
  rcases this with rfl | rfl | rfl | rfl | rfl | rfl | rfl | rfl <;> decide
theorem ofInt_pow (j : Nat) (hj : j ≤ 7) : BitVec.ofInt 32 ((2 ^ j : Nat) : Int) = 1#32 <<< j := by
  have : j = 0 ∨ j = 1 ∨ j = 2 ∨ j = 3 ∨ j = 4 ∨ j = 5 ∨ j = 6 ∨ j = 7 := by omega
  rcases this with rfl | rfl | rfl | rfl | rfl | rfl | rfl | rfl <;> decide
theorem pow_range (j : Nat) (hj : j ≤ 7) : 0 ≤ ((2 ^ j : Nat) : Int) ∧ ((2 ^ j : Nat) : Int) ≤ 255 := by
  have : j = 0 ∨ j = 1 ∨ j = 2 ∨ j = 3 ∨ j = 4 ∨ j = 5 ∨ j = 6 ∨ j = 7 := by omega
  rcases this with rfl | rfl | rfl | rfl | rfl | rfl | rfl | rfl <;> decide
theorem bit_at (T : B) (k : Nat) (hk : k ≤ 31) : Go.bits .and .u32 (shr .u32 (T.toNat : Int) (k : Int)) 1 = if T.getLsbD k then 1 else 0 := by
  have e : shr .u32 (T.toNat : Int) (k : Int) = ((T >>> k).toNat : Int) := by
    unfold shr
    have h32 : min (k : Int).toNat (IntKind.bits .u32) = k := by show min (k : Int).toNat 32 = k; omega
    rw [h32, BitVec.toNat_ushiftRight, Nat.shiftRight_eq_div_pow]
    exact_mod_cast rfl
  rw [e, bits_and, ofInt_toNat]
  have e2 : (T >>> k) &&& BitVec.ofInt 32 1 = if T.getLsbD k then 1#32 else 0#32 := by
    apply BitVec.eq_of_getLsbD_eq
    intro i hi
    rw [BitVec.getLsbD_and, BitVec.getLsbD_ushiftRight]
    have : (BitVec.ofInt 32 1) = 1#32 := by decide
    rw [this, BitVec.getLsbD_one]
    by_cases h0 : i = 0
    · subst h0; cases h : T.getLsbD k <;> simp [h]
    · cases h : T.getLsbD k <;> simp [h0, BitVec.getLsbD_one]
  rw [e2]
  cases T.getLsbD k <;> rfl
theorem xor_u8_range (x y : Int) : 0 ≤ Go.bits .xor .u8 x y ∧ Go.bits .xor .u8 x y ≤ 255 := by
  simp only [Go.bits, IntKind.wrap_u8]
  omega
theorem wf_set {l : List Int} (h : Wf l) (i : Nat) {c : Int} (hc : 0 ≤ c ∧ c ≤ 255) : Wf (l.set i c) := by
  intro x hx
  rcases List.mem_or_eq_of_mem_set hx with h1 | h1
  · exact h x h1
  · rw [h1]; exact hc
theorem steps_one_of (a j : Nat) (hj : j ≤ 31) (ha : j ≤ a) : CrcMath.steps a (1#32 <<< j) = CrcMath.steps (a - j) 1#32 := by
  have e := steps_add j (a - j) (1#32 <<< j)
  rw [show j + (a - j) = a by omega, steps_one_shl j hj] at e
  exact e
/-- Turning one bit. -/
theorem raw_flip (l : List Int) (hw : Wf l) (x : B) (at_ k : Nat) (hk : k ≤ 31) (h : at_ + k < 8 * l.length) :
    raw x (l.set ((at_ + k) / 8) (Go.bits .xor .u8 (l.getD ((at_ + k) / 8) 0) (shl .u8 1 (((at_ + k) % 8 : Nat) : Int)))) = raw x l ^^^ CrcMath.steps (8 * l.length - at_) (1#32 <<< k) := by
  rw [raw_set l x _ _ (by omega), shl_u8 _ (by omega)]
  rw [bits_u8' (wf_getD hw _) (pow_range _ (by omega)), ofInt_pow _ (by omega)]
  congr 1
  have e : ∀ p q : B, p ^^^ q ^^^ p = q := by intro p q; rw [BitVec.xor_comm p q, BitVec.xor_assoc, BitVec.xor_self, BitVec.xor_zero]
  rw [e, steps_one_of _ _ (by omega) (by omega), steps_one_of _ k hk (by omega)]
  congr 1
  omega
theorem burst_l0 (at_ : Nat) (T : B) (n : Nat) (hn : n ≤ 2004) (h4 : 4 ≤ n) (hat : at_ < 8 * n) (d : Nat) : ∀ (K k : Nat) (x : List Int) (acc : B) (same : Bool), 32 - k = d → k ≤ 32 → n + d + 1 < K → x.length = n → Wf x →
    (∀ i, k ≤ i → acc.getLsbD i = false) → same = decide (acc = 0#32) → raw (~~~ 0#32) x = residue ^^^ CrcMath.steps (8 * n - at_) acc →
    chicanelaw03_CrcBursts.l0 K (at_ : Int) (T.toNat : Int) x same (k : Int) = some true := by
  induction d with
  | zero =>
    intro K k x acc same hd hk hK hx hw hacc hs hr
    obtain ⟨K, rfl⟩ : ∃ m, K = m + 1 := ⟨K - 1, by omega⟩
    simp only [chicanelaw03_CrcBursts.l0]
    rw [if_neg (by omega), Open_f x (by omega) (by omega) hw K (by omega), alive_f]
    simp only [Option.bind_some, if_true]
    have : raw (~~~ 0#32) x = residue ↔ acc = 0#32 := by
      rw [hr]
      constructor
      · intro e
        apply steps_eq_zero (8 * n - at_)
        have := congrArg (residue ^^^ ·) e
        simp only [← BitVec.xor_assoc, BitVec.xor_self, BitVec.zero_xor] at this
        exact this
      · intro e
        rw [e, steps_zero, BitVec.xor_zero]
    by_cases h : raw (~~~ 0#32) x = residue
    · rw [if_pos h, hs, decide_eq_true (this.1 h)]; rfl
    · rw [if_neg h, hs, decide_eq_false (fun e => h (this.2 e))]; rfl
  | succ d ih =>
    intro K k x acc same hd hk hK hx hw hacc hs hr
    obtain ⟨K, rfl⟩ : ∃ m, K = m + 1 := ⟨K - 1, by omega⟩
    simp only [chicanelaw03_CrcBursts.l0]
    rw [if_pos (by omega), if_pos (by omega), bit_at T k (by omega)]
    have hgo : ∀ (x' : List Int) (acc' : B) (same' : Bool), x'.length = n → Wf x' → (∀ i, k + 1 ≤ i → acc'.getLsbD i = false) → same' = decide (acc' = 0#32) → raw (~~~ 0#32) x' = residue ^^^ CrcMath.steps (8 * n - at_) acc' →
        chicanelaw03_CrcBursts.l0 K (at_ : Int) (T.toNat : Int) x' same' (wrap64 ((k : Int) + 1)) = some true := by
      intro x' acc' same' g1 g2 g3 g4 g5
      rw [wrap_in (by omega) (by omega), show ((k : Int) + 1) = ((k + 1 : Nat) : Int) by omega]
      exact ih K (k + 1) x' acc' same' (by omega) (by omega) (by omega) g1 g2 g3 g4 g5
    have hstay := hgo x acc same hx hw (fun i hi => hacc i (by omega)) hs hr
    cases hT : T.getLsbD k with
    | false => rw [if_neg (by simp)]; exact hstay
    | true =>
      rw [if_pos (by simp)]
      rw [wrap_in (i := 8 * (x.length : Int)) (by omega) (by omega), wrap_in (i := 8 * (x.length : Int) - (at_ : Int)) (by omega) (by omega)]
      by_cases hin : (k : Int) < 8 * (x.length : Int) - (at_ : Int)
      · rw [if_pos hin]
        have e1 : wrap64 ((at_ : Int) + (k : Int)) = ((at_ + k : Nat) : Int) := by rw [wrap_in (by omega) (by omega)]; omega
        have e2 : Int.tdiv ((at_ + k : Nat) : Int) 8 = (((at_ + k) / 8 : Nat) : Int) := by rw [Int.tdiv_eq_ediv_of_nonneg (by omega)]; omega
        have e3 : Int.tmod ((at_ + k : Nat) : Int) 8 = (((at_ + k) % 8 : Nat) : Int) := by rw [Int.tmod_eq_emod_of_nonneg (by omega)]; omega
        rw [e1, e2, e3, wrap_in (i := (((at_ + k) / 8 : Nat) : Int)) (by omega) (by omega)]
        rw [if_pos (by omega), if_pos (by omega), if_pos (by omega)]
        have e4 : (((at_ + k) / 8 : Nat) : Int).toNat = (at_ + k) / 8 := by omega
        have e5 : rd x (((at_ + k) / 8 : Nat) : Int) = x.getD ((at_ + k) / 8) 0 := by unfold rd; rw [e4]
        rw [e4, e5]
        have hf := raw_flip x hw (~~~ 0#32) at_ k (by omega) (by omega)
        apply hgo _ (acc ^^^ 1#32 <<< k) false
        · rw [List.length_set]; exact hx
        · exact wf_set hw _ (xor_u8_range _ _)
        · intro i hi
          rw [BitVec.getLsbD_xor, hacc i (by omega), BitVec.getLsbD_shiftLeft, BitVec.getLsbD_one]
          have : ¬ (i - k = 0) := by omega
          simp [this]
        · symm
          apply decide_eq_false
          intro e
          have h2 := congrArg (fun b : B => b.getLsbD k) e
          simp only [BitVec.getLsbD_xor, hacc k (Nat.le_refl _), BitVec.getLsbD_shiftLeft, BitVec.getLsbD_one] at h2
          have hk32 : k < 32 := by omega
          simp [hk32] at h2
        · rw [hf, hr, hx, steps_xor, BitVec.xor_assoc]
      · rw [if_neg hin]; exact hstay
theorem CrcBursts : chicanelaw03_CrcBursts.Pure := by
  intro l0 a1 a2 _ hm0 hw0 h1 h2
  have hw := wf_of hw0
  simp [Lit.wf, IntKind.min, IntKind.max, IntKind.signed, IntKind.bits] at h1 h2
  refine ⟨(l0.length + 100) + 1, ?_⟩
  unfold chicanelaw03_CrcBursts.f
  rw [Seal_f l0 (by omega) _ (by omega)]
  simp only [Option.bind_some]
  have hlen : (l0 ++ tailOf (Hand.sum l0)).length = l0.length + 4 := by rw [List.length_append]; rfl
  by_cases c1 : (l0.length : Int) > 2000
  · rw [if_pos c1]; simp only [chicanelaw03_CrcBursts.j0]; rw [if_pos trivial, alive_f]; rfl
  rw [if_neg c1]
  by_cases c2 : a1 < 0
  · rw [if_pos c2]; simp only [chicanelaw03_CrcBursts.j0]; rw [if_pos trivial, alive_f]; rfl
  rw [if_neg c2, hlen, wrap_in (by omega) (by omega)]
  by_cases c3 : a1 ≥ 8 * ((l0.length + 4 : Nat) : Int)
  · rw [if_pos c3]; simp only [chicanelaw03_CrcBursts.j0]; rw [if_pos trivial, alive_f]; rfl
  rw [if_neg c3]
  simp only [chicanelaw03_CrcBursts.j0]
  by_cases c4 : a2 = 0
  · rw [if_pos (by rw [c4]; rfl), alive_f]; rfl
  rw [if_neg (by simpa using c4)]
  simp only [Option.bind_some]
  rw [if_pos (by rw [hlen]; simp; omega), List.nil_append]
  obtain ⟨T, hT⟩ : ∃ T : B, a2 = (T.toNat : Int) := ⟨BitVec.ofNat 32 a2.toNat, by rw [BitVec.toNat_ofNat]; omega⟩
  obtain ⟨at_, hat⟩ : ∃ n : Nat, a1 = (n : Int) := ⟨a1.toNat, by omega⟩
  subst hT hat
  have := burst_l0 at_ T (l0.length + 4) (by omega) (by omega) (by omega) 32 (l0.length + 100) 0 (l0 ++ tailOf (Hand.sum l0)) 0#32 true (by omega) (by omega) (by omega) hlen (seal_wf hw) (fun i _ => by simp) (by decide) (by rw [steps_zero, BitVec.xor_zero]; exact sealed_raw l0)
  simpa using this
end Go.Proofs.Ytocfkbiojgbloaa.Pure
