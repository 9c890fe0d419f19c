/- The plain statement of the law CrcSwaps: for every input that may come in, with enough rounds, the law's function tells true. No further condition. -/
import Derived.Test.YtocfkbiojgbloaaPCrcSwapsx3
import Derived.Test.YtocfkbiojgbloaaCrcLink
import Derived.Lib.Bytes
namespace Go.Proofs.Ytocfkbiojgbloaa.Pure
open Go Go.RowKit Go.Proofs.Ytocfkbiojgbloaa.PCrcSwaps Go.Proofs.YtocfkbiojgbloaaW.PrintWords Go.Proofs.YtocfkbiojgbloaaW.PrintLast Go.Proofs.Ytocfkbiojgbloaa.Hand Go.Proofs.Ytocfkbiojgbloaa.CrcMath
set_option linter.unusedVariables false
set_option linter.unusedSimpArgs false
theorem wrap_in {i : Int} (h0 : -9223372036854775808 ≤ i) (h1 : i ≤ 9223372036854775807) : wrap64 i = i := by
  unfold wrap64
  omega
theorem rd_cons (l : List Int) (i : Nat) (h : i < l.length) : l.drop i = rd l i :: l.drop (i + 1) := by
  rw [List.drop_eq_getElem_cons h]
  simp [rd, h]
theorem More_l0 (l : List Int) (hl : l.length ≤ 9000000000000000000) (d : Nat) : ∀ (k : Nat) (x : B) (i : Nat), l.length - i = d → i ≤ l.length → d < k →
    crc_More.l0 k (x.toNat : Int) l (l.length : Int) (i : Int) = some ((~~~ raw x (l.drop i)).toNat : Int) := by
  induction d with
  | zero =>
    intro k x i hd hi hk
    obtain ⟨k, rfl⟩ : ∃ m, k = m + 1 := ⟨k - 1, by omega⟩
    simp only [crc_More.l0]
    rw [if_neg (by omega), compl_eq, List.drop_of_length_le (by omega)]
    rfl
  | succ d ih =>
    intro k x i hd hi hk
    obtain ⟨k, rfl⟩ : ∃ m, k = m + 1 := ⟨k - 1, by omega⟩
    simp only [crc_More.l0, crc_one.f]
    rw [if_pos (by omega), if_pos (by omega), if_pos (by omega)]
    simp only [Option.bind_some]
    rw [one_eq, wrap_in (by omega) (by omega), show ((i : Int) + 1) = ((i + 1 : Nat) : Int) by omega, ih k _ (i + 1) (by omega) (by omega) (by omega), rd_cons l i (by omega)]
    rfl
theorem More_f (l : List Int) (hl : l.length ≤ 9000000000000000000) (k : Nat) (hk : l.length < k) (a : B) : crc_More.f k (a.toNat : Int) l = some ((~~~ raw (~~~ a) l).toNat : Int) := by
  unfold crc_More.f
  rw [compl_eq]
  have := More_l0 l hl l.length k (~~~ a) 0 (by omega) (by omega) hk
  simpa using this
theorem Sum_f (l : List Int) (hl : l.length ≤ 9000000000000000000) (k : Nat) (hk : l.length < k) : crc_Sum.f k l = some (Hand.sum l) := by
  unfold crc_Sum.f
  have := More_f l hl k hk 0#32
  have e : ((BitVec.toNat 0#32 : Nat) : Int) = 0 := rfl
  rw [e] at this
  rw [this]
  rfl
theorem tail_f (n : Int) : crc_tail.f n = some (tailOf n) := rfl
theorem Seal_f (l : List Int) (hl : l.length + 4 < 140737488355328) (k : Nat) (hk : l.length < k) : crc_Seal.f k l = some (l ++ tailOf (Hand.sum l)) := by
  unfold crc_Seal.f crc_clone.f
  rw [if_pos (by omega), Sum_f l (by omega) k hk]
  simp only [Option.bind_some, crc_tail.f]
  rw [if_pos (by simp; omega)]
  rfl
theorem wf_take {l : List Int} (h : Wf l) (n : Nat) : Wf (l.take n) := fun x hx => h x (List.mem_of_mem_take hx)
theorem wf_drop {l : List Int} (h : Wf l) (n : Nat) : Wf (l.drop n) := fun x hx => h x (List.mem_of_mem_drop hx)
theorem four_of {l : List Int} (h : l.length = 4) : ∃ a b c d, l = [a, b, c, d] := by
  match l, h with
  | [a, b, c, d], _ => exact ⟨a, b, c, d, rfl⟩
theorem Open_short (l : List Int) (hl : l.length < 4) (k : Nat) : crc_Open.f k l = some ([], false) := by
  unfold crc_Open.f
  rw [wrap_in (by omega) (by omega), if_pos (by omega)]
theorem bytesEq (l m : List Int) (hl : Wf l) (hm : Wf m) : ((strOfNums l).toList == (strOfNums m).toList) = decide (l = m) := by
  rw [Bool.eq_iff_iff]
  simp only [beq_iff_eq, decide_eq_true_eq]
  rw [Lib.strOfNums_toList, Lib.strOfNums_toList]
  exact ⟨fun h => str_eq hl hm h, fun h => by rw [h]⟩
theorem Open_f (l : List Int) (hl : 4 ≤ l.length) (hl2 : l.length < 140737488355328) (hw : Wf l) (k : Nat) (hk : l.length < k) :
    crc_Open.f k l = some (if raw (~~~ 0#32) l = residue then (l.take (l.length - 4), true) else ([], false)) := by
  unfold crc_Open.f
  rw [wrap_in (by omega) (by omega), if_neg (by omega), if_pos (by omega), if_pos (by omega)]
  rw [show ((l.length : Int) - 4).toNat = l.length - 4 by omega]
  rw [Sum_f _ (by rw [List.length_take]; omega) k (by rw [List.length_take]; omega)]
  simp only [Option.bind_some]
  rw [tail_f]
  simp only [Option.bind_some, bytes_Equal.f]
  obtain ⟨a, b, c, d, h4⟩ := four_of (l := l.drop (l.length - 4)) (by rw [List.length_drop]; omega)
  have hsplit : l = l.take (l.length - 4) ++ [a, b, c, d] := by rw [← h4, List.take_append_drop]
  have hw4 : Wf [a, b, c, d] := by rw [← h4]; exact wf_drop hw _
  have hiff := sealed_iff (l.take (l.length - 4)) a b c d hw4
  rw [← hsplit] at hiff
  rw [h4]
  rw [bytesEq _ _ hw4 (show Wf (tailOf (Hand.sum (l.take (l.length - 4)))) from tail_wf _)]
  by_cases hr : raw (~~~ 0#32) l = residue
  · rw [if_pos hr, if_pos (decide_eq_true (hiff.1 hr))]
    unfold crc_clone.f
    rw [if_pos (by rw [List.length_take]; omega)]
    rfl
  · rw [if_neg hr, if_neg (by simp only [decide_eq_true_eq]; exact fun h => hr (hiff.2 h))]
theorem seal_wf {l : List Int} (h : Wf l) : Wf (l ++ tailOf (Hand.sum l)) := by
  intro x hx
  rcases List.mem_append.1 hx with h1 | h1
  · exact h x h1
  · exact tail_wf _ x h1
theorem alive_f (k : Nat) : chicanelaw03_alive.f k = some true := rfl
theorem bits_u8 (x y : Int) : BitVec.ofInt 32 (Go.bits .xor .u8 x y) = (BitVec.ofInt 8 x ^^^ BitVec.ofInt 8 y).setWidth 32 := by
  simp only [Go.bits, IntKind.wrap_u8]
  have := (BitVec.ofInt 8 x ^^^ BitVec.ofInt 8 y).isLt
  have e : (((BitVec.ofInt 8 x ^^^ BitVec.ofInt 8 y).toNat : Nat) : Int) % 256 = (((BitVec.ofInt 8 x ^^^ BitVec.ofInt 8 y).toNat : Nat) : Int) := by omega
  show BitVec.ofInt 32 ((((BitVec.ofInt 8 x ^^^ BitVec.ofInt 8 y).toNat : Nat) : Int) % 256) = _
  rw [e, BitVec.ofInt_natCast, BitVec.ofNat_toNat]
theorem wide8 {x : Int} (h : 0 ≤ x ∧ x ≤ 255) : (BitVec.ofInt 8 x).setWidth 32 = BitVec.ofInt 32 x := by
  obtain ⟨n, rfl⟩ := Int.eq_ofNat_of_zero_le h.1
  rw [BitVec.ofInt_natCast, BitVec.ofInt_natCast]
  apply BitVec.eq_of_toNat_eq
  rw [BitVec.toNat_setWidth, BitVec.toNat_ofNat, BitVec.toNat_ofNat]
  omega
theorem bits_u8' {x y : Int} (hx : 0 ≤ x ∧ x ≤ 255) (hy : 0 ≤ y ∧ y ≤ 255) : BitVec.ofInt 32 (Go.bits .xor .u8 x y) = BitVec.ofInt 32 x ^^^ BitVec.ofInt 32 y := by
  rw [bits_u8, BitVec.setWidth_xor, wide8 hx, wide8 hy]
theorem wf_getD {l : List Int} (h : Wf l) (i : Nat) : 0 ≤ l.getD i 0 ∧ l.getD i 0 ≤ 255 := by
  by_cases hi : i < l.length
  · have : l.getD i 0 ∈ l := by rw [List.getD_eq_getElem?_getD, List.getElem?_eq_getElem hi]; exact List.getElem_mem hi
    exact h _ this
  · rw [List.getD_eq_getElem?_getD, List.getElem?_eq_none (by omega)]; simp
theorem rd_nat (l : List Int) (i : Nat) : rd l (i : Int) = l.getD i 0 := by simp [rd]
theorem getD_set_ne (l : List Int) (i j : Nat) (c : Int) (h : i ≠ j) : (l.set i c).getD j 0 = l.getD j 0 := by
  rw [List.getD_eq_getElem?_getD, List.getElem?_set_ne h, ← List.getD_eq_getElem?_getD]
theorem CrcSwaps : chicanelaw03_CrcSwaps.Pure := by
  intro l0 a1 _ hm0 hw0 h1
  have hw := wf_of hw0
  simp [Lit.wf, IntKind.min, IntKind.max, IntKind.signed, IntKind.bits] at h1
  refine ⟨(l0.length + 101) + 1, ?_⟩
  unfold chicanelaw03_CrcSwaps.f
  by_cases c1 : (l0.length : Int) > 1000
  · rw [if_pos c1]; simp only [chicanelaw03_CrcSwaps.j0]; rw [if_pos trivial, alive_f]; rfl
  rw [if_neg c1]
  by_cases c2 : a1 < 0
  · rw [if_pos c2]; simp only [chicanelaw03_CrcSwaps.j0]; rw [if_pos trivial, alive_f]; rfl
  rw [if_neg c2, wrap_in (i := (l0.length : Int) - 1) (by omega) (by omega)]
  simp only [chicanelaw03_CrcSwaps.j0]
  by_cases c3 : a1 ≥ (l0.length : Int) - 1
  · rw [if_pos (by simpa using c3), alive_f]; rfl
  rw [if_neg (by simpa using c3)]
  simp only [Option.bind_some, List.nil_append, List.length_nil]
  rw [if_pos (by omega), wrap_in (by omega) (by omega), if_pos (by omega), if_pos (by omega), if_pos (by omega), if_pos (by omega), alive_f]
  simp only [Option.bind_some, if_true]
  obtain ⟨i, hi⟩ : ∃ n : Nat, a1 = (n : Int) := ⟨a1.toNat, by omega⟩
  subst hi
  have e1 : ((i : Int)).toNat = i := by omega
  have e2 : ((i : Int) + 1).toNat = i + 1 := by omega
  have e3 : ((i : Int) + 1) = ((i + 1 : Nat) : Int) := by omega
  rw [e1, e2, e3, rd_nat, rd_nat]
  rw [Sum_f _ (by simp only [List.length_set]; omega) _ (by simp only [List.length_set]; omega), Sum_f l0 (by omega) _ (by omega)]
  simp only [Option.bind_some]
  rw [if_pos (by omega), if_pos (by omega)]
  generalize hp : l0.getD i 0 = p
  generalize hq : l0.getD (i + 1) 0 = q
  have rp : 0 ≤ p ∧ p ≤ 255 := hp ▸ wf_getD hw i
  have rq : 0 ≤ q ∧ q ≤ 255 := hq ▸ wf_getD hw (i + 1)
  -- the register behind the changed row
  have hraw : raw (~~~ 0#32) ((l0.set i q).set (i + 1) p) = raw (~~~ 0#32) l0 ^^^ CrcMath.steps (8 * (l0.length - i)) ((BitVec.ofInt 32 q ^^^ BitVec.ofInt 32 p) ^^^ (BitVec.ofInt 32 p ^^^ BitVec.ofInt 32 q) <<< 8) := by
    rw [raw_set _ _ _ _ (by simp only [List.length_set]; omega), getD_set_ne _ _ _ _ (by omega), hq, raw_set l0 _ i q (by omega), hp, List.length_set]
    have hs : CrcMath.steps (8 * (l0.length - i)) ((BitVec.ofInt 32 p ^^^ BitVec.ofInt 32 q) <<< 8) = CrcMath.steps (8 * (l0.length - (i + 1))) (BitVec.ofInt 32 p ^^^ BitVec.ofInt 32 q) := by
      rw [show 8 * (l0.length - i) = 8 + 8 * (l0.length - (i + 1)) by omega, steps_add]
      congr 1
      apply steps_shl
      intro j hj
      rw [BitVec.getLsbD_xor, small_bits rp.1 rp.2 j (by omega), small_bits rq.1 rq.2 j (by omega)]
      rfl
    rw [← hs, BitVec.xor_assoc, ← steps_xor]
  have key : (Hand.sum ((l0.set i q).set (i + 1) p) == Hand.sum l0) = (p == q) := by
    rw [Bool.eq_iff_iff]
    simp only [beq_iff_eq]
    constructor
    · intro h
      have h2 : Hand.sumB ((l0.set i q).set (i + 1) p) = Hand.sumB l0 := by
        unfold Hand.sum at h
        apply BitVec.eq_of_toNat_eq
        omega
      unfold Hand.sumB at h2
      have h3 : raw (~~~ 0#32) ((l0.set i q).set (i + 1) p) = raw (~~~ 0#32) l0 := by
        have := congrArg (~~~ ·) h2
        simpa using this
      rw [hraw] at h3
      have h4 := congrArg (raw (~~~ 0#32) l0 ^^^ ·) h3
      simp only [← BitVec.xor_assoc, BitVec.xor_self, BitVec.zero_xor] at h4
      have h5 := steps_eq_zero _ h4
      -- the low eight bits
      have h6 : BitVec.ofInt 32 q = BitVec.ofInt 32 p := by
        apply BitVec.eq_of_getLsbD_eq
        intro j hj
        by_cases h8 : j < 8
        · have := congrArg (fun b : B => b.getLsbD j) h5
          simp only [BitVec.getLsbD_xor, BitVec.getLsbD_shiftLeft] at this
          simp only [h8, decide_true, Bool.not_true, Bool.and_false, Bool.false_and, Bool.xor_false] at this
          simpa using this
        · rw [small_bits rp.1 rp.2 j (by omega), small_bits rq.1 rq.2 j (by omega)]
      have h7 := congrArg (fun b : B => (b.toNat : Int)) h6
      obtain ⟨m, rfl⟩ := Int.eq_ofNat_of_zero_le rp.1
      obtain ⟨n, rfl⟩ := Int.eq_ofNat_of_zero_le rq.1
      simp only [BitVec.ofInt_natCast, BitVec.toNat_ofNat] at h7
      omega
    · intro h
      subst h
      unfold Hand.sum Hand.sumB
      rw [hraw]
      have : (BitVec.ofInt 32 p ^^^ BitVec.ofInt 32 p ^^^ (BitVec.ofInt 32 p ^^^ BitVec.ofInt 32 p) <<< 8) = (0#32 : B) := by simp
      rw [this, steps_zero, BitVec.xor_zero]
  have hpq : rd l0 (i : Int) = p := by rw [rd_nat, hp]
  have hpq2 : rd l0 ((i + 1 : Nat) : Int) = q := by rw [rd_nat, hq]
  rw [key]
  simp
end Go.Proofs.Ytocfkbiojgbloaa.Pure
