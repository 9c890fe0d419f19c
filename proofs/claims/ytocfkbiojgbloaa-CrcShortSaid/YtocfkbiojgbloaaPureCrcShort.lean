/- The plain statement of the law CrcShort: for every input that may come in, with enough rounds, the law's function tells true. No further condition. -/
import Derived.Test.YtocfkbiojgbloaaPCrcShortx3
import Derived.Test.YtocfkbiojgbloaaCrcLink
import Derived.Lib.Bytes
namespace Go.Proofs.Ytocfkbiojgbloaa.Pure
open Go Go.RowKit Go.Proofs.Ytocfkbiojgbloaa.PCrcShort Go.Proofs.YtocfkbiojgbloaaW.PrintWords Go.Proofs.YtocfkbiojgbloaaW.PrintLast Go.Proofs.Ytocfkbiojgbloaa.Hand Go.Proofs.Ytocfkbiojgbloaa.CrcMath
set_option linter.unusedVariables false
set_option linter.unusedSimpArgs false
theorem wrap_in {i : Int} (h0 : -9223372036854775808 ≤ i) (h1 : i ≤ 9223372036854775807) : wrap64 i = i := by
  unfold wrap64
  omega
theorem rd_cons (l : List Int) (i : Nat) (h : i < l.length) : l.drop i = rd l i :: l.drop (i + 1) := by
  rw [List.drop_eq_getElem_cons h]
  simp [rd, h]
theorem More_l0 (l : List Int) (hl : l.length ≤ 9000000000000000000) (d : Nat) : ∀ (k : Nat) (x : B) (i : Nat), l.length - i = d → i ≤ l.length → d < k →
    crc_More.l0 k (x.toNat : Int) l (l.length : Int) (i : Int) = some ((~~~ raw x (l.drop i)).toNat : Int) := by
  induction d with
  | zero =>
    intro k x i hd hi hk
    obtain ⟨k, rfl⟩ : ∃ m, k = m + 1 := ⟨k - 1, by omega⟩
    simp only [crc_More.l0]
    rw [if_neg (by omega), compl_eq, List.drop_of_length_le (by omega)]
    rfl
  | succ d ih =>
    intro k x i hd hi hk
    obtain ⟨k, rfl⟩ : ∃ m, k = m + 1 := ⟨k - 1, by omega⟩
    simp only [crc_More.l0, crc_one.f]
    rw [if_pos (by omega), if_pos (by omega), if_pos (by omega)]
    simp only [Option.bind_some]
    rw [one_eq, wrap_in (by omega) (by omega), show ((i : Int) + 1) = ((i + 1 : Nat) : Int) by omega, ih k _ (i + 1) (by omega) (by omega) (by omega), rd_cons l i (by omega)]
    rfl
theorem More_f (l : List Int) (hl : l.length ≤ 9000000000000000000) (k : Nat) (hk : l.length < k) (a : B) : crc_More.f k (a.toNat : Int) l = some ((~~~ raw (~~~ a) l).toNat : Int) := by
  unfold crc_More.f
  rw [compl_eq]
  have := More_l0 l hl l.length k (~~~ a) 0 (by omega) (by omega) hk
  simpa using this
theorem Sum_f (l : List Int) (hl : l.length ≤ 9000000000000000000) (k : Nat) (hk : l.length < k) : crc_Sum.f k l = some (Hand.sum l) := by
  unfold crc_Sum.f
  have := More_f l hl k hk 0#32
  have e : ((BitVec.toNat 0#32 : Nat) : Int) = 0 := rfl
  rw [e] at this
  rw [this]
  rfl
theorem tail_f (n : Int) : crc_tail.f n = some (tailOf n) := rfl
theorem Seal_f (l : List Int) (hl : l.length + 4 < 140737488355328) (k : Nat) (hk : l.length < k) : crc_Seal.f k l = some (l ++ tailOf (Hand.sum l)) := by
  unfold crc_Seal.f crc_clone.f
  rw [if_pos (by omega), Sum_f l (by omega) k hk]
  simp only [Option.bind_some, crc_tail.f]
  rw [if_pos (by simp; omega)]
  rfl
theorem wf_take {l : List Int} (h : Wf l) (n : Nat) : Wf (l.take n) := fun x hx => h x (List.mem_of_mem_take hx)
theorem wf_drop {l : List Int} (h : Wf l) (n : Nat) : Wf (l.drop n) := fun x hx => h x (List.mem_of_mem_drop hx)
theorem four_of {l : List Int} (h : l.length = 4) : ∃ a b c d, l = [a, b, c, d] := by
  match l, h with
  | [a, b, c, d], _ => exact ⟨a, b, c, d, rfl⟩
theorem Open_short (l : List Int) (hl : l.length < 4) (k : Nat) : crc_Open.f k l = some ([], false) := by
  unfold crc_Open.f
  rw [wrap_in (by omega) (by omega), if_pos (by omega)]
theorem bytesEq (l m : List Int) (hl : Wf l) (hm : Wf m) : ((strOfNums l).toList == (strOfNums m).toList) = decide (l = m) := by
  rw [Bool.eq_iff_iff]
  simp only [beq_iff_eq, decide_eq_true_eq]
  rw [Lib.strOfNums_toList, Lib.strOfNums_toList]
  exact ⟨fun h => str_eq hl hm h, fun h => by rw [h]⟩
theorem Open_f (l : List Int) (hl : 4 ≤ l.length) (hl2 : l.length < 140737488355328) (hw : Wf l) (k : Nat) (hk : l.length < k) :
    crc_Open.f k l = some (if raw (~~~ 0#32) l = residue then (l.take (l.length - 4), true) else ([], false)) := by
  unfold crc_Open.f
  rw [wrap_in (by omega) (by omega), if_neg (by omega), if_pos (by omega), if_pos (by omega)]
  rw [show ((l.length : Int) - 4).toNat = l.length - 4 by omega]
  rw [Sum_f _ (by rw [List.length_take]; omega) k (by rw [List.length_take]; omega)]
  simp only [Option.bind_some]
  rw [tail_f]
  simp only [Option.bind_some, bytes_Equal.f]
  obtain ⟨a, b, c, d, h4⟩ := four_of (l := l.drop (l.length - 4)) (by rw [List.length_drop]; omega)
  have hsplit : l = l.take (l.length - 4) ++ [a, b, c, d] := by rw [← h4, List.take_append_drop]
  have hw4 : Wf [a, b, c, d] := by rw [← h4]; exact wf_drop hw _
  have hiff := sealed_iff (l.take (l.length - 4)) a b c d hw4
  rw [← hsplit] at hiff
  rw [h4]
  rw [bytesEq _ _ hw4 (show Wf (tailOf (Hand.sum (l.take (l.length - 4)))) from tail_wf _)]
  by_cases hr : raw (~~~ 0#32) l = residue
  · rw [if_pos hr, if_pos (decide_eq_true (hiff.1 hr))]
    unfold crc_clone.f
    rw [if_pos (by rw [List.length_take]; omega)]
    rfl
  · rw [if_neg hr, if_neg (by simp only [decide_eq_true_eq]; exact fun h => hr (hiff.2 h))]
theorem seal_wf {l : List Int} (h : Wf l) : Wf (l ++ tailOf (Hand.sum l)) := by
  intro x hx
  rcases List.mem_append.1 hx with h1 | h1
  · exact h x h1
  · exact tail_wf _ x h1
theorem alive_f (k : Nat) : chicanelaw03_alive.f k = some true := rfl
theorem bits_u8 (x y : Int) : BitVec.ofInt 32 (Go.bits .xor .u8 x y) = (BitVec.ofInt 8 x ^^^ BitVec.ofInt 8 y).setWidth 32 := by
  simp only [Go.bits, IntKind.wrap_u8]
  have := (BitVec.ofInt 8 x ^^^ BitVec.ofInt 8 y).isLt
  have e : (((BitVec.ofInt 8 x ^^^ BitVec.ofInt 8 y).toNat : Nat) : Int) % 256 = (((BitVec.ofInt 8 x ^^^ BitVec.ofInt 8 y).toNat : Nat) : Int) := by omega
  show BitVec.ofInt 32 ((((BitVec.ofInt 8 x ^^^ BitVec.ofInt 8 y).toNat : Nat) : Int) % 256) = _
  rw [e, BitVec.ofInt_natCast, BitVec.ofNat_toNat]
theorem wide8 {x : Int} (h : 0 ≤ x ∧ x ≤ 255) : (BitVec.ofInt 8 x).setWidth 32 = BitVec.ofInt 32 x := by
  obtain ⟨n, rfl⟩ := Int.eq_ofNat_of_zero_le h.1
  rw [BitVec.ofInt_natCast, BitVec.ofInt_natCast]
  apply BitVec.eq_of_toNat_eq
  rw [BitVec.toNat_setWidth, BitVec.toNat_ofNat, BitVec.toNat_ofNat]
  omega
theorem bits_u8' {x y : Int} (hx : 0 ≤ x ∧ x ≤ 255) (hy : 0 ≤ y ∧ y ≤ 255) : BitVec.ofInt 32 (Go.bits .xor .u8 x y) = BitVec.ofInt 32 x ^^^ BitVec.ofInt 32 y := by
  rw [bits_u8, BitVec.setWidth_xor, wide8 hx, wide8 hy]
theorem wf_getD {l : List Int} (h : Wf l) (i : Nat) : 0 ≤ l.getD i 0 ∧ l.getD i 0 ≤ 255 := by
  by_cases hi : i < l.length
  · have : l.getD i 0 ∈ l := by rw [List.getD_eq_getElem?_getD, List.getElem?_eq_getElem hi]; exact List.getElem_mem hi
    exact h _ this
  · rw [List.getD_eq_getElem?_getD, List.getElem?_eq_none (by omega)]; simp
theorem CrcShort : chicanelaw03_CrcShort.Pure := by
  intro l0 _ hm0 hw0
  have hw := wf_of hw0
  refine ⟨l0.length + 100, ?_⟩
  unfold chicanelaw03_CrcShort.f
  by_cases c1 : (l0.length : Int) > 4
  · rw [if_pos c1, alive_f]; rfl
  rw [if_neg c1]
  by_cases c2 : l0.length < 4
  · rw [Open_short l0 c2, alive_f]
    simp only [Option.bind_some, if_true]
    rw [if_pos (by simp), if_neg (by omega)]
    rfl
  · obtain ⟨a, b, c, d, rfl⟩ := four_of (l := l0) (by omega)
    have hz : tailOf (Hand.sum []) = [0, 0, 0, 0] := by decide
    have hi := sealed_iff [] a b c d hw
    rw [hz, List.nil_append] at hi
    have hT : chicaneref03_Tail.f 0 = some (strOfNums [0, 0, 0, 0]) := rfl
    have hlast : ((strOfNums [a, b, c, d]).toList == (strOfNums [0, 0, 0, 0]).toList) = decide ([a, b, c, d] = [0, 0, 0, 0]) := bytesEq _ _ hw (by intro x hx; simp at hx; omega)
    rw [Open_f _ (by simp) (by simp) hw _ (by simp), alive_f]
    simp only [Option.bind_some]
    by_cases hr : raw (~~~ 0#32) [a, b, c, d] = residue
    · rw [if_pos hr]
      simp only [if_true]
      rw [if_pos (by simp), if_pos (by simp), hT]
      simp only [Option.bind_some]
      rw [hlast, decide_eq_true (hi.1 hr)]
      rfl
    · rw [if_neg hr]
      simp only [if_true]
      rw [if_pos (by simp), if_pos (by simp), hT]
      simp only [Option.bind_some]
      rw [hlast, decide_eq_false (fun e => hr (hi.2 e))]
      rfl
end Go.Proofs.Ytocfkbiojgbloaa.Pure
