/- The plain statement of the law CrcOwn: for every input that may come in, with enough rounds, the law's function tells true. No further condition. -/
import Derived.Test.YtocfkbiojgbloaaPCrcOwnx3
import Derived.Test.YtocfkbiojgbloaaCrcLink
import Derived.Lib.Bytes
namespace Go.Proofs.Ytocfkbiojgbloaa.Pure
open Go Go.RowKit Go.Proofs.Ytocfkbiojgbloaa.PCrcOwn Go.Proofs.YtocfkbiojgbloaaW.PrintWords Go.Proofs.YtocfkbiojgbloaaW.PrintLast Go.Proofs.Ytocfkbiojgbloaa.Hand Go.Proofs.Ytocfkbiojgbloaa.CrcMath
set_option linter.unusedVariables false
set_option linter.unusedSimpArgs false
theorem wrap_in {i : Int} (h0 : -9223372036854775808 ≤ i) (h1 : i ≤ 9223372036854775807) : wrap64 i = i := by
  unfold wrap64
  omega
theorem rd_cons (l : List Int) (i : Nat) (h : i < l.length) : l.drop i = rd l i :: l.drop (i + 1) := by
  rw [List.drop_eq_getElem_cons h]
  simp [rd, h]
theorem More_l0 (l : List Int) (hl : l.length ≤ 9000000000000000000) (d : Nat) : ∀ (k : Nat) (x : B) (i : Nat), l.length - i = d → i ≤ l.length → d < k →
    crc_More.l0 k (x.toNat : Int) l (l.length : Int) (i : Int) = some ((~~~ raw x (l.drop i)).toNat : Int) := by
  induction d with
  | zero =>
    intro k x i hd hi hk
    obtain ⟨k, rfl⟩ : ∃ m, k = m + 1 := ⟨k - 1, by omega⟩
    simp only [crc_More.l0]
    rw [if_neg (by omega), compl_eq, List.drop_of_length_le (by omega)]
    rfl
  | succ d ih =>
    intro k x i hd hi hk
    obtain ⟨k, rfl⟩ : ∃ m, k = m + 1 := ⟨k - 1, by omega⟩
    simp only [crc_More.l0, crc_one.f]
    rw [if_pos (by omega), if_pos (by omega), if_pos (by omega)]
    simp only [Option.bind_some]
    rw [one_eq, wrap_in (by omega) (by omega), show ((i : Int) + 1) = ((i + 1 : Nat) : Int) by omega, ih k _ (i + 1) (by omega) (by omega) (by omega), rd_cons l i (by omega)]
    rfl
theorem More_f (l : List Int) (hl : l.length ≤ 9000000000000000000) (k : Nat) (hk : l.length < k) (a : B) : crc_More.f k (a.toNat : Int) l = some ((~~~ raw (~~~ a) l).toNat : Int) := by
  unfold crc_More.f
  rw [compl_eq]
  have := More_l0 l hl l.length k (~~~ a) 0 (by omega) (by omega) hk
  simpa using this
theorem Sum_f (l : List Int) (hl : l.length ≤ 9000000000000000000) (k : Nat) (hk : l.length < k) : crc_Sum.f k l = some (Hand.sum l) := by
  unfold crc_Sum.f
  have := More_f l hl k hk 0#32
  have e : ((BitVec.toNat 0#32 : Nat) : Int) = 0 := rfl
  rw [e] at this
  rw [this]
  rfl
theorem tail_f (n : Int) : crc_tail.f n = some (tailOf n) := rfl
theorem Seal_f (l : List Int) (hl : l.length + 4 < 140737488355328) (k : Nat) (hk : l.length < k) : crc_Seal.f k l = some (l ++ tailOf (Hand.sum l)) := by
  unfold crc_Seal.f crc_clone.f
  rw [if_pos (by omega), Sum_f l (by omega) k hk]
  simp only [Option.bind_some, crc_tail.f]
  rw [if_pos (by simp; omega)]
  rfl
theorem wf_take {l : List Int} (h : Wf l) (n : Nat) : Wf (l.take n) := fun x hx => h x (List.mem_of_mem_take hx)
theorem wf_drop {l : List Int} (h : Wf l) (n : Nat) : Wf (l.drop n) := fun x hx => h x (List.mem_of_mem_drop hx)
theorem four_of {l : List Int} (h : l.length = 4) : ∃ a b c d, l = [a, b, c, d] := by
  match l, h with
  | [a, b, c, d], _ => exact ⟨a, b, c, d, rfl⟩
theorem Open_short (l : List Int) (hl : l.length < 4) (k : Nat) : crc_Open.f k l = some ([], false) := by
  unfold crc_Open.f
  rw [wrap_in (by omega) (by omega), if_pos (by omega)]
theorem bytesEq (l m : List Int) (hl : Wf l) (hm : Wf m) : ((strOfNums l).toList == (strOfNums m).toList) = decide (l = m) := by
  rw [Bool.eq_iff_iff]
  simp only [beq_iff_eq, decide_eq_true_eq]
  rw [Lib.strOfNums_toList, Lib.strOfNums_toList]
  exact ⟨fun h => str_eq hl hm h, fun h => by rw [h]⟩
theorem Open_f (l : List Int) (hl : 4 ≤ l.length) (hl2 : l.length < 140737488355328) (hw : Wf l) (k : Nat) (hk : l.length < k) :
    crc_Open.f k l = some (if raw (~~~ 0#32) l = residue then (l.take (l.length - 4), true) else ([], false)) := by
  unfold crc_Open.f
  rw [wrap_in (by omega) (by omega), if_neg (by omega), if_pos (by omega), if_pos (by omega)]
  rw [show ((l.length : Int) - 4).toNat = l.length - 4 by omega]
  rw [Sum_f _ (by rw [List.length_take]; omega) k (by rw [List.length_take]; omega)]
  simp only [Option.bind_some]
  rw [tail_f]
  simp only [Option.bind_some, bytes_Equal.f]
  obtain ⟨a, b, c, d, h4⟩ := four_of (l := l.drop (l.length - 4)) (by rw [List.length_drop]; omega)
  have hsplit : l = l.take (l.length - 4) ++ [a, b, c, d] := by rw [← h4, List.take_append_drop]
  have hw4 : Wf [a, b, c, d] := by rw [← h4]; exact wf_drop hw _
  have hiff := sealed_iff (l.take (l.length - 4)) a b c d hw4
  rw [← hsplit] at hiff
  rw [h4]
  rw [bytesEq _ _ hw4 (show Wf (tailOf (Hand.sum (l.take (l.length - 4)))) from tail_wf _)]
  by_cases hr : raw (~~~ 0#32) l = residue
  · rw [if_pos hr, if_pos (decide_eq_true (hiff.1 hr))]
    unfold crc_clone.f
    rw [if_pos (by rw [List.length_take]; omega)]
    rfl
  · rw [if_neg hr, if_neg (by simp only [decide_eq_true_eq]; exact fun h => hr (hiff.2 h))]
theorem seal_wf {l : List Int} (h : Wf l) : Wf (l ++ tailOf (Hand.sum l)) := by
  intro x hx
  rcases List.mem_append.1 hx with h1 | h1
  · exact h x h1
  · exact tail_wf _ x h1
theorem alive_f (k : Nat) : chicanelaw03_alive.f k = some true := rfl
theorem bits_u8 (x y : Int) : BitVec.ofInt 32 (Go.bits .xor .u8 x y) = (BitVec.ofInt 8 x ^^^ BitVec.ofInt 8 y).setWidth 32 := by
  simp only [Go.bits, IntKind.wrap_u8]
  have := (BitVec.ofInt 8 x ^^^ BitVec.ofInt 8 y).isLt
  have e : (((BitVec.ofInt 8 x ^^^ BitVec.ofInt 8 y).toNat : Nat) : Int) % 256 = (((BitVec.ofInt 8 x ^^^ BitVec.ofInt 8 y).toNat : Nat) : Int) := by omega
  show BitVec.ofInt 32 ((((BitVec.ofInt 8 x ^^^ BitVec.ofInt 8 y).toNat : Nat) : Int) % 256) = _
  rw [e, BitVec.ofInt_natCast, BitVec.ofNat_toNat]
theorem wide8 {x : Int} (h : 0 ≤ x ∧ x ≤ 255) : (BitVec.ofInt 8 x).setWidth 32 = BitVec.ofInt 32 x := by
  obtain ⟨n, rfl⟩ := Int.eq_ofNat_of_zero_le h.1
  rw [BitVec.ofInt_natCast, BitVec.ofInt_natCast]
  apply BitVec.eq_of_toNat_eq
  rw [BitVec.toNat_setWidth, BitVec.toNat_ofNat, BitVec.toNat_ofNat]
  omega
theorem bits_u8' {x y : Int} (hx : 0 ≤ x ∧ x ≤ 255) (hy : 0 ≤ y ∧ y ≤ 255) : BitVec.ofInt 32 (Go.bits .xor .u8 x y) = BitVec.ofInt 32 x ^^^ BitVec.ofInt 32 y := by
  rw [bits_u8, BitVec.setWidth_xor, wide8 hx, wide8 hy]
theorem wf_getD {l : List Int} (h : Wf l) (i : Nat) : 0 ≤ l.getD i 0 ∧ l.getD i 0 ≤ 255 := by
  by_cases hi : i < l.length
  · have : l.getD i 0 ∈ l := by rw [List.getD_eq_getElem?_getD, List.getElem?_eq_getElem hi]; exact List.getElem_mem hi
    exact h _ this
  · rw [List.getD_eq_getElem?_getD, List.getElem?_eq_none (by omega)]; simp
theorem seal_len (l0 : List Int) : (l0 ++ tailOf (Hand.sum l0)).length = l0.length + 4 := by
  rw [List.length_append]
  congr 1
theorem Open_sealed (l0 : List Int) (hw : Wf l0) (hl : l0.length ≤ 1000) (k : Nat) (hk : l0.length + 4 < k) : crc_Open.f k (l0 ++ tailOf (Hand.sum l0)) = some (l0, true) := by
  have hlen := seal_len l0
  rw [Open_f _ (by omega) (by omega) (seal_wf hw) k (by omega), if_pos (sealed_raw l0), hlen, Nat.add_sub_cancel]
  rw [List.take_left' (l₁ := l0) (i := l0.length) rfl]
theorem own_j1 (l0 : List Int) (hw : Wf l0) (hl : l0.length ≤ 1000) (h0 : 0 < l0.length) (k : Nat) (hk : l0.length + 4 < k) : chicanelaw03_CrcOwn.j1 (k + 1) l0 (strOfNums l0) (l0 ++ tailOf (Hand.sum l0)) l0 false = some true := by
  simp only [chicanelaw03_CrcOwn.j1]
  rw [if_neg (by simp), if_pos (by omega), Open_sealed l0 hw hl k hk, alive_f]
  simp only [Option.bind_some, if_true, beq_self_eq_true]
theorem own_a (l0 : List Int) (a1 : Int) (K : Nat) (c1 : (l0.length : Int) = 0) : chicanelaw03_CrcOwn.f (K + 1 + 1) l0 a1 = some true := by
  unfold chicanelaw03_CrcOwn.f
  rw [if_pos c1]; simp only [chicanelaw03_CrcOwn.j0]; rw [if_pos trivial, alive_f]; rfl
theorem own_b (l0 : List Int) (a1 : Int) (K : Nat) (c1 : ¬ (l0.length : Int) = 0) (c2 : (l0.length : Int) > 1000) : chicanelaw03_CrcOwn.f (K + 1 + 1) l0 a1 = some true := by
  unfold chicanelaw03_CrcOwn.f
  rw [if_neg c1, decide_eq_true c2]; simp only [chicanelaw03_CrcOwn.j0]; rw [if_pos trivial, alive_f]; rfl
theorem own_c (l0 : List Int) (hw : Wf l0) (a1 : Int) (K : Nat) (hK : K = l0.length + 100) (c1 : ¬ (l0.length : Int) = 0) (c2 : ¬ (l0.length : Int) > 1000) : chicanelaw03_CrcOwn.f (K + 1 + 1) l0 a1 = some true := by
  unfold chicanelaw03_CrcOwn.f
  have hlen := seal_len l0
  rw [if_neg c1, decide_eq_false c2]
  simp only [chicanelaw03_CrcOwn.j0]
  rw [if_neg (by decide), Seal_f l0 (by omega) _ (by omega)]
  rw [Option.bind_some]
  rw [hlen, wrap_in (by omega) (by omega), if_pos (by omega), if_pos (by omega)]
  rw [Option.bind_some, Open_sealed l0 hw (by omega) _ (by omega)]
  rw [Option.bind_some]
  dsimp only
  rw [if_pos rfl]
  have e : ((l0.length : Int) != (l0.length : Int)) = false := bne_self_eq_false _
  rw [e]
  exact own_j1 l0 hw (by omega) (by omega) K (by omega)
theorem CrcOwn : chicanelaw03_CrcOwn.Pure := by
  intro l0 a1 _ hm0 hw0 _
  refine ⟨l0.length + 100 + 1 + 1, ?_⟩
  by_cases c1 : (l0.length : Int) = 0
  · exact own_a l0 a1 _ c1
  by_cases c2 : (l0.length : Int) > 1000
  · exact own_b l0 a1 _ c1 c2
  exact own_c l0 (wf_of hw0) a1 _ rfl c1 c2
end Go.Proofs.Ytocfkbiojgbloaa.Pure
