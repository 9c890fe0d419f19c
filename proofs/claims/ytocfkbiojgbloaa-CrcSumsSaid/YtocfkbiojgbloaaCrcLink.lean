/- The walk's words for the sum, in those of the plain law. -/
import Derived.Test.YtocfkbiojgbloaaOne
import Derived.Test.YtocfkbiojgbloaaCrcMath
import Derived.Laws.BytesArg
namespace Go.Proofs.Ytocfkbiojgbloaa.Hand
open Go Go.Proofs.Ytocfkbiojgbloaa.CrcMath

theorem bits_xor (x y : Int) : Go.bits .xor .u32 x y = ((BitVec.ofInt 32 x ^^^ BitVec.ofInt 32 y).toNat : Int) := by
  simp only [Go.bits, IntKind.wrap_u32]
  have := (BitVec.ofInt 32 x ^^^ BitVec.ofInt 32 y).isLt
  show (((BitVec.ofInt 32 x ^^^ BitVec.ofInt 32 y).toNat : Nat) : Int) % 4294967296 = _
  omega
theorem bits_and (x y : Int) : Go.bits .and .u32 x y = ((BitVec.ofInt 32 x &&& BitVec.ofInt 32 y).toNat : Int) := by
  simp only [Go.bits, IntKind.wrap_u32]
  have := (BitVec.ofInt 32 x &&& BitVec.ofInt 32 y).isLt
  show (((BitVec.ofInt 32 x &&& BitVec.ofInt 32 y).toNat : Nat) : Int) % 4294967296 = _
  omega
theorem ofInt_mod (x : Int) : BitVec.ofInt 32 (x % 4294967296) = BitVec.ofInt 32 x := by
  apply BitVec.eq_of_toInt_eq
  rw [BitVec.toInt_ofInt, BitVec.toInt_ofInt]; exact Int.emod_bmod _ _
theorem stp_eq (x : B) : stp (x.toNat : Int) = ((CrcMath.step x).toNat : Int) := by
  unfold stp
  rw [bits_xor, bits_and, bits_and, ofInt_mod]
  congr 2
  unfold CrcMath.step
  have e1 : BitVec.ofInt 32 ((x.toNat : Int) / 2) = x >>> 1 := by
    have : ((x.toNat : Int) / 2) = ((x.toNat / 2 : Nat) : Int) := by omega
    rw [this, BitVec.ofInt_natCast]
    apply BitVec.eq_of_toNat_eq
    rw [BitVec.toNat_ofNat, BitVec.toNat_ushiftRight, Nat.shiftRight_eq_div_pow]
    have := x.isLt
    omega
  rw [e1]
  congr 1
  have e0 : BitVec.ofInt 32 (x.toNat : Int) = x := ofInt_toNat x
  rw [e0]
  have e2 : x &&& BitVec.ofInt 32 1 = if x.getLsbD 0 then 1#32 else 0#32 := by
    apply BitVec.eq_of_getLsbD_eq
    intro i hi
    rw [BitVec.getLsbD_and]
    have : (BitVec.ofInt 32 1) = 1#32 := by decide
    rw [this, BitVec.getLsbD_one]
    by_cases h0 : i = 0
    · subst h0; cases h : x.getLsbD 0 <;> simp
    · cases h : x.getLsbD 0 <;> simp [h0, BitVec.getLsbD_one]
  rw [e2]
  cases x.getLsbD 0 <;> decide
theorem stpN_eq (n : Nat) : ∀ x : B, stpN n (x.toNat : Int) = ((steps n x).toNat : Int) := by
  induction n with
  | zero => intro x; rfl
  | succ n ih => intro x; show stpN n (stp x.toNat) = _; rw [stp_eq, ih]; rfl
theorem one_eq (x : B) (c : Int) : one (x.toNat : Int) c = ((steps 8 (x ^^^ BitVec.ofInt 32 c)).toNat : Int) := by
  unfold one
  rw [bits_xor, ofInt_mod, ofInt_toNat, stpN_eq]
theorem compl_eq (x : B) : Go.bits .xor .u32 IntKind.u32.max (x.toNat : Int) = ((~~~ x).toNat : Int) := by
  rw [bits_xor, ofInt_toNat]
  have : BitVec.ofInt 32 IntKind.u32.max = BitVec.allOnes 32 := by decide
  rw [this, BitVec.allOnes_xor]
/-- The sum. -/
def sumB (l : List Int) : B := ~~~ raw (~~~ 0#32) l
def sum (l : List Int) : Int := ((sumB l).toNat : Int)
/-- What is left of something sealed. -/
def residue : B := steps 32 (BitVec.allOnes 32)
def Wf (l : List Int) : Prop := ∀ x ∈ l, 0 ≤ x ∧ x ≤ 255
theorem wf_of {l : List Int} (h : ∀ x ∈ l, (Lit.int .u8 x).wf = true) : Wf l := by
  intro x hx
  have := h x hx
  simp [Lit.wf, IntKind.min, IntKind.max, IntKind.signed, IntKind.bits] at this
  omega
theorem tail_wf (b : B) : Wf (tailOf (b.toNat : Int)) := by
  intro x hx
  simp [tailOf] at hx
  omega
/-- Is it sealed? -/
theorem sealed_iff (m : List Int) (a b c d : Int) (h : Wf [a, b, c, d]) : raw (~~~ 0#32) (m ++ [a, b, c, d]) = residue ↔ [a, b, c, d] = tailOf (sum m) := by
  have ha := h a (by simp)
  have hb := h b (by simp)
  have hc := h c (by simp)
  have hd := h d (by simp)
  rw [raw_append, raw_four _ _ _ _ _ hb hc hd]
  have hw := word_tail (sumB m)
  constructor
  · intro e
    have e2 := steps_inj 32 e
    have e3 : word a b c d = sumB m := by
      have := congrArg (raw (~~~ 0#32) m ^^^ ·) e2
      simp only [← BitVec.xor_assoc, BitVec.xor_self, BitVec.zero_xor, BitVec.xor_allOnes] at this
      exact this
    rw [← hw] at e3
    have := word_inj ha hb hc hd ⟨by omega, by omega⟩ ⟨by omega, by omega⟩ ⟨by omega, by omega⟩ ⟨by omega, by omega⟩ e3
    obtain ⟨p, q, r, s⟩ := this
    simp only [tailOf, sum]
    rw [p, q, r, s]
  · intro e
    simp only [tailOf, List.cons.injEq, and_true] at e
    obtain ⟨p, q, r, s⟩ := e
    have : word a b c d = sumB m := by rw [p, q, r, s]; exact hw
    rw [this]
    unfold residue sumB
    congr 1
    generalize raw (~~~ 0#32) m = q
    rw [← BitVec.xor_allOnes, ← BitVec.xor_assoc]
    simp
theorem sealed_raw (m : List Int) : raw (~~~ 0#32) (m ++ tailOf (sum m)) = residue := (sealed_iff m _ _ _ _ (tail_wf _)).2 rfl
theorem str_eq {l m : List Int} (hl : Wf l) (hm : Wf m) (h : l.map (fun n => UInt8.ofNat n.toNat) = m.map (fun n => UInt8.ofNat n.toNat)) : l = m := by
  induction l generalizing m with
  | nil => cases m with
    | nil => rfl
    | cons => simp at h
  | cons a l ih =>
    cases m with
    | nil => simp at h
    | cons b m =>
      simp only [List.map_cons, List.cons.injEq] at h
      have ha := hl a (by simp)
      have hb := hm b (by simp)
      have e := congrArg UInt8.toNat h.1
      simp only [UInt8.toNat_ofNat'] at e
      have : a = b := by omega
      rw [this, ih (fun x hx => hl x (by simp [hx])) (fun x hx => hm x (by simp [hx])) h.2]
end Go.Proofs.Ytocfkbiojgbloaa.Hand
