import Derived.Laws.BitsLemmas
import Derived.RowKit
import Derived.Test.YtmklmpajcomimaaZLeb
import Derived.Laws.BytesArg
import Derived.Test.YtmklmpajcomimaaZLebs
section
/- The plain law of the sum: a register of 32 bits, linear and one to one. No program in sight. -/
namespace Go.Proofs.Ytmklmpajcomimaa.CrcMath
open Go

abbrev B := BitVec 32
def poly : B := 0xedb88320#32
/-- One step of the register. -/
def step (x : B) : B := (x >>> 1) ^^^ (if x.getLsbD 0 then poly else 0#32)
def steps : Nat → B → B
  | 0, x => x
  | n + 1, x => steps n (step x)
/-- The register behind bytes. -/
def raw : B → List Int → B
  | x, [] => x
  | x, c :: l => raw (steps 8 (x ^^^ BitVec.ofInt 32 c)) l

theorem step_xor (x y : B) : step (x ^^^ y) = step x ^^^ step y := by
  unfold step
  rw [BitVec.ushiftRight_xor_distrib, BitVec.getLsbD_xor]
  cases x.getLsbD 0 <;> cases y.getLsbD 0 <;> simp [BitVec.xor_assoc]
  · exact BitVec.xor_comm _ _
  · rw [BitVec.xor_comm poly (y >>> 1 ^^^ poly), BitVec.xor_assoc, BitVec.xor_self]; simp
theorem step_zero : step 0#32 = 0#32 := by decide
theorem steps_xor (n : Nat) : ∀ x y : B, steps n (x ^^^ y) = steps n x ^^^ steps n y := by
  induction n with
  | zero => intro x y; rfl
  | succ n ih => intro x y; show steps n (step (x ^^^ y)) = _; rw [step_xor, ih]; rfl
theorem steps_zero (n : Nat) : steps n 0#32 = 0#32 := by
  induction n with
  | zero => rfl
  | succ n ih => show steps n (step 0#32) = _; rw [step_zero, ih]
theorem steps_add (m n : Nat) : ∀ x : B, steps (m + n) x = steps n (steps m x) := by
  induction m with
  | zero => intro x; rw [Nat.zero_add]; rfl
  | succ m ih => intro x; rw [show m + 1 + n = (m + n) + 1 by omega]; show steps (m + n) (step x) = _; rw [ih]; rfl
theorem step_eq_zero {x : B} (h : step x = 0#32) : x = 0#32 := by
  unfold step at h
  have h31 : (x >>> 1 ^^^ (if x.getLsbD 0 then poly else 0#32)).getLsbD 31 = (0#32 : B).getLsbD 31 := by rw [h]
  rw [BitVec.getLsbD_xor, BitVec.getLsbD_ushiftRight] at h31
  have h32 : x.getLsbD (1 + 31) = false := BitVec.getLsbD_of_ge _ _ (by decide)
  rw [h32] at h31
  cases h0 : x.getLsbD 0 with
  | true => rw [h0] at h31; exact absurd h31 (by decide)
  | false =>
    rw [h0] at h
    simp only [Bool.false_eq_true, if_false, BitVec.xor_zero] at h
    apply BitVec.eq_of_getLsbD_eq
    intro i hi
    cases i with
    | zero => rw [h0]; simp
    | succ i =>
      have := congrArg (fun b : B => b.getLsbD i) h
      simp only [BitVec.getLsbD_ushiftRight] at this
      rw [Nat.add_comm i 1, this]; simp
theorem steps_eq_zero (n : Nat) : ∀ {x : B}, steps n x = 0#32 → x = 0#32 := by
  induction n with
  | zero => intro x h; exact h
  | succ n ih => intro x h; exact step_eq_zero (ih h)
theorem xor_eq_zero {x y : B} (h : x ^^^ y = 0#32) : x = y := by
  have := congrArg (· ^^^ y) h
  simpa [BitVec.xor_assoc] using this
theorem steps_inj (n : Nat) {x y : B} (h : steps n x = steps n y) : x = y := by
  apply xor_eq_zero
  apply steps_eq_zero n
  rw [steps_xor, h]; simp
/-- What has no low bit is shifted. -/
theorem step_even {x : B} (h : x.getLsbD 0 = false) : step x = x >>> 1 := by unfold step; rw [h]; simp
theorem step_shl (x : B) (h : x.getLsbD 31 = false) : step (x <<< 1) = x := by
  rw [step_even (by simp)]
  apply BitVec.eq_of_getLsbD_eq
  intro i hi
  rw [BitVec.getLsbD_ushiftRight, BitVec.getLsbD_shiftLeft]
  by_cases h31 : i = 31
  · subst h31; rw [h]; simp
  · have h1 : 1 + i < 32 := by omega
    have h2 : 1 + i - 1 = i := by omega
    simp [h1, h2]
/-- A small number, shifted up, comes down again. -/
theorem steps_shl (n : Nat) : ∀ (x : B), (∀ i, 32 - n ≤ i → x.getLsbD i = false) → steps n (x <<< n) = x := by
  induction n with
  | zero => intro x _; simp [steps]
  | succ n ih =>
    intro x h
    show steps n (step (x <<< (n + 1))) = x
    have e : x <<< (n + 1) = (x <<< n) <<< 1 := by rw [BitVec.shiftLeft_add]
    rw [e, step_shl, ih x (fun i hi => h i (by omega))]
    rw [BitVec.getLsbD_shiftLeft]
    by_cases hn : n ≤ 31
    · rw [h (31 - n) (by omega)]; simp
    · have : 31 < n := by omega
      simp [this]
theorem steps_one_shl (n : Nat) (hn : n ≤ 31) : steps n (1#32 <<< n) = 1#32 := by
  apply steps_shl
  intro i hi
  have : i ≠ 0 := by omega
  simp [BitVec.getLsbD_one, this]

theorem raw_append (l m : List Int) : ∀ x, raw x (l ++ m) = raw (raw x l) m := by
  induction l with
  | nil => intro x; rfl
  | cons c l ih => intro x; exact ih _
/-- A difference in the register goes through as if there were noughts. -/
theorem raw_xor (l : List Int) : ∀ x d : B, raw (x ^^^ d) l = raw x l ^^^ steps (8 * l.length) d := by
  induction l with
  | nil => intro x d; rfl
  | cons c l ih =>
    intro x d
    show raw (steps 8 (x ^^^ d ^^^ BitVec.ofInt 32 c)) l = _
    have e : x ^^^ d ^^^ BitVec.ofInt 32 c = (x ^^^ BitVec.ofInt 32 c) ^^^ d := by rw [BitVec.xor_assoc, BitVec.xor_comm d, ← BitVec.xor_assoc]
    rw [e, steps_xor, ih]
    show _ = raw (steps 8 (x ^^^ BitVec.ofInt 32 c)) l ^^^ _
    congr 1
theorem raw_inj (l : List Int) {x y : B} (h : raw x l = raw y l) : x = y := by
  have e : y = x ^^^ (x ^^^ y) := by rw [← BitVec.xor_assoc]; simp
  rw [e, raw_xor] at h
  have h2 : steps (8 * l.length) (x ^^^ y) = 0#32 := by
    have := congrArg (raw x l ^^^ ·) h
    simp only [BitVec.xor_self, ← BitVec.xor_assoc, BitVec.zero_xor] at this
    exact this.symm
  exact xor_eq_zero (steps_eq_zero _ h2)
/-- One byte is another one. -/
theorem raw_set (l : List Int) : ∀ (x : B) (i : Nat) (c : Int), i < l.length →
    raw x (l.set i c) = raw x l ^^^ steps (8 * (l.length - i)) (BitVec.ofInt 32 c ^^^ BitVec.ofInt 32 (l.getD i 0)) := by
  induction l with
  | nil => intro x i c h; simp at h
  | cons a l ih =>
    intro x i c h
    cases i with
    | zero =>
      show raw (steps 8 (x ^^^ BitVec.ofInt 32 c)) l = raw (steps 8 (x ^^^ BitVec.ofInt 32 a)) l ^^^ _
      have e : x ^^^ BitVec.ofInt 32 c = (x ^^^ BitVec.ofInt 32 a) ^^^ (BitVec.ofInt 32 c ^^^ BitVec.ofInt 32 a) := by
        rw [BitVec.xor_comm (BitVec.ofInt 32 c), BitVec.xor_assoc, ← BitVec.xor_assoc (BitVec.ofInt 32 a), BitVec.xor_self, BitVec.zero_xor]
      rw [e, steps_xor, raw_xor]
      congr 1
    | succ i =>
      have := ih (steps 8 (x ^^^ BitVec.ofInt 32 a)) i c (by simpa using h)
      show raw (steps 8 (x ^^^ BitVec.ofInt 32 a)) (l.set i c) = _
      rw [this]
      simp [raw]
/-- Two rows as long. -/
theorem raw_lin (l : List Int) : ∀ (m o : List Int) (x y : B), m.length = l.length → o.length = l.length → (∀ i, i < l.length → BitVec.ofInt 32 (o.getD i 0) = BitVec.ofInt 32 (l.getD i 0) ^^^ BitVec.ofInt 32 (m.getD i 0)) →
    raw (x ^^^ y) o = raw x l ^^^ raw y m := by
  induction l with
  | nil => intro m o x y h1 h2 _; simp at h1 h2; subst h1 h2; rfl
  | cons a l ih =>
    intro m o x y h1 h2 h
    cases m with
    | nil => simp at h1
    | cons b m =>
    cases o with
    | nil => simp at h2
    | cons c o =>
      have h0 : BitVec.ofInt 32 c = BitVec.ofInt 32 a ^^^ BitVec.ofInt 32 b := by have := h 0 (by simp); simpa using this
      show raw (steps 8 (x ^^^ y ^^^ BitVec.ofInt 32 c)) o = raw (steps 8 (x ^^^ BitVec.ofInt 32 a)) l ^^^ raw (steps 8 (y ^^^ BitVec.ofInt 32 b)) m
      have e : x ^^^ y ^^^ BitVec.ofInt 32 c = (x ^^^ BitVec.ofInt 32 a) ^^^ (y ^^^ BitVec.ofInt 32 b) := by
        rw [h0]
        ac_rfl
      rw [e, steps_xor]
      apply ih
      · simpa using h1
      · simpa using h2
      · intro i hi
        have := h (i + 1) (by simpa using hi)
        simpa using this
/-! ### four bytes -/
theorem ofInt_toNat (b : B) : BitVec.ofInt 32 (b.toNat : Int) = b := by simp
def tailOf (n : Int) : List Int := [n % 256, (n / 256) % 256, (n / 65536) % 256, (n / 16777216) % 256]
theorem range_of (b : B) : 0 ≤ (b.toNat : Int) ∧ (b.toNat : Int) ≤ 4294967295 := by have := b.isLt; omega
/-- The number of four bytes. -/
def word (a b c d : Int) : B := BitVec.ofInt 32 a ^^^ (BitVec.ofInt 32 b) <<< 8 ^^^ (BitVec.ofInt 32 c) <<< 16 ^^^ (BitVec.ofInt 32 d) <<< 24
theorem small_bits {a : Int} (h0 : 0 ≤ a) (h1 : a ≤ 255) : ∀ i, 8 ≤ i → (BitVec.ofInt 32 a).getLsbD i = false := by
  intro i hi
  obtain ⟨n, rfl⟩ := Int.eq_ofNat_of_zero_le h0
  rw [BitVec.ofInt_natCast, BitVec.getLsbD_ofNat]
  have : n < 2 ^ i := Nat.lt_of_lt_of_le (show n < 2 ^ 8 by omega) (Nat.pow_le_pow_right (by decide) hi)
  simp [Nat.testBit_lt_two_pow this]
theorem raw_four (x : B) (a b c d : Int) (hb : 0 ≤ b ∧ b ≤ 255) (hc : 0 ≤ c ∧ c ≤ 255) (hd : 0 ≤ d ∧ d ≤ 255) : raw x [a, b, c, d] = steps 32 (x ^^^ word a b c d) := by
  show steps 8 (steps 8 (steps 8 (steps 8 (x ^^^ BitVec.ofInt 32 a) ^^^ BitVec.ofInt 32 b) ^^^ BitVec.ofInt 32 c) ^^^ BitVec.ofInt 32 d) = _
  have eb : BitVec.ofInt 32 b = steps 8 ((BitVec.ofInt 32 b) <<< 8) := (steps_shl 8 _ (fun i hi => small_bits hb.1 hb.2 i (by omega))).symm
  have ec : BitVec.ofInt 32 c = steps 16 ((BitVec.ofInt 32 c) <<< 16) := (steps_shl 16 _ (fun i hi => small_bits hc.1 hc.2 i (by omega))).symm
  have ed : BitVec.ofInt 32 d = steps 24 ((BitVec.ofInt 32 d) <<< 24) := (steps_shl 24 _ (fun i hi => small_bits hd.1 hd.2 i (by omega))).symm
  have s16 : ∀ z, steps 8 (steps 8 z) = steps 16 z := fun z => (steps_add 8 8 z).symm
  have s24 : ∀ z, steps 8 (steps 16 z) = steps 24 z := fun z => (steps_add 16 8 z).symm
  have s32 : ∀ z, steps 8 (steps 24 z) = steps 32 z := fun z => (steps_add 24 8 z).symm
  conv => lhs; rw [eb, ec, ed]
  rw [← steps_xor, s16, ← steps_xor, s24, ← steps_xor, s32]
  unfold word
  generalize BitVec.ofInt 32 a = p
  generalize (BitVec.ofInt 32 b) <<< 8 = q
  generalize (BitVec.ofInt 32 c) <<< 16 = r
  generalize (BitVec.ofInt 32 d) <<< 24 = t
  rw [BitVec.xor_assoc, BitVec.xor_assoc, BitVec.xor_assoc, BitVec.xor_assoc, BitVec.xor_assoc]
theorem word_tail (n : B) : word ((n.toNat : Int) % 256) (((n.toNat : Int) / 256) % 256) (((n.toNat : Int) / 65536) % 256) (((n.toNat : Int) / 16777216) % 256) = n := by
  have key : ∀ (j : Nat) (q : Int), q = ((n.toNat / 2 ^ (8 * j) % 256 : Nat) : Int) → BitVec.ofInt 32 q = (n >>> (8 * j)) &&& 255#32 := by
    intro j q hq
    rw [hq, BitVec.ofInt_natCast]
    apply BitVec.eq_of_toNat_eq
    rw [BitVec.toNat_ofNat, BitVec.toNat_and, BitVec.toNat_ushiftRight, Nat.shiftRight_eq_div_pow]
    have : (255#32).toNat = 2 ^ 8 - 1 := by decide
    rw [this, Nat.and_two_pow_sub_one_eq_mod]
    omega
  unfold word
  rw [key 0 _ (by simp), key 1 _ (by simp), key 2 _ (by simp), key 3 _ (by simp)]
  apply BitVec.eq_of_getLsbD_eq
  intro i hi
  simp only [BitVec.getLsbD_xor, BitVec.getLsbD_shiftLeft, BitVec.getLsbD_and, BitVec.getLsbD_ushiftRight]
  have h255 : ∀ k, (255#32).getLsbD k = decide (k < 8) := by
    intro k
    by_cases hk : k < 32
    · revert k; decide
    · rw [BitVec.getLsbD_of_ge _ _ (by omega)]; simp; omega
  simp only [h255]
  by_cases h8 : i < 8
  · simp [h8, show i < 16 by omega, show i < 24 by omega, hi]
  · by_cases h16 : i < 16
    · simp [h8, h16, show i < 24 by omega, hi, show i - 8 < 8 by omega, show 8 + (i - 8) = i by omega]
    · by_cases h24 : i < 24
      · simp [h8, h16, h24, hi, show ¬ i - 8 < 8 by omega, show i - 16 < 8 by omega, show 16 + (i - 16) = i by omega]
      · simp [h8, h16, h24, hi, show ¬ i - 8 < 8 by omega, show ¬ i - 16 < 8 by omega, show i - 24 < 8 by omega, show 24 + (i - 24) = i by omega]
theorem word_inj {a b c d a' b' c' d' : Int} (ha : 0 ≤ a ∧ a ≤ 255) (hb : 0 ≤ b ∧ b ≤ 255) (hc : 0 ≤ c ∧ c ≤ 255) (hd : 0 ≤ d ∧ d ≤ 255) (ha' : 0 ≤ a' ∧ a' ≤ 255) (hb' : 0 ≤ b' ∧ b' ≤ 255) (hc' : 0 ≤ c' ∧ c' ≤ 255) (hd' : 0 ≤ d' ∧ d' ≤ 255) (h : word a b c d = word a' b' c' d') : a = a' ∧ b = b' ∧ c = c' ∧ d = d' := by
  have key : ∀ {p q r s : Int}, 0 ≤ p ∧ p ≤ 255 → 0 ≤ q ∧ q ≤ 255 → 0 ≤ r ∧ r ≤ 255 → 0 ≤ s ∧ s ≤ 255 → ((word p q r s).toNat : Int) = p + 256 * q + 65536 * r + 16777216 * s := by
    intro p q r s hp hq hr hs
    obtain ⟨n, hn⟩ : ∃ n : Nat, (n : Int) = p + 256 * q + 65536 * r + 16777216 * s := ⟨(p + 256 * q + 65536 * r + 16777216 * s).toNat, by omega⟩
    have hlt : n < 4294967296 := by omega
    have e := word_tail (BitVec.ofNat 32 n)
    have e2 : (BitVec.ofNat 32 n).toNat = n := by rw [BitVec.toNat_ofNat]; omega
    rw [e2, hn] at e
    have q1 : (p + 256 * q + 65536 * r + 16777216 * s) % 256 = p := by omega
    have q2 : (p + 256 * q + 65536 * r + 16777216 * s) / 256 % 256 = q := by omega
    have q3 : (p + 256 * q + 65536 * r + 16777216 * s) / 65536 % 256 = r := by omega
    have q4 : (p + 256 * q + 65536 * r + 16777216 * s) / 16777216 % 256 = s := by omega
    rw [q1, q2, q3, q4] at e
    rw [e, e2, hn]
  have h1 := key ha hb hc hd
  have h2 := key ha' hb' hc' hd'
  rw [h, h2] at h1
  omega
end Go.Proofs.Ytmklmpajcomimaa.CrcMath
end

section
/- The walk's words for the sum, in those of the plain law. -/
namespace Go.Proofs.Ytmklmpajcomimaa.Hand
open Go Go.Proofs.Ytmklmpajcomimaa.CrcMath

theorem bits_xor (x y : Int) : Go.bits .xor .u32 x y = ((BitVec.ofInt 32 x ^^^ BitVec.ofInt 32 y).toNat : Int) := by
  simp only [Go.bits, IntKind.wrap_u32]
  have := (BitVec.ofInt 32 x ^^^ BitVec.ofInt 32 y).isLt
  show (((BitVec.ofInt 32 x ^^^ BitVec.ofInt 32 y).toNat : Nat) : Int) % 4294967296 = _
  omega
theorem bits_and (x y : Int) : Go.bits .and .u32 x y = ((BitVec.ofInt 32 x &&& BitVec.ofInt 32 y).toNat : Int) := by
  simp only [Go.bits, IntKind.wrap_u32]
  have := (BitVec.ofInt 32 x &&& BitVec.ofInt 32 y).isLt
  show (((BitVec.ofInt 32 x &&& BitVec.ofInt 32 y).toNat : Nat) : Int) % 4294967296 = _
  omega
theorem ofInt_mod (x : Int) : BitVec.ofInt 32 (x % 4294967296) = BitVec.ofInt 32 x := by
  apply BitVec.eq_of_toInt_eq
  rw [BitVec.toInt_ofInt, BitVec.toInt_ofInt]; exact Int.emod_bmod _ _
theorem stp_eq (x : B) : stp (x.toNat : Int) = ((CrcMath.step x).toNat : Int) := by
  unfold stp
  rw [bits_xor, bits_and, bits_and, ofInt_mod]
  congr 2
  unfold CrcMath.step
  have e1 : BitVec.ofInt 32 ((x.toNat : Int) / 2) = x >>> 1 := by
    have : ((x.toNat : Int) / 2) = ((x.toNat / 2 : Nat) : Int) := by omega
    rw [this, BitVec.ofInt_natCast]
    apply BitVec.eq_of_toNat_eq
    rw [BitVec.toNat_ofNat, BitVec.toNat_ushiftRight, Nat.shiftRight_eq_div_pow]
    have := x.isLt
    omega
  rw [e1]
  congr 1
  have e0 : BitVec.ofInt 32 (x.toNat : Int) = x := ofInt_toNat x
  rw [e0]
  have e2 : x &&& BitVec.ofInt 32 1 = if x.getLsbD 0 then 1#32 else 0#32 := by
    apply BitVec.eq_of_getLsbD_eq
    intro i hi
    rw [BitVec.getLsbD_and]
    have : (BitVec.ofInt 32 1) = 1#32 := by decide
    rw [this, BitVec.getLsbD_one]
    by_cases h0 : i = 0
    · subst h0; cases h : x.getLsbD 0 <;> simp
    · cases h : x.getLsbD 0 <;> simp [h0, BitVec.getLsbD_one]
  rw [e2]
  cases x.getLsbD 0 <;> decide
theorem stpN_eq (n : Nat) : ∀ x : B, stpN n (x.toNat : Int) = ((steps n x).toNat : Int) := by
  induction n with
  | zero => intro x; rfl
  | succ n ih => intro x; show stpN n (stp x.toNat) = _; rw [stp_eq, ih]; rfl
theorem one_eq (x : B) (c : Int) : one (x.toNat : Int) c = ((steps 8 (x ^^^ BitVec.ofInt 32 c)).toNat : Int) := by
  unfold one
  rw [bits_xor, ofInt_mod, ofInt_toNat, stpN_eq]
theorem compl_eq (x : B) : Go.bits .xor .u32 IntKind.u32.max (x.toNat : Int) = ((~~~ x).toNat : Int) := by
  rw [bits_xor, ofInt_toNat]
  have : BitVec.ofInt 32 IntKind.u32.max = BitVec.allOnes 32 := by decide
  rw [this, BitVec.allOnes_xor]
/-- The sum. -/
def sumB (l : List Int) : B := ~~~ raw (~~~ 0#32) l
def sum (l : List Int) : Int := ((sumB l).toNat : Int)
/-- What is left of something sealed. -/
def residue : B := steps 32 (BitVec.allOnes 32)
def Wf (l : List Int) : Prop := ∀ x ∈ l, 0 ≤ x ∧ x ≤ 255
theorem wf_of {l : List Int} (h : ∀ x ∈ l, (Lit.int .u8 x).wf = true) : Wf l := by
  intro x hx
  have := h x hx
  simp [Lit.wf, IntKind.min, IntKind.max, IntKind.signed, IntKind.bits] at this
  omega
theorem tail_wf (b : B) : Wf (tailOf (b.toNat : Int)) := by
  intro x hx
  simp [tailOf] at hx
  omega
/-- Is it sealed? -/
theorem sealed_iff (m : List Int) (a b c d : Int) (h : Wf [a, b, c, d]) : raw (~~~ 0#32) (m ++ [a, b, c, d]) = residue ↔ [a, b, c, d] = tailOf (sum m) := by
  have ha := h a (by simp)
  have hb := h b (by simp)
  have hc := h c (by simp)
  have hd := h d (by simp)
  rw [raw_append, raw_four _ _ _ _ _ hb hc hd]
  have hw := word_tail (sumB m)
  constructor
  · intro e
    have e2 := steps_inj 32 e
    have e3 : word a b c d = sumB m := by
      have := congrArg (raw (~~~ 0#32) m ^^^ ·) e2
      simp only [← BitVec.xor_assoc, BitVec.xor_self, BitVec.zero_xor, BitVec.xor_allOnes] at this
      exact this
    rw [← hw] at e3
    have := word_inj ha hb hc hd ⟨by omega, by omega⟩ ⟨by omega, by omega⟩ ⟨by omega, by omega⟩ ⟨by omega, by omega⟩ e3
    obtain ⟨p, q, r, s⟩ := this
    simp only [tailOf, sum]
    rw [p, q, r, s]
  · intro e
    simp only [tailOf, List.cons.injEq, and_true] at e
    obtain ⟨p, q, r, s⟩ := e
    have : word a b c d = sumB m := by rw [p, q, r, s]; exact hw
    rw [this]
    unfold residue sumB
    congr 1
    generalize raw (~~~ 0#32) m = q
    rw [← BitVec.xor_allOnes, ← BitVec.xor_assoc]
    simp
theorem sealed_raw (m : List Int) : raw (~~~ 0#32) (m ++ tailOf (sum m)) = residue := (sealed_iff m _ _ _ _ (tail_wf _)).2 rfl
theorem str_eq {l m : List Int} (hl : Wf l) (hm : Wf m) (h : l.map (fun n => UInt8.ofNat n.toNat) = m.map (fun n => UInt8.ofNat n.toNat)) : l = m := by
  induction l generalizing m with
  | nil => cases m with
    | nil => rfl
    | cons => simp at h
  | cons a l ih =>
    cases m with
    | nil => simp at h
    | cons b m =>
      simp only [List.map_cons, List.cons.injEq] at h
      have ha := hl a (by simp)
      have hb := hm b (by simp)
      have e := congrArg UInt8.toNat h.1
      simp only [UInt8.toNat_ofNat'] at e
      have : a = b := by omega
      rw [this, ih (fun x hx => hl x (by simp [hx])) (fun x hx => hm x (by simp [hx])) h.2]
end Go.Proofs.Ytmklmpajcomimaa.Hand
end

section
/- Sums, what is sealed, what is opened: in plain lists. -/
namespace Go.Proofs.Ytmklmpajcomimaa.Hand
open Go.RowKit Go.Proofs.YtmklmpajcomimaaW.PrintWords Go.Proofs.YtmklmpajcomimaaW.PrintLast Go.Proofs.YtmklmpajcomimaaW.PrintMore Go.Proofs.Ytmklmpajcomimaa.PTraceWrites Go.Proofs.Ytmklmpajcomimaa.CrcMath
set_option linter.unusedVariables false
set_option linter.unusedSimpArgs false
def TOpen : Bool × List (List Nat × List Nat) := (true, [([], []), ([0], [0]), ([1], [1]), ([2], [2]), ([2], [2]), ([3, 4, 2], [2, 3, 4]), ([2], [2]), ([2], [2]), ([6, 7, 2], [2, 6, 7]), ([8, 2, 2], [2, 8]), ([9, 9, 2], [2, 9]), ([5, 10, 10, 2], [2, 5, 10]), ([11, 2], [2, 11]), ([2, 12], [2, 12])])
def BOpen : List Nat := [0, 1, 3, 7, 7, 31, 7, 7, 199, 455, 967, 2047, 4095, 8191]
theorem tabOpen : rtab .any (opsOf Try.f66 2) = TOpen := by kernel_rfl
theorem bitsOpen : waitsOk TOpen.2 BOpen = true := by kernel_rfl
theorem raw_snoc (x : B) (l : List Int) (c : Int) : raw x (l ++ [c]) = steps 8 (raw x l ^^^ BitVec.ofInt 32 c) := by rw [raw_append]; rfl
theorem rd_at (l : List Int) (k : Nat) (h : k < l.length) : rd l (k : Int) = l[k] := by
  unfold rd
  rw [Int.toNat_natCast, List.getD_eq_getElem?_getD, List.getElem?_eq_getElem h]
  rfl
theorem more_calls (A : Option Addr) (c : Nat) (l : List Int) (w : World) (hr : Kd.C (Kd.int .u8) w A l.length l) : Calls Try.prog 64 #[.int .u32 0, .slice A l.length c] w fun e w' => e = .returned (.int .u32 (sum l)) ∧ w = w' := by
  have hm := hr.2.1
  have HR := Lib.hid hr
  clear hr
  have hx0 : ((4294967295 : Int)) = ((raw (~~~ 0#32) []).toNat : Int) := by decide
  have hS : sum l = ((4294967295 - (raw (~~~ 0#32) l).toNat : Nat) : Int) := by
    show ((~~~ raw (~~~ 0#32) l).toNat : Int) = _
    rw [BitVec.toNat_not]
  have HS := Lib.hid hS
  clear hS
  generalize (~~~ 0#32 : B) = x0 at hx0 HS
  have HX0 := Lib.hid hx0
  clear hx0
  go_enter Try.func64, Try.ntmps64
  go_wp2_with fail
  go_loop [5, 12] (fun u5 u12 => ∃ k : Nat, k ≤ l.length ∧ u12 = .int .i64 k ∧ u5 = .int .u32 ((raw x0 (l.take k)).toNat : Int)) (fun _ u12 => l.length - (intOf u12).toNat)
  case atStart => exact ⟨0, Nat.zero_le _, rfl, congrArg _ HX0.out⟩
  case round =>
    obtain ⟨k, hk, rfl, rfl⟩ := hrel
    by_cases hlt : k < l.length
    · obtain ⟨ad, rfl, hcell⟩ := Kd.at_int HR.out (k : Int) (by omega) (by omega)
      rw [Int.toNat_natCast, rd_at l k hlt] at hcell
      have hsn : raw x0 (l.take (k + 1)) = steps 8 (raw x0 (l.take k) ^^^ BitVec.ofInt 32 l[k]) := by
        rw [List.take_succ_eq_append_getElem hlt, raw_snoc]
      have HSN := Lib.hid hsn
      clear hsn
      generalize raw x0 (l.take k) = x at HSN ⊢
      generalize l[k] = v at hcell HSN
      go_wp2_with fail
      refine (one_calls _ v w).mono ?_
      rw [one_eq, ← HSN.out]
      rintro e w1 ⟨rfl, rfl⟩
      go_wp2_with fail
      go_round
      case rel => exact ⟨k + 1, by omega, by go_num, rfl⟩
      case measure => simp [intOf]; omega
    · obtain rfl : k = l.length := by omega
      rw [List.take_length]
      go_wp2_with fail
      go_ret
      have hcp := compl_eq (raw x0 l)
      rw [BitVec.toNat_not] at hcp
      rw [HS.out]
      exact ⟨congrArg (fun v => Ending.returned (.int .u32 v)) hcp, rfl⟩
theorem sum_calls (A : Option Addr) (c : Nat) (l : List Int) (w : World) (hr : Kd.C (Kd.int .u8) w A l.length l) : Calls Try.prog 52 #[.slice A l.length c] w fun e w' => e = .returned (.int .u32 (sum l)) ∧ w = w' := by
  have HR := Lib.hid hr
  clear hr
  go_enter Try.func52, Try.ntmps52
  go_wp2_with fail
  refine (more_calls A c l w HR.out).mono ?_
  rintro e w1 ⟨rfl, rfl⟩
  go_wp2_with fail
  go_ret
  exact ⟨rfl, rfl⟩
theorem tail_calls (n : Int) (w : World) : Calls Try.prog 51 #[.int .u32 n] w fun e w' => ∃ v : Value, e = .returned v ∧ Kd.R (Kd.int .u8) 5 w' w.heap.size (fun _ => True) v (tailOf n) ∧ Below w.heap.size w w' :=
  (crc_tail.calls n (tailOf n) w rfl).mono fun e w' h => by
    obtain ⟨v, he, hr, hb⟩ := h
    exact ⟨v, he, Kd.R_mono hr (fun _ _ => trivial), hb⟩
def sealP (l : List Int) : List Int := l ++ tailOf (sum l)
def openP (l : List Int) : Option (List Int) := if 4 ≤ l.length ∧ l.drop (l.length - 4) = tailOf (sum (l.take (l.length - 4))) then some (l.take (l.length - 4)) else none
set_option maxHeartbeats 8000000 in
set_option maxRecDepth 100000 in
theorem seal_calls (A : Option Addr) (c : Nat) (l : List Int) (w : World) (hr : Kd.C (Kd.int .u8) w A l.length l) (hc : l.length ≤ c) (hl : l.length ≤ 100000000) : Calls Try.prog 37 #[.slice A l.length c] w fun e w' => ∃ v : Value, e = .returned v ∧ Kd.R (Kd.int .u8) 5 w' w.heap.size (fun _ => True) v (sealP l) ∧ Below w.heap.size w w' := by
  have HR := Lib.hid hr
  have LM : Hid (l.length + (tailOf (sum l)).length < 140737488355328) := Lib.hid (by simp [tailOf]; omega)
  clear hr
  go_enter Try.func37, Try.ntmps37
  go_wp2_with fail
  refine (clone_calls A c l w HR.out hc (by omega)).mono ?_
  rintro e w1 ⟨v1, rfl, hr1, hb1⟩
  have HO1 := Lib.hid hr1
  have HB1 := Lib.hid hb1
  clear hr1 hb1
  go_wp2_with fail
  refine (sum_calls A c l w1 (Kd.C_below HR.out HB1.out)).mono ?_
  rintro e w2 ⟨rfl, rfl⟩
  go_wp2_with fail
  refine (tail_calls (sum l) w1).mono ?_
  rintro e w2 ⟨v2, rfl, hr2, hb2⟩
  obtain ⟨A2, c2, rfl, hl2, hC2⟩ := Kd.R_reads hr2
  have HC2 := Lib.hid hC2
  have HO2 := Lib.hid (Kd.R_below HO1.out hb2)
  have HB2 := Lib.hid (below_step HB1.out hb2)
  clear hr2 hb2 hC2 HO1 HB1
  generalize htl : tailOf (sum l) = tl at hl2 HC2 LM
  have HTL := Lib.hid htl
  clear htl
  go_wp2_with ((with_reducible refine gate_builtin (b := .append) (xs := #[.tmp 4, .tmp 7]) rfl ?_); at_builtin; refine Kd.R_append_rows (Kd.int .u8) (w0 := w) w.heap.size rfl (.tmp 4) (.tmp 7) 29 5 (.int .u8 0) 1 rfl Try.underlying29 info5 rfl (by decide) (by omega) v1 l tl _ _ _ (fun _ => True) (fun _ => False) rfl rfl ?aO ?aR (fun _ _ h => h) (fun _ h => h.elim) ?aF ?aB ?aS ?aL ?_; (case aR => exact HC2.out); (case aB => exact HB2.out); (case aF => exact fun _ _ => trivial); (case aO => exact HO2.out); (case aS => exact HB2.out.size); (case aL => (have := LM.out; omega)); intro v w5 ho hb hg hat; have HO5 := Lib.hid ho; have HB5 := Lib.hid hb; clear ho hb hg hat)
  go_ret
  refine ⟨_, rfl, ?_, HB5.out⟩
  unfold sealP
  rw [HTL.out]
  exact HO5.out
/-- What Open's results say. -/
def Opened (base : Nat) (l : List Int) (w' : World) (vs : Value) : Prop := match openP l with
  | none => vs = .tuple #[.slice none 0 0, .bool false]
  | some r => ∃ v, vs = .tuple #[v, .bool true] ∧ Kd.R (Kd.int .u8) 5 w' base (fun _ => True) v r
set_option maxHeartbeats 8000000 in
set_option maxRecDepth 100000 in
theorem open_short (A : Option Addr) (c : Nat) (l : List Int) (w : World) (hr : Kd.C (Kd.int .u8) w A l.length l) (hc : l.length ≤ c) (hs : l.length < 4) : Calls Try.prog 66 #[.slice A l.length c] w fun e w' => e = .returned (.tuple #[.slice none 0 0, .bool false]) ∧ Below w.heap.size w w' := by
  have HB := Lib.hid (Below.refl w.heap.size w)
  have hd : decide ((l.length : Int) - 4 < 0) = true := decide_eq_true (by omega)
  go_enter Try.func66, Try.ntmps66
  go_wp2_with fail
  have n0_ := Aside0.mk (below_drew1 HB.out); clear HB; have HB := n0_; clear n0_
  refine start_ (n := 14) (S := fun w' => True) (ds := []) #[false, false, false, false, false, false, false, false, false, false, false, false, false, false] (by kernel_rfl) rfl rfl trivial (fun hHeld => ?_); refine with_tabW tabOpen bitsOpen (fun HT_ HW_ => ?_)
  generalize w.drew = wd at HB hHeld ⊢
  refine pure_ (i := 0) (N := some 8) (v := ?_) (a' := ?_) #[true, false, false, false, false, false, false, false, false, false, false, false, false, false] rfl rfl (any_of HT_.out (by kernel_rfl)) (fun _ _ _ h => h) (Or.inl ⟨by rfl, ?_⟩) ?_ ?_
  rotate_left
  · intro w'
    go_simp
    with_reducible rfl
  rotate_left
  · simp only [Act.put, List.setIfInBounds_toArray, List.set_cons_zero, List.set_cons_succ, i64_w, i32_w]
    rfl
  refine pure_ (i := 1) (N := some 9) (v := ?_) (a' := ?_) #[true, true, false, false, false, false, false, false, false, false, false, false, false, false] rfl rfl (any_of HT_.out (by kernel_rfl)) (fun _ _ _ h => h) (Or.inl ⟨by rfl, ?_⟩) ?_ ?_
  rotate_left
  · intro w'
    go_simp
    with_reducible rfl
  rotate_left
  · simp only [Act.put, List.setIfInBounds_toArray, List.set_cons_zero, List.set_cons_succ, i64_w, i32_w]
    rfl
  refine pure_ (i := 2) (N := some 10) (v := ?_) (a' := ?_) #[true, true, true, false, false, false, false, false, false, false, false, false, false, false] rfl rfl (any_of HT_.out (by kernel_rfl)) (fun _ _ _ h => h) (Or.inl ⟨by rfl, ?_⟩) ?_ ?_
  rotate_left
  · intro w'
    go_simp
    with_reducible rfl
  rotate_left
  · simp only [Act.put, List.setIfInBounds_toArray, List.set_cons_zero, List.set_cons_succ, i64_w, i32_w]
    rfl
  refine pure_ (i := 3) (N := some 11) (v := undef) (a' := ?_) #[true, true, true, true, false, false, false, false, false, false, false, false, false, false] rfl rfl (any_of HT_.out (by kernel_rfl)) (fun _ _ _ h => h) (Or.inr ⟨by rfl, rfl⟩) ?_ ?_
  rotate_left
  · simp only [Act.put, List.setIfInBounds_toArray, List.set_cons_zero, List.set_cons_succ, i64_w, i32_w]
    rfl
  refine pure_ (i := 4) (N := some 12) (v := undef) (a' := ?_) #[true, true, true, true, true, false, false, false, false, false, false, false, false, false] rfl rfl (any_of HT_.out (by kernel_rfl)) (fun _ _ _ h => h) (Or.inr ⟨by rfl, rfl⟩) ?_ ?_
  rotate_left
  · simp only [Act.put, List.setIfInBounds_toArray, List.set_cons_zero, List.set_cons_succ, i64_w, i32_w]
    rfl
  refine pure_ (i := 5) (N := some 13) (v := undef) (a' := ?_) #[true, true, true, true, true, true, false, false, false, false, false, false, false, false] rfl rfl (any_of HT_.out (by kernel_rfl)) (fun _ _ _ h => h) (Or.inr ⟨by rfl, rfl⟩) ?_ ?_
  rotate_left
  · simp only [Act.put, List.setIfInBounds_toArray, List.set_cons_zero, List.set_cons_succ, i64_w, i32_w]
    rfl
  refine pure_ (i := 6) (N := some 14) (v := undef) (a' := ?_) #[true, true, true, true, true, true, true, false, false, false, false, false, false, false] rfl rfl (any_of HT_.out (by kernel_rfl)) (fun _ _ _ h => h) (Or.inr ⟨by rfl, rfl⟩) ?_ ?_
  rotate_left
  · simp only [Act.put, List.setIfInBounds_toArray, List.set_cons_zero, List.set_cons_succ, i64_w, i32_w]
    rfl
  refine pure_ (i := 7) (N := some 15) (v := undef) (a' := ?_) #[true, true, true, true, true, true, true, true, false, false, false, false, false, false] rfl rfl (any_of HT_.out (by kernel_rfl)) (fun _ _ _ h => h) (Or.inr ⟨by rfl, rfl⟩) ?_ ?_
  rotate_left
  · simp only [Act.put, List.setIfInBounds_toArray, List.set_cons_zero, List.set_cons_succ, i64_w, i32_w]
    rfl
  refine pure_ (i := 8) (N := some 16) (v := undef) (a' := ?_) #[true, true, true, true, true, true, true, true, true, false, false, false, false, false] rfl rfl (any_of HT_.out (by kernel_rfl)) (fun _ _ _ h => h) (Or.inr ⟨by rfl, rfl⟩) ?_ ?_
  rotate_left
  · simp only [Act.put, List.setIfInBounds_toArray, List.set_cons_zero, List.set_cons_succ, i64_w, i32_w]
    rfl
  refine pure_ (i := 9) (N := some 17) (v := undef) (a' := ?_) #[true, true, true, true, true, true, true, true, true, true, false, false, false, false] rfl rfl (any_of HT_.out (by kernel_rfl)) (fun _ _ _ h => h) (Or.inr ⟨by rfl, rfl⟩) ?_ ?_
  rotate_left
  · simp only [Act.put, List.setIfInBounds_toArray, List.set_cons_zero, List.set_cons_succ, i64_w, i32_w]
    rfl
  refine pure_ (i := 10) (N := some 18) (v := undef) (a' := ?_) #[true, true, true, true, true, true, true, true, true, true, true, false, false, false] rfl rfl (any_of HT_.out (by kernel_rfl)) (fun _ _ _ h => h) (Or.inr ⟨by rfl, rfl⟩) ?_ ?_
  rotate_left
  · simp only [Act.put, List.setIfInBounds_toArray, List.set_cons_zero, List.set_cons_succ, i64_w, i32_w]
    rfl
  refine pure_ (i := 11) (N := some 19) (v := undef) (a' := ?_) #[true, true, true, true, true, true, true, true, true, true, true, true, false, false] rfl rfl (any_of HT_.out (by kernel_rfl)) (fun _ _ _ h => h) (Or.inr ⟨by rfl, rfl⟩) ?_ ?_
  rotate_left
  · simp only [Act.put, List.setIfInBounds_toArray, List.set_cons_zero, List.set_cons_succ, i64_w, i32_w]
    rfl
  refine pure_ (i := 12) (N := some 20) (v := undef) (a' := ?_) #[true, true, true, true, true, true, true, true, true, true, true, true, true, false] rfl rfl (any_of HT_.out (by kernel_rfl)) (fun _ _ _ h => h) (Or.inr ⟨by rfl, rfl⟩) ?_ ?_
  rotate_left
  · simp only [Act.put, List.setIfInBounds_toArray, List.set_cons_zero, List.set_cons_succ, i64_w, i32_w]
    rfl
  refine pure_ (i := 13) (N := some 21) (v := ?_) (a' := ?_) #[true, true, true, true, true, true, true, true, true, true, true, true, true, true] rfl rfl (any_of HT_.out (by kernel_rfl)) (fun _ _ _ h => h) (Or.inl ⟨by rfl, ?_⟩) ?_ ?_
  rotate_left
  · intro w'
    go_simp
    with_reducible rfl
  rotate_left
  · simp only [Act.put, List.setIfInBounds_toArray, List.set_cons_zero, List.set_cons_succ, i64_w, i32_w]
    rfl
  refine done_ (done_of HT_.out (by kernel_rfl)) ?_
  go_wp2_with fail
  go_ret2
  exact ⟨rfl, HB.out⟩
theorem tail_bytes (n : Int) : Bytes (tailOf n) := fun c hc => by
  simp only [tailOf, List.mem_cons, List.not_mem_nil, or_false] at hc
  omega
set_option maxHeartbeats 8000000 in
set_option maxRecDepth 100000 in
theorem open_long (A : Option Addr) (c : Nat) (l : List Int) (w : World) (hr : Kd.C (Kd.int .u8) w A l.length l) (hc : l.length ≤ c) (hb : Bytes l) (hs : 4 ≤ l.length) (hlen : l.length ≤ 100000000) : Calls Try.prog 66 #[.slice A l.length c] w fun e w' => ∃ vs : Value, e = .returned vs ∧ Opened w.heap.size l w' vs ∧ Below w.heap.size w w' := by
  obtain ⟨n, hn⟩ : ∃ n, n = l.length - 4 := ⟨_, rfl⟩
  have hCT : ∀ W, Below w.heap.size w W → Kd.C (Kd.int .u8) W A (l.take n).length (l.take n) := fun W hW => Kd.C_below (Kd.C_take hr (by omega)) hW
  have hCD := Kd.C_drop (m := n) hr (by omega) hc
  have hlt : (l.take n).length = n := by rw [List.length_take]; omega
  have hld : (l.drop n).length = l.length - n := List.length_drop ..
  have hSUM : ∀ W, Below w.heap.size w W → Calls Try.prog 52 #[.slice A n c] W fun e w' => e = .returned (.int .u32 (sum (l.take n))) ∧ W = w' := fun W hW => by
    have := sum_calls A c (l.take n) W (hCT W hW)
    rw [hlt] at this
    exact this
  have HSUM := Lib.hid hSUM
  have hCL : ∀ W, Below w.heap.size w W → Calls Try.prog 50 #[.slice A n c] W fun e w' => ∃ v : Value, e = .returned v ∧ Kd.R (Kd.int .u8) 5 w' w.heap.size (fun _ => True) v (l.take n) ∧ Below w.heap.size w w' := fun W hW => by
    have := clone_calls A c (l.take n) W (hCT W hW) (by omega) (by omega)
    rw [hlt] at this
    exact this.mono fun e w' ⟨v, he, hr, hb⟩ => ⟨v, he, Kd.R_lower hr hW.size, below_step hW hb⟩
  have HCL := Lib.hid hCL
  have hO : openP l = if decide (l.drop n = tailOf (sum (l.take n))) = true then some (l.take n) else none := by
    unfold openP
    rw [← hn]
    by_cases h : l.drop n = tailOf (sum (l.take n)) <;> simp [h, hs]
  generalize sum (l.take n) = SM at HSUM hO
  have hEQ : ∀ W, Below w.heap.size w W → ∀ A3 c3, Kd.C (Kd.int .u8) W A3 (tailOf SM).length (tailOf SM) → (tailOf SM).length ≤ c3 → Calls Try.prog 68 #[.slice (Option.map (fun x => x.add n) A) (l.length - n) (c - n), .slice A3 (tailOf SM).length c3] W fun e w' => e = .returned (.bool (decide (l.drop n = tailOf SM))) ∧ Drawn0 W w' := fun W hW A3 c3 h3 hc3 => by
    have hcn : ¬ c = n := by omega
    rw [if_neg hcn] at hCD
    have hsz : ∀ k, k * (Kd.int .u8).sz = k := fun k => Nat.mul_one k
    rw [hsz] at hCD
    rw [← hld]
    exact bytes_Equal.calls _ (c - n) (l.drop n) A3 c3 (tailOf SM) _ W (Kd.C_below hCD hW) (by omega) h3 hc3 (equal_is (hb.drop n) (tail_bytes SM))
  have HEQ := Lib.hid hEQ
  generalize decide (l.drop n = tailOf SM) = ok at HEQ hO
  have HOK := Lib.hid hO
  generalize l.take n = lt at HCL HOK hCT hlt hSUM hCL hO
  clear hSUM hCD hCL hO hEQ hCT hlt
  obtain ⟨L, hL⟩ : ∃ L, L = l.length := ⟨_, rfl⟩
  have hLi : (L : Int) - 4 = (n : Int) := by omega
  have h1 : (n : Int) ≤ (L : Int) := by omega
  have h2 : (n : Int) ≤ (c : Int) := by omega
  have hwn : wrap64 (n : Int) = (n : Int) := wrap_of (by omega) (by omega)
  have hd : decide ((n : Int) < 0) = false := decide_eq_false (by omega)
  have hne : (c = n) = False := eq_false (by omega)
  rw [← hL] at HEQ ⊢
  have HB := Lib.hid (Below.refl w.heap.size w)
  clear hs hc hlen hL hn hld hr hb
  go_enter Try.func66, Try.ntmps66
  go_wp2_with fail
  have n0_ := Aside0.mk (below_drew1 HB.out); clear HB; have HB := n0_; clear n0_
  refine start_ (n := 14) (S := fun w' => True) (ds := []) #[false, false, false, false, false, false, false, false, false, false, false, false, false, false] (by kernel_rfl) rfl rfl trivial (fun hHeld => ?_); refine with_tabW tabOpen bitsOpen (fun HT_ HW_ => ?_)
  generalize w.drew = wd at HB hHeld ⊢
  refine pure_ (i := 0) (N := some 8) (v := ?_) (a' := ?_) #[true, false, false, false, false, false, false, false, false, false, false, false, false, false] rfl rfl (any_of HT_.out (by kernel_rfl)) (fun _ _ _ h => h) (Or.inl ⟨by rfl, ?_⟩) ?_ ?_
  rotate_left
  · intro w'
    go_simp
    with_reducible rfl
  rotate_left
  · simp only [Act.put, List.setIfInBounds_toArray, List.set_cons_zero, List.set_cons_succ, i64_w, i32_w]
    rfl
  refine pure_ (i := 1) (N := some 9) (v := ?_) (a' := ?_) #[true, true, false, false, false, false, false, false, false, false, false, false, false, false] rfl rfl (any_of HT_.out (by kernel_rfl)) (fun _ _ _ h => h) (Or.inl ⟨by rfl, ?_⟩) ?_ ?_
  rotate_left
  · intro w'
    go_simp
    with_reducible rfl
  rotate_left
  · simp only [Act.put, List.setIfInBounds_toArray, List.set_cons_zero, List.set_cons_succ, i64_w, i32_w]
    rfl
  refine pure_ (i := 2) (N := some 10) (v := ?_) (a' := ?_) #[true, true, true, false, false, false, false, false, false, false, false, false, false, false] rfl rfl (any_of HT_.out (by kernel_rfl)) (fun _ _ _ h => h) (Or.inl ⟨by rfl, ?_⟩) ?_ ?_
  rotate_left
  · intro w'
    go_simp
    with_reducible rfl
  rotate_left
  · simp only [Act.put, List.setIfInBounds_toArray, List.set_cons_zero, List.set_cons_succ, i64_w, i32_w]
    rfl
  refine pure_ (i := 3) (N := some 11) (v := ?_) (a' := ?_) #[true, true, true, true, false, false, false, false, false, false, false, false, false, false] rfl rfl (any_of HT_.out (by kernel_rfl)) (fun _ _ _ h => h) (Or.inl ⟨by rfl, ?_⟩) ?_ ?_
  rotate_left
  · intro w'
    go_simp
    with_reducible rfl
  rotate_left
  · simp only [Act.put, List.setIfInBounds_toArray, List.set_cons_zero, List.set_cons_succ, i64_w, i32_w]
    rfl
  refine pure_ (i := 4) (N := some 12) (v := ?_) (a' := ?_) #[true, true, true, true, true, false, false, false, false, false, false, false, false, false] rfl rfl (any_of HT_.out (by kernel_rfl)) (fun _ _ _ h => h) (Or.inl ⟨by rfl, ?_⟩) ?_ ?_
  rotate_left
  · intro w'
    go_simp
    with_reducible rfl
  rotate_left
  · simp only [Act.put, List.setIfInBounds_toArray, List.set_cons_zero, List.set_cons_succ, i64_w, i32_w]
    rfl
  refine pure_ (i := 5) (N := some 13) (v := ?_) (a' := ?_) #[true, true, true, true, true, true, false, false, false, false, false, false, false, false] rfl rfl (any_of HT_.out (by kernel_rfl)) (fun _ _ _ h => h) (Or.inl ⟨by rfl, ?_⟩) ?_ ?_
  rotate_left
  · intro w'
    go_simp
    with_reducible rfl
  rotate_left
  · simp only [Act.put, List.setIfInBounds_toArray, List.set_cons_zero, List.set_cons_succ, i64_w, i32_w]
    rfl
  refine pure_ (i := 6) (N := some 14) (v := ?_) (a' := ?_) #[true, true, true, true, true, true, true, false, false, false, false, false, false, false] rfl rfl (any_of HT_.out (by kernel_rfl)) (fun _ _ _ h => h) (Or.inl ⟨by rfl, ?_⟩) ?_ ?_
  rotate_left
  · intro w'
    go_simp
    with_reducible rfl
  rotate_left
  · simp only [Act.put, List.setIfInBounds_toArray, List.set_cons_zero, List.set_cons_succ, i64_w, i32_w]
    rfl
  refine pure_ (i := 7) (N := some 15) (v := ?_) (a' := ?_) #[true, true, true, true, true, true, true, true, false, false, false, false, false, false] rfl rfl (any_of HT_.out (by kernel_rfl)) (fun _ _ _ h => h) (Or.inl ⟨by rfl, ?_⟩) ?_ ?_
  rotate_left
  · intro w'
    go_simp
    with_reducible rfl
  rotate_left
  · simp only [Act.put, List.setIfInBounds_toArray, List.set_cons_zero, List.set_cons_succ, i64_w, i32_w]
    rfl
  refine pure_ (i := 8) (N := some 16) (v := ?_) (a' := ?_) #[true, true, true, true, true, true, true, true, true, false, false, false, false, false] rfl rfl (any_of HT_.out (by kernel_rfl)) (fun _ _ _ h => h) (Or.inl ⟨by rfl, ?_⟩) ?_ ?_
  rotate_left
  · intro w'
    go_simp
    with_reducible rfl
  rotate_left
  · simp only [Act.put, List.setIfInBounds_toArray, List.set_cons_zero, List.set_cons_succ, i64_w, i32_w]
    rfl
  refine one_ (i := 9) (N := some 17) #[true, true, true, true, true, true, true, true, true, true, false, false, false, false] rfl rfl (one_of HT_.out (by kernel_rfl)) (by decide) (fun K hK => ?_)
  refine goes_ Try.func52 (by kernel_rfl) rfl #[.slice A n c] (by rfl) rfl rfl (by (try simp only [List.map_toArray, List.map_cons, List.map_nil]); first | done | rfl) ?_
  refine (HSUM.out _ HB.out).mono ?_
  rintro e w2 ⟨rfl, rfl⟩
  refine ⟨_, rfl, ?_⟩
  refine hK.out _ _ trivial (fun hHeld => ?_)
  clear hK K
  refine norm_ (a' := ?_) ?_ ?_
  rotate_left
  · show Act.put _ (some 17) _ = _
    simp only [Act.put, List.setIfInBounds_toArray, List.set_cons_zero, List.set_cons_succ, i64_w, i32_w]
    rfl
  refine one_ (i := 10) (N := some 18) #[true, true, true, true, true, true, true, true, true, true, true, false, false, false] rfl rfl (one_of HT_.out (by kernel_rfl)) (by decide) (fun K hK => ?_)
  refine goes_ Try.func51 (by kernel_rfl) rfl #[.int .u32 SM] (by rfl) rfl rfl (by (try simp only [List.map_toArray, List.map_cons, List.map_nil]); first | done | rfl) ?_
  refine (tail_calls SM _).mono ?_
  rintro e w3 ⟨v3, rfl, hr3, hb3⟩
  obtain ⟨A3, c3, rfl, hl3, hC3⟩ := Kd.R_reads hr3
  have HC3 := Lib.hid hC3
  have HL3 := Lib.hid hl3
  clear hr3 hC3 hl3
  have n0_ := Aside0.mk (below_step HB.out hb3); clear HB; have HB := n0_; clear n0_ hb3
  refine ⟨_, rfl, ?_⟩
  refine hK.out _ _ trivial (fun hHeld => ?_)
  clear hK K
  refine norm_ (a' := ?_) ?_ ?_
  rotate_left
  · show Act.put _ (some 18) _ = _
    simp only [Act.put, List.setIfInBounds_toArray, List.set_cons_zero, List.set_cons_succ, i64_w, i32_w]
    rfl
  refine one_ (i := 11) (N := some 19) #[true, true, true, true, true, true, true, true, true, true, true, true, false, false] rfl rfl (one_of HT_.out (by kernel_rfl)) (by decide) (fun K hK => ?_)
  refine goes_ Try.func68 (by kernel_rfl) rfl #[.slice (Option.map (fun x => x.add n) A) (L - n) (c - n), .slice A3 (tailOf SM).length c3] (by rfl) rfl rfl (by (try simp only [List.map_toArray, List.map_cons, List.map_nil]); first | done | rfl) ?_
  refine (HEQ.out _ HB.out A3 c3 HC3.out HL3.out).mono ?_
  rintro e w4 ⟨rfl, hd4⟩
  have hb4 := hd4.below
  have n0_ := Aside0.mk (below_step HB.out hb4); clear HB; have HB := n0_; clear n0_ hd4 hb4
  refine ⟨_, rfl, ?_⟩
  refine hK.out _ _ trivial (fun hHeld => ?_)
  clear hK K
  refine norm_ (a' := ?_) ?_ ?_
  rotate_left
  · show Act.put _ (some 19) _ = _
    simp only [Act.put, List.setIfInBounds_toArray, List.set_cons_zero, List.set_cons_succ, i64_w, i32_w]
    rfl
  refine pure_ (i := 12) (N := some 20) (v := ?_) (a' := ?_) #[true, true, true, true, true, true, true, true, true, true, true, true, true, false] rfl rfl (any_of HT_.out (by kernel_rfl)) (fun _ _ _ h => h) (Or.inl ⟨by rfl, ?_⟩) ?_ ?_
  rotate_left
  · intro w'
    go_simp
    with_reducible rfl
  rotate_left
  · simp only [Act.put, List.setIfInBounds_toArray, List.set_cons_zero, List.set_cons_succ, i64_w, i32_w]
    rfl
  refine pure_ (i := 13) (N := some 21) (v := ?_) (a' := ?_) #[true, true, true, true, true, true, true, true, true, true, true, true, true, true] rfl rfl (any_of HT_.out (by kernel_rfl)) (fun _ _ _ h => h) (Or.inl ⟨by rfl, ?_⟩) ?_ ?_
  rotate_left
  · intro w'
    go_simp
    with_reducible rfl
  rotate_left
  · simp only [Act.put, List.setIfInBounds_toArray, List.set_cons_zero, List.set_cons_succ, i64_w, i32_w]
    rfl
  refine done_ (done_of HT_.out (by kernel_rfl)) ?_
  cases ok with
  | true =>
    go_wp2_with fail
    refine (HCL.out _ HB.out).mono ?_
    rintro e w7 ⟨v7, rfl, hr7, hb7⟩
    go_wp2_with fail
    go_ret2
    refine ⟨_, rfl, ?_, hb7⟩
    unfold Opened
    rw [HOK.out]
    exact ⟨_, rfl, hr7⟩
  | false =>
    go_wp2_with fail
    go_ret2
    refine ⟨_, rfl, ?_, HB.out⟩
    unfold Opened
    rw [HOK.out]
    rfl
theorem open_calls (A : Option Addr) (c : Nat) (l : List Int) (w : World) (hr : Kd.C (Kd.int .u8) w A l.length l) (hc : l.length ≤ c) (hb : Bytes l) (hlen : l.length ≤ 100000000) : Calls Try.prog 66 #[.slice A l.length c] w fun e w' => ∃ vs : Value, e = .returned vs ∧ Opened w.heap.size l w' vs ∧ Below w.heap.size w w' := by
  by_cases hs : 4 ≤ l.length
  · exact open_long A c l w hr hc hb hs hlen
  · refine (open_short A c l w hr hc (by omega)).mono ?_
    rintro e w' ⟨rfl, hb'⟩
    refine ⟨_, rfl, ?_, hb'⟩
    have : openP l = none := if_neg (fun h => hs h.1)
    unfold Opened
    rw [this]
end Go.Proofs.Ytmklmpajcomimaa.Hand
end

section
/- Numbers of four and eight bytes, texts behind a row, frames. -/
namespace Go.Proofs.Ytmklmpajcomimaa.Hand
open Go.RowKit Go.Proofs.YtmklmpajcomimaaW.PrintWords Go.Proofs.YtmklmpajcomimaaW.PrintLast Go.Proofs.YtmklmpajcomimaaW.PrintMore Go.Proofs.Ytmklmpajcomimaa.PTraceWrites Go.Proofs.Ytmklmpajcomimaa.CrcMath
set_option linter.unusedVariables false
set_option linter.unusedSimpArgs false
/-- The lowest bytes of a number. -/
def low : Nat → Int → List Int
  | 0, _ => []
  | k + 1, n => n % 256 :: low k (n / 256)
theorem low_len : ∀ k n, (low k n).length = k
  | 0, _ => rfl
  | k + 1, n => by simp [low, low_len k]
theorem low_bytes : ∀ k n, Bytes (low k n)
  | 0, _ => fun c hc => by cases hc
  | k + 1, n => fun c hc => by
    rcases List.mem_cons.1 hc with h | h
    · subst h; omega
    · exact low_bytes k _ c h
theorem put32_l0 : ∀ (j k : Nat) (x : List Int) (n i m : Int), i + j = m → 0 ≤ i → m ≤ 100 → j < k → x.length + j ≤ 140737488355000 → trace_put_uint32.l0 k x n m i = some (x ++ low j n)
  | 0, k, x, n, i, m, h, h0, hm, hk, hx => by
    obtain ⟨k, rfl⟩ : ∃ q, k = q + 1 := ⟨k - 1, by omega⟩
    rw [trace_put_uint32.l0, if_neg (by omega), low, List.append_nil]
  | j + 1, k, x, n, i, m, h, h0, hm, hk, hx => by
    obtain ⟨k, rfl⟩ : ∃ q, k = q + 1 := ⟨k - 1, by omega⟩
    rw [trace_put_uint32.l0, if_pos (by omega), if_pos (by omega), wrap_of (n := i + 1) (by omega) (by omega), put32_l0 j k _ _ (i + 1) m (by omega) (by omega) hm (by omega) (by simp; omega), low, List.append_assoc]
    rfl
theorem put64_l0 : ∀ (j k : Nat) (x : List Int) (n i m : Int), i + j = m → 0 ≤ i → m ≤ 100 → j < k → x.length + j ≤ 140737488355000 → trace_put_uint64.l0 k x n m i = some (x ++ low j n)
  | 0, k, x, n, i, m, h, h0, hm, hk, hx => by
    obtain ⟨k, rfl⟩ : ∃ q, k = q + 1 := ⟨k - 1, by omega⟩
    rw [trace_put_uint64.l0, if_neg (by omega), low, List.append_nil]
  | j + 1, k, x, n, i, m, h, h0, hm, hk, hx => by
    obtain ⟨k, rfl⟩ : ∃ q, k = q + 1 := ⟨k - 1, by omega⟩
    rw [trace_put_uint64.l0, if_pos (by omega), if_pos (by omega), wrap_of (n := i + 1) (by omega) (by omega), put64_l0 j k _ _ (i + 1) m (by omega) (by omega) hm (by omega) (by simp; omega), low, List.append_assoc]
    rfl
theorem put32_calls {w0 w : World} (hB : Below w0.heap.size w0 w) (v : Value) (l0 : List Int) (n : Int) (j : Nat) (ho : Kd.R (Kd.int .u8) 5 w w0.heap.size (fun _ => True) v l0) (hj : j ≤ 8) (hx : l0.length ≤ 140737488354000) :
    Calls Try.prog 24 #[v, .int .u32 n, .int .i64 j] w fun e w' => ∃ v0 : Value, e = .returned v0 ∧ Kd.R (Kd.int .u8) 5 w' w0.heap.size (fun _ => True) v0 (l0 ++ low j n) ∧ Below w0.heap.size w0 w' :=
  (trace_put_uint32.calls 20 (fun _ => True) v l0 n j (l0 ++ low j n) w0 w hB ho (put32_l0 j 20 l0 n 0 j (by omega) (by omega) (by omega) (by omega) (by omega))).mono fun e w' ⟨v0, he, hr, hb, _⟩ => ⟨v0, he, Kd.R_mono hr (fun _ _ => trivial), hb⟩
theorem put64_calls {w0 w : World} (hB : Below w0.heap.size w0 w) (v : Value) (l0 : List Int) (n : Int) (j : Nat) (ho : Kd.R (Kd.int .u8) 5 w w0.heap.size (fun _ => True) v l0) (hj : j ≤ 8) (hx : l0.length ≤ 140737488354000) :
    Calls Try.prog 26 #[v, .int .u64 n, .int .i64 j] w fun e w' => ∃ v0 : Value, e = .returned v0 ∧ Kd.R (Kd.int .u8) 5 w' w0.heap.size (fun _ => True) v0 (l0 ++ low j n) ∧ Below w0.heap.size w0 w' :=
  (trace_put_uint64.calls 20 (fun _ => True) v l0 n j (l0 ++ low j n) w0 w hB ho (put64_l0 j 20 l0 n 0 j (by omega) (by omega) (by omega) (by omega) (by omega))).mono fun e w' ⟨v0, he, hr, hb, _⟩ => ⟨v0, he, Kd.R_mono hr (fun _ _ => trivial), hb⟩
theorem put_calls {w0 w : World} (hB : Below w0.heap.size w0 w) (v : Value) (l0 : List Int) (n : Int) (ho : Kd.R (Kd.int .u8) 5 w w0.heap.size (fun _ => True) v l0) (hn : n < 9223372036854775808) (hx : l0.length ≤ 140737488355000) :
    Calls Try.prog 25 #[v, .int .i64 n] w fun e w' => ∃ v0 : Value, e = .returned v0 ∧ Kd.R (Kd.int .u8) 5 w' w0.heap.size (fun _ => True) v0 (l0 ++ num n) ∧ Below w0.heap.size w0 w' :=
  (leb_Put.calls 20 (fun _ => True) v l0 n (l0 ++ num n) w0 w hB ho (put_is l0 n hn hx)).mono fun e w' ⟨v0, he, hr, hb, _⟩ => ⟨v0, he, Kd.R_mono hr (fun _ _ => trivial), hb⟩
set_option maxHeartbeats 4000000 in
set_option maxRecDepth 100000 in
theorem strput_calls {w0 w : World} (hB : Below w0.heap.size w0 w) (v : Value) (l0 : List Int) (s : ByteArray) (ho : Kd.R (Kd.int .u8) 5 w w0.heap.size (fun _ => True) v l0) (hs : s.size ≤ 1000000) (hx : l0.length ≤ 100000000) :
    Calls Try.prog 38 #[v, .string s] w fun e w' => ∃ v0 : Value, e = .returned v0 ∧ Kd.R (Kd.int .u8) 5 w' w0.heap.size (fun _ => True) v0 (l0 ++ num s.size ++ bs s) ∧ Below w0.heap.size w0 w' := by
  have HB := Aside0.mk hB
  have HO := Aside0.mk ho
  obtain ⟨A, c, rfl⟩ := Kd.R_slice ho
  have hnl := num_len (s.size : Int)
  have LM : Hid ((l0 ++ num (s.size : Int)).length + s.size < 140737488355328) := Lib.hid (by rw [List.length_append]; omega)
  clear hB ho
  obtain ⟨y, hy⟩ : ∃ y, l0 ++ num (s.size : Int) = y := ⟨_, rfl⟩
  have hput := put_calls HB.out (.slice A l0.length c) l0 (s.size : Int) HO.out (by omega) (by omega)
  rw [hy] at hput LM
  have HP := Lib.hid hput
  have HY := Lib.hid hy
  clear hput hy
  go_enter Try.func38, Try.ntmps38
  go_wp2_with fail
  refine HP.out.mono ?_
  rintro e w1 ⟨v1, rfl, hr1, hb1⟩
  have HO1 := Aside0.mk hr1
  have HB1 := Aside0.mk hb1
  clear hr1 hb1
  go_wp2_with ((at_builtin; refine print_append_str (w0 := w0) w0.heap.size rfl (.tmp 8) _ 29 9 5 rfl Try.underlying29 Try.underlying9 info5 v1 y s rfl rfl ?aO ?aB ?aS ?aL ?_; (case aB => exact HB1.out); (case aO => exact (Kd.own_of_R HO1.out)); (case aS => exact (below_size HB1.out)); (case aL => exact Nat.le_of_lt LM.out); intro v124 w7 ho0 hb hg; have ho := Kd.R_of_own (h1 := fun _ => rfl) (ok := fun _ => True) ho0 (fun _ _ => trivial); have HO2 := Aside0.mk ho; have HB2 := Aside0.mk hb; clear ho hb hg ho0))
  go_ret
  have h2 := HO2.out
  rw [← HY.out] at h2
  exact ⟨_, rfl, h2, HB2.out⟩
/-- A frame's bytes. -/
def frameP (l : List Int) : List Int := sealP (low 4 l.length) ++ sealP l
set_option maxHeartbeats 8000000 in
set_option maxRecDepth 100000 in
theorem frame_calls (A : Option Addr) (c : Nat) (l : List Int) (w : World) (hr : Kd.C (Kd.int .u8) w A l.length l) (hc : l.length ≤ c) (hl : l.length ≤ 100000000) : Calls Try.prog 23 #[.slice A l.length c] w fun e w' => ∃ v : Value, e = .returned v ∧ Kd.R (Kd.int .u8) 5 w' w.heap.size (fun _ => True) v (frameP l) ∧ Below w.heap.size w w' := by
  have HR := Lib.hid hr
  have h4 := low_len 4 l.length
  have LM : Hid ((sealP (low 4 l.length)).length + (sealP l).length < 140737488355328) := Lib.hid (by simp [sealP, tailOf, h4]; omega)
  clear hr
  go_enter Try.func23, Try.ntmps23
  go_wp2_with fail
  refine (put32_calls (Below.refl w.heap.size w) (.slice none 0 0) [] l.length 4 (Kd.R_nil _ _ _ _ _) (by decide) (by decide)).mono ?_
  rw [List.nil_append]
  generalize hyy : low 4 (l.length : Int) = y at h4 LM
  have HY := Lib.hid hyy
  clear hyy
  rintro e w1 ⟨v1, rfl, hr1, hb1⟩
  obtain ⟨A1, c1, rfl, hl1, hC1⟩ := Kd.R_reads hr1
  have HC1 := Lib.hid hC1
  have HB1 := Lib.hid hb1
  clear hr1 hb1 hC1
  have hsl := seal_calls A1 c1 y w1 HC1.out hl1 (by omega)
  rw [h4] at hsl
  have HSL := Lib.hid hsl
  clear hsl
  go_wp2_with fail
  refine HSL.out.mono ?_
  rintro e w2 ⟨v2, rfl, hr2, hb2⟩
  have HO2 := Lib.hid (Kd.R_lower hr2 HB1.out.size)
  have HB2 := Lib.hid (below_step HB1.out hb2)
  clear hr2 hb2 HB1 HC1
  go_wp2_with fail
  refine (seal_calls A c l w2 (Kd.C_below HR.out HB2.out) hc hl).mono ?_
  rintro e w3 ⟨v3, rfl, hr3, hb3⟩
  obtain ⟨A3, c3, rfl, hl3, hC3⟩ := Kd.R_reads hr3
  have HC3 := Lib.hid hC3
  have HO3 := Lib.hid (Kd.R_below HO2.out hb3)
  have HB3 := Lib.hid (below_step HB2.out hb3)
  clear hr3 hb3 hC3 HO2 HB2
  go_wp2_with ((with_reducible refine gate_builtin (b := .append) (xs := #[.tmp 7, .tmp 9]) rfl ?_); at_builtin; refine Kd.R_append_rows (Kd.int .u8) (w0 := w) w.heap.size rfl (.tmp 7) (.tmp 9) 29 5 (.int .u8 0) 1 rfl Try.underlying29 info5 rfl (by decide) (by omega) v2 (sealP y) (sealP l) _ _ _ (fun _ => True) (fun _ => False) rfl rfl ?aO ?aR (fun _ _ h => h) (fun _ h => h.elim) ?aF ?aB ?aS ?aL ?_; (case aR => exact HC3.out); (case aB => exact HB3.out); (case aF => exact fun _ _ => trivial); (case aO => exact HO3.out); (case aS => exact HB3.out.size); (case aL => (have := LM.out; omega)); intro v w5 ho hb hg hat; have HO5 := Lib.hid ho; have HB5 := Lib.hid hb; clear ho hb hg hat)
  go_ret
  refine ⟨_, rfl, ?_, HB5.out⟩
  unfold frameP
  rw [HY.out]
  exact HO5.out
end Go.Proofs.Ytmklmpajcomimaa.Hand
end
