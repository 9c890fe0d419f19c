/- The plain law of the sum: a register of 32 bits, linear and one to one. No program in sight. -/
import Derived.Laws.BitsLemmas
import Derived.RowKit
namespace Go.Proofs.Ytocfkbiojgbloaa.CrcMath
open Go

abbrev B := BitVec 32
def poly : B := 0xedb88320#32
/-- One step of the register. -/
def step (x : B) : B := (x >>> 1) ^^^ (if x.getLsbD 0 then poly else 0#32)
def steps : Nat → B → B
  | 0, x => x
  | n + 1, x => steps n (step x)
/-- The register behind bytes. -/
def raw : B → List Int → B
  | x, [] => x
  | x, c :: l => raw (steps 8 (x ^^^ BitVec.ofInt 32 c)) l

theorem step_xor (x y : B) : step (x ^^^ y) = step x ^^^ step y := by
  unfold step
  rw [BitVec.ushiftRight_xor_distrib, BitVec.getLsbD_xor]
  cases x.getLsbD 0 <;> cases y.getLsbD 0 <;> simp [BitVec.xor_assoc]
  · exact BitVec.xor_comm _ _
  · rw [BitVec.xor_comm poly (y >>> 1 ^^^ poly), BitVec.xor_assoc, BitVec.xor_self]; simp
theorem step_zero : step 0#32 = 0#32 := by decide
theorem steps_xor (n : Nat) : ∀ x y : B, steps n (x ^^^ y) = steps n x ^^^ steps n y := by
  induction n with
  | zero => intro x y; rfl
  | succ n ih => intro x y; show steps n (step (x ^^^ y)) = _; rw [step_xor, ih]; rfl
theorem steps_zero (n : Nat) : steps n 0#32 = 0#32 := by
  induction n with
  | zero => rfl
  | succ n ih => show steps n (step 0#32) = _; rw [step_zero, ih]
theorem steps_add (m n : Nat) : ∀ x : B, steps (m + n) x = steps n (steps m x) := by
  induction m with
  | zero => intro x; rw [Nat.zero_add]; rfl
  | succ m ih => intro x; rw [show m + 1 + n = (m + n) + 1 by omega]; show steps (m + n) (step x) = _; rw [ih]; rfl
theorem step_eq_zero {x : B} (h : step x = 0#32) : x = 0#32 := by
  unfold step at h
  have h31 : (x >>> 1 ^^^ (if x.getLsbD 0 then poly else 0#32)).getLsbD 31 = (0#32 : B).getLsbD 31 := by rw [h]
  rw [BitVec.getLsbD_xor, BitVec.getLsbD_ushiftRight] at h31
  have h32 : x.getLsbD (1 + 31) = false := BitVec.getLsbD_of_ge _ _ (by decide)
  rw [h32] at h31
  cases h0 : x.getLsbD 0 with
  | true => rw [h0] at h31; exact absurd h31 (by decide)
  | false =>
    rw [h0] at h
    simp only [Bool.false_eq_true, if_false, BitVec.xor_zero] at h
    apply BitVec.eq_of_getLsbD_eq
    intro i hi
    cases i with
    | zero => rw [h0]; simp
    | succ i =>
      have := congrArg (fun b : B => b.getLsbD i) h
      simp only [BitVec.getLsbD_ushiftRight] at this
      rw [Nat.add_comm i 1, this]; simp
theorem steps_eq_zero (n : Nat) : ∀ {x : B}, steps n x = 0#32 → x = 0#32 := by
  induction n with
  | zero => intro x h; exact h
  | succ n ih => intro x h; exact step_eq_zero (ih h)
theorem xor_eq_zero {x y : B} (h : x ^^^ y = 0#32) : x = y := by
  have := congrArg (· ^^^ y) h
  simpa [BitVec.xor_assoc] using this
theorem steps_inj (n : Nat) {x y : B} (h : steps n x = steps n y) : x = y := by
  apply xor_eq_zero
  apply steps_eq_zero n
  rw [steps_xor, h]; simp
/-- What has no low bit is shifted. -/
theorem step_even {x : B} (h : x.getLsbD 0 = false) : step x = x >>> 1 := by unfold step; rw [h]; simp
theorem step_shl (x : B) (h : x.getLsbD 31 = false) : step (x <<< 1) = x := by
  rw [step_even (by simp)]
  apply BitVec.eq_of_getLsbD_eq
  intro i hi
  rw [BitVec.getLsbD_ushiftRight, BitVec.getLsbD_shiftLeft]
  by_cases h31 : i = 31
  · subst h31; rw [h]; simp
  · have h1 : 1 + i < 32 := by omega
    have h2 : 1 + i - 1 = i := by omega
    simp [h1, h2]
/-- A small number, shifted up, comes down again. -/
theorem steps_shl (n : Nat) : ∀ (x : B), (∀ i, 32 - n ≤ i → x.getLsbD i = false) → steps n (x <<< n) = x := by
  induction n with
  | zero => intro x _; simp [steps]
  | succ n ih =>
    intro x h
    show steps n (step (x <<< (n + 1))) = x
    have e : x <<< (n + 1) = (x <<< n) <<< 1 := by rw [BitVec.shiftLeft_add]
    rw [e, step_shl, ih x (fun i hi => h i (by omega))]
    rw [BitVec.getLsbD_shiftLeft]
    by_cases hn : n ≤ 31
    · rw [h (31 - n) (by omega)]; simp
    · have : 31 < n := by omega
      simp [this]
theorem steps_one_shl (n : Nat) (hn : n ≤ 31) : steps n (1#32 <<< n) = 1#32 := by
  apply steps_shl
  intro i hi
  have : i ≠ 0 := by omega
  simp [BitVec.getLsbD_one, this]

theorem raw_append (l m : List Int) : ∀ x, raw x (l ++ m) = raw (raw x l) m := by
  induction l with
  | nil => intro x; rfl
  | cons c l ih => intro x; exact ih _
/-- A difference in the register goes through as if there were noughts. -/
theorem raw_xor (l : List Int) : ∀ x d : B, raw (x ^^^ d) l = raw x l ^^^ steps (8 * l.length) d := by
  induction l with
  | nil => intro x d; rfl
  | cons c l ih =>
    intro x d
    show raw (steps 8 (x ^^^ d ^^^ BitVec.ofInt 32 c)) l = _
    have e : x ^^^ d ^^^ BitVec.ofInt 32 c = (x ^^^ BitVec.ofInt 32 c) ^^^ d := by rw [BitVec.xor_assoc, BitVec.xor_comm d, ← BitVec.xor_assoc]
    rw [e, steps_xor, ih]
    show _ = raw (steps 8 (x ^^^ BitVec.ofInt 32 c)) l ^^^ _
    congr 1
theorem raw_inj (l : List Int) {x y : B} (h : raw x l = raw y l) : x = y := by
  have e : y = x ^^^ (x ^^^ y) := by rw [← BitVec.xor_assoc]; simp
  rw [e, raw_xor] at h
  have h2 : steps (8 * l.length) (x ^^^ y) = 0#32 := by
    have := congrArg (raw x l ^^^ ·) h
    simp only [BitVec.xor_self, ← BitVec.xor_assoc, BitVec.zero_xor] at this
    exact this.symm
  exact xor_eq_zero (steps_eq_zero _ h2)
/-- One byte is another one. -/
theorem raw_set (l : List Int) : ∀ (x : B) (i : Nat) (c : Int), i < l.length →
    raw x (l.set i c) = raw x l ^^^ steps (8 * (l.length - i)) (BitVec.ofInt 32 c ^^^ BitVec.ofInt 32 (l.getD i 0)) := by
  induction l with
  | nil => intro x i c h; simp at h
  | cons a l ih =>
    intro x i c h
    cases i with
    | zero =>
      show raw (steps 8 (x ^^^ BitVec.ofInt 32 c)) l = raw (steps 8 (x ^^^ BitVec.ofInt 32 a)) l ^^^ _
      have e : x ^^^ BitVec.ofInt 32 c = (x ^^^ BitVec.ofInt 32 a) ^^^ (BitVec.ofInt 32 c ^^^ BitVec.ofInt 32 a) := by
        rw [BitVec.xor_comm (BitVec.ofInt 32 c), BitVec.xor_assoc, ← BitVec.xor_assoc (BitVec.ofInt 32 a), BitVec.xor_self, BitVec.zero_xor]
      rw [e, steps_xor, raw_xor]
      congr 1
    | succ i =>
      have := ih (steps 8 (x ^^^ BitVec.ofInt 32 a)) i c (by simpa using h)
      show raw (steps 8 (x ^^^ BitVec.ofInt 32 a)) (l.set i c) = _
      rw [this]
      simp [raw]
/-- Two rows as long. -/
theorem raw_lin (l : List Int) : ∀ (m o : List Int) (x y : B), m.length = l.length → o.length = l.length → (∀ i, i < l.length → BitVec.ofInt 32 (o.getD i 0) = BitVec.ofInt 32 (l.getD i 0) ^^^ BitVec.ofInt 32 (m.getD i 0)) →
    raw (x ^^^ y) o = raw x l ^^^ raw y m := by
  induction l with
  | nil => intro m o x y h1 h2 _; simp at h1 h2; subst h1 h2; rfl
  | cons a l ih =>
    intro m o x y h1 h2 h
    cases m with
    | nil => simp at h1
    | cons b m =>
    cases o with
    | nil => simp at h2
    | cons c o =>
      have h0 : BitVec.ofInt 32 c = BitVec.ofInt 32 a ^^^ BitVec.ofInt 32 b := by have := h 0 (by simp); simpa using this
      show raw (steps 8 (x ^^^ y ^^^ BitVec.ofInt 32 c)) o = raw (steps 8 (x ^^^ BitVec.ofInt 32 a)) l ^^^ raw (steps 8 (y ^^^ BitVec.ofInt 32 b)) m
      have e : x ^^^ y ^^^ BitVec.ofInt 32 c = (x ^^^ BitVec.ofInt 32 a) ^^^ (y ^^^ BitVec.ofInt 32 b) := by
        rw [h0]
        ac_rfl
      rw [e, steps_xor]
      apply ih
      · simpa using h1
      · simpa using h2
      · intro i hi
        have := h (i + 1) (by simpa using hi)
        simpa using this
/-! ### four bytes -/
theorem ofInt_toNat (b : B) : BitVec.ofInt 32 (b.toNat : Int) = b := by simp
def tailOf (n : Int) : List Int := [n % 256, (n / 256) % 256, (n / 65536) % 256, (n / 16777216) % 256]
theorem range_of (b : B) : 0 ≤ (b.toNat : Int) ∧ (b.toNat : Int) ≤ 4294967295 := by have := b.isLt; omega
/-- The number of four bytes. -/
def word (a b c d : Int) : B := BitVec.ofInt 32 a ^^^ (BitVec.ofInt 32 b) <<< 8 ^^^ (BitVec.ofInt 32 c) <<< 16 ^^^ (BitVec.ofInt 32 d) <<< 24
theorem small_bits {a : Int} (h0 : 0 ≤ a) (h1 : a ≤ 255) : ∀ i, 8 ≤ i → (BitVec.ofInt 32 a).getLsbD i = false := by
  intro i hi
  obtain ⟨n, rfl⟩ := Int.eq_ofNat_of_zero_le h0
  rw [BitVec.ofInt_natCast, BitVec.getLsbD_ofNat]
  have : n < 2 ^ i := Nat.lt_of_lt_of_le (show n < 2 ^ 8 by omega) (Nat.pow_le_pow_right (by decide) hi)
  simp [Nat.testBit_lt_two_pow this]
theorem raw_four (x : B) (a b c d : Int) (hb : 0 ≤ b ∧ b ≤ 255) (hc : 0 ≤ c ∧ c ≤ 255) (hd : 0 ≤ d ∧ d ≤ 255) : raw x [a, b, c, d] = steps 32 (x ^^^ word a b c d) := by
  show steps 8 (steps 8 (steps 8 (steps 8 (x ^^^ BitVec.ofInt 32 a) ^^^ BitVec.ofInt 32 b) ^^^ BitVec.ofInt 32 c) ^^^ BitVec.ofInt 32 d) = _
  have eb : BitVec.ofInt 32 b = steps 8 ((BitVec.ofInt 32 b) <<< 8) := (steps_shl 8 _ (fun i hi => small_bits hb.1 hb.2 i (by omega))).symm
  have ec : BitVec.ofInt 32 c = steps 16 ((BitVec.ofInt 32 c) <<< 16) := (steps_shl 16 _ (fun i hi => small_bits hc.1 hc.2 i (by omega))).symm
  have ed : BitVec.ofInt 32 d = steps 24 ((BitVec.ofInt 32 d) <<< 24) := (steps_shl 24 _ (fun i hi => small_bits hd.1 hd.2 i (by omega))).symm
  have s16 : ∀ z, steps 8 (steps 8 z) = steps 16 z := fun z => (steps_add 8 8 z).symm
  have s24 : ∀ z, steps 8 (steps 16 z) = steps 24 z := fun z => (steps_add 16 8 z).symm
  have s32 : ∀ z, steps 8 (steps 24 z) = steps 32 z := fun z => (steps_add 24 8 z).symm
  conv => lhs; rw [eb, ec, ed]
  rw [← steps_xor, s16, ← steps_xor, s24, ← steps_xor, s32]
  unfold word
  generalize BitVec.ofInt 32 a = p
  generalize (BitVec.ofInt 32 b) <<< 8 = q
  generalize (BitVec.ofInt 32 c) <<< 16 = r
  generalize (BitVec.ofInt 32 d) <<< 24 = t
  rw [BitVec.xor_assoc, BitVec.xor_assoc, BitVec.xor_assoc, BitVec.xor_assoc, BitVec.xor_assoc]
theorem word_tail (n : B) : word ((n.toNat : Int) % 256) (((n.toNat : Int) / 256) % 256) (((n.toNat : Int) / 65536) % 256) (((n.toNat : Int) / 16777216) % 256) = n := by
  have key : ∀ (j : Nat) (q : Int), q = ((n.toNat / 2 ^ (8 * j) % 256 : Nat) : Int) → BitVec.ofInt 32 q = (n >>> (8 * j)) &&& 255#32 := by
    intro j q hq
    rw [hq, BitVec.ofInt_natCast]
    apply BitVec.eq_of_toNat_eq
    rw [BitVec.toNat_ofNat, BitVec.toNat_and, BitVec.toNat_ushiftRight, Nat.shiftRight_eq_div_pow]
    have : (255#32).toNat = 2 ^ 8 - 1 := by decide
    rw [this, Nat.and_two_pow_sub_one_eq_mod]
    omega
  unfold word
  rw [key 0 _ (by simp), key 1 _ (by simp), key 2 _ (by simp), key 3 _ (by simp)]
  apply BitVec.eq_of_getLsbD_eq
  intro i hi
  simp only [BitVec.getLsbD_xor, BitVec.getLsbD_shiftLeft, BitVec.getLsbD_and, BitVec.getLsbD_ushiftRight]
  have h255 : ∀ k, (255#32).getLsbD k = decide (k < 8) := by
    intro k
    by_cases hk : k < 32
    · revert k; decide
    · rw [BitVec.getLsbD_of_ge _ _ (by omega)]; simp; omega
  simp only [h255]
  by_cases h8 : i < 8
  · simp [h8, show i < 16 by omega, show i < 24 by omega, hi]
  · by_cases h16 : i < 16
    · simp [h8, h16, show i < 24 by omega, hi, show i - 8 < 8 by omega, show 8 + (i - 8) = i by omega]
    · by_cases h24 : i < 24
      · simp [h8, h16, h24, hi, show ¬ i - 8 < 8 by omega, show i - 16 < 8 by omega, show 16 + (i - 16) = i by omega]
      · simp [h8, h16, h24, hi, show ¬ i - 8 < 8 by omega, show ¬ i - 16 < 8 by omega, show i - 24 < 8 by omega, show 24 + (i - 24) = i by omega]
theorem word_inj {a b c d a' b' c' d' : Int} (ha : 0 ≤ a ∧ a ≤ 255) (hb : 0 ≤ b ∧ b ≤ 255) (hc : 0 ≤ c ∧ c ≤ 255) (hd : 0 ≤ d ∧ d ≤ 255) (ha' : 0 ≤ a' ∧ a' ≤ 255) (hb' : 0 ≤ b' ∧ b' ≤ 255) (hc' : 0 ≤ c' ∧ c' ≤ 255) (hd' : 0 ≤ d' ∧ d' ≤ 255) (h : word a b c d = word a' b' c' d') : a = a' ∧ b = b' ∧ c = c' ∧ d = d' := by
  have key : ∀ {p q r s : Int}, 0 ≤ p ∧ p ≤ 255 → 0 ≤ q ∧ q ≤ 255 → 0 ≤ r ∧ r ≤ 255 → 0 ≤ s ∧ s ≤ 255 → ((word p q r s).toNat : Int) = p + 256 * q + 65536 * r + 16777216 * s := by
    intro p q r s hp hq hr hs
    obtain ⟨n, hn⟩ : ∃ n : Nat, (n : Int) = p + 256 * q + 65536 * r + 16777216 * s := ⟨(p + 256 * q + 65536 * r + 16777216 * s).toNat, by omega⟩
    have hlt : n < 4294967296 := by omega
    have e := word_tail (BitVec.ofNat 32 n)
    have e2 : (BitVec.ofNat 32 n).toNat = n := by rw [BitVec.toNat_ofNat]; omega
    rw [e2, hn] at e
    have q1 : (p + 256 * q + 65536 * r + 16777216 * s) % 256 = p := by omega
    have q2 : (p + 256 * q + 65536 * r + 16777216 * s) / 256 % 256 = q := by omega
    have q3 : (p + 256 * q + 65536 * r + 16777216 * s) / 65536 % 256 = r := by omega
    have q4 : (p + 256 * q + 65536 * r + 16777216 * s) / 16777216 % 256 = s := by omega
    rw [q1, q2, q3, q4] at e
    rw [e, e2, hn]
  have h1 := key ha hb hc hd
  have h2 := key ha' hb' hc' hd'
  rw [h, h2] at h1
  omega
end Go.Proofs.Ytocfkbiojgbloaa.CrcMath
