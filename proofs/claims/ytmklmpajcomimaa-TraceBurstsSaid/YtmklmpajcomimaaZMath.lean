import Derived.Test.YtmklmpajcomimaaZRead
section
/- The plain law of a trace: what was written is read, frame by frame. No program in sight. -/
namespace Go.Proofs.Ytmklmpajcomimaa.Hand
open Go.RowKit Go.Proofs.YtmklmpajcomimaaW.PrintWords Go.Proofs.YtmklmpajcomimaaW.PrintLast Go.Proofs.YtmklmpajcomimaaW.PrintMore Go.Proofs.Ytmklmpajcomimaa.PTraceWrites Go.Proofs.Ytmklmpajcomimaa.CrcMath
set_option linter.unusedVariables false
set_option linter.unusedSimpArgs false
theorem tailOf_len (n : Int) : (tailOf n).length = 4 := rfl
theorem sealP_len (l : List Int) : (sealP l).length = l.length + 4 := by simp [sealP, tailOf]
theorem openP_seal (l : List Int) : openP (sealP l) = some l := by
  unfold openP
  have h : (sealP l).length - 4 = l.length := by rw [sealP_len]; omega
  rw [h]
  unfold sealP
  rw [List.take_left' rfl, List.drop_left' rfl, if_pos ⟨by rw [List.length_append, tailOf_len]; omega, rfl⟩]
theorem getN_low : ∀ (k : Nat) (n : Int), 0 ≤ n → n < 256 ^ k → getN (low k n) = n
  | 0, n, h0, h1 => by
    have : n = 0 := by simpa using Int.le_antisymm (Int.lt_add_one_iff.1 (by simpa using h1)) h0
    subst this
    rfl
  | k + 1, n, h0, h1 => by
    have e : (256 : Int) ^ (k + 1) = 256 ^ k * 256 := Int.pow_succ ..
    rw [e] at h1
    unfold low getN
    rw [getN_low k (n / 256) (by omega) (by omega)]
    omega
theorem lt_4 {n : Int} (h : n < 4294967296) : n < 256 ^ 4 := by
  have e : (256 : Int) ^ 4 = 4294967296 := by decide
  rw [e]
  exact h
theorem lt_8 {n : Int} (h : n < 18446744073709551616) : n < 256 ^ 8 := by
  have e : (256 : Int) ^ 8 = 18446744073709551616 := by decide
  rw [e]
  exact h
theorem mid_at (pre x suf : List Int) (m : Nat) (hm : m = pre.length + x.length) : ((pre ++ (x ++ suf)).take m).drop pre.length = x := by
  subst hm
  rw [← List.append_assoc, List.take_left' (by rw [List.length_append]), List.drop_left' rfl]
theorem partE_seal (pre x suf : List Int) : partE (pre ++ (sealP x ++ suf)) pre.length (x.length + 4) = .ok (x, pre.length + (x.length + 4)) := by
  unfold partE
  rw [if_neg (by simp only [List.length_append, sealP_len]; omega), mid_at _ _ _ _ (by rw [sealP_len]), openP_seal]
  rfl
theorem low4_len (n : Int) : (low 4 n).length = 4 := low_len 4 n
/-- A frame at its place is opened. -/
theorem openE_frame (pre x suf : List Int) (hx : x.length ≤ 1048576) : openE (pre ++ (frameP x ++ suf)) pre.length = .ok (x, pre.length + (x.length + 12)) := by
  have hg : getN (low 4 (x.length : Int)) = x.length := getN_low 4 _ (by omega) (lt_4 (by omega))
  unfold openE frameP
  have h1 := partE_seal pre (low 4 (x.length : Int)) (sealP x ++ suf)
  rw [low4_len] at h1
  rw [List.append_assoc, h1]
  simp only
  rw [hg, if_neg (by omega), Int.toNat_natCast]
  have h2 := partE_seal (pre ++ sealP (low 4 (x.length : Int))) x suf
  rw [List.length_append, sealP_len, low4_len, List.append_assoc] at h2
  rw [h2]
  congr 2
  omega
/-- A frame that is cut is short. -/
theorem openE_short (pre x : List Int) (k : Nat) (hx : x.length ≤ 1048576) (hk : k < x.length + 12) : openE (pre ++ (frameP x).take k) pre.length = .error 210 := by
  have hg : getN (low 4 (x.length : Int)) = x.length := getN_low 4 _ (by omega) (lt_4 (by omega))
  have hfl := frameP_len x
  have hl : (pre ++ (frameP x).take k).length = pre.length + k := by rw [List.length_append, List.length_take]; omega
  by_cases h8 : k < 8
  · unfold openE
    have : partE (pre ++ (frameP x).take k) pre.length 8 = .error 210 := by
      unfold partE
      rw [if_pos (by omega)]
    rw [this]
  · have hs8 : (sealP (low 4 (x.length : Int))).length = 8 := by rw [sealP_len, low4_len]
    have htk : (frameP x).take k = sealP (low 4 (x.length : Int)) ++ (sealP x).take (k - 8) := by
      unfold frameP
      rw [List.take_append, hs8, List.take_of_length_le (by omega)]
    unfold openE
    rw [htk]
    have h1 := partE_seal pre (low 4 (x.length : Int)) ((sealP x).take (k - 8))
    rw [low4_len] at h1
    rw [h1]
    simp only
    rw [hg, if_neg (by omega), Int.toNat_natCast]
    unfold partE
    rw [if_pos (by rw [← htk, hl]; omega)]
/-! ### a header's bytes -/
theorem headP_len (s r d : Int) : (headP s r d).length = 13 + (num r).length := by
  simp only [headP, List.length_append, List.length_cons, List.length_nil, low_len]
  omega
theorem num_len1 {n : Int} (h : 0 ≤ n) : 1 ≤ (num n).length := by
  unfold num
  rw [if_neg (by omega)]
  exact (numL_len 8 n).1
theorem headerE_head (s r d : Int) (hs : 0 ≤ s ∧ s < 18446744073709551616) (hr : 0 ≤ r ∧ r ≤ 2199023255552) (hd : 0 ≤ d ∧ d < 4294967296) : headerE (headP s r d) = .ok (s, r, d) := by
  have hl := headP_len s r d
  have hn := num_len1 hr.1
  have h9 : (headP s r d).drop 9 = num r ++ low 4 d := by
    unfold headP
    rw [List.append_assoc, List.drop_left' (by simp [low_len])]
  have hg : getP ((headP s r d).drop 9) = (r, (num r).length) := by rw [h9]; exact getP_num r _ hr.1 (by omega)
  have h0 : rd (headP s r d) 0 = 255 := rfl
  have e8 : ((headP s r d).take 9).drop 1 = low 8 s := by
    unfold headP
    rw [List.append_assoc, List.take_left' (by simp [low_len])]
    rfl
  have e4 : (headP s r d).drop (9 + (num r).length) = low 4 d := by
    rw [← List.drop_drop, h9, List.drop_left' rfl]
  unfold headerE
  rw [if_neg (by rw [hl, h0]; omega), hg]
  simp only
  rw [if_neg (by omega), e8, e4, getN_low 8 s hs.1 (lt_8 hs.2), getN_low 4 d hd.1 (lt_4 hd.2)]
/-! ### the last frame's -/
theorem endsE_last (n : Nat) (hn : n ≤ 4096) : endsE ([0] ++ num (n : Int)) (n : Int) = .ok true := by
  have hl := num_len1 (show 0 ≤ (n : Int) by omega)
  have h1 : ([0] ++ num (n : Int)).drop 1 = num (n : Int) ++ [] := (List.drop_left' (l₁ := [(0 : Int)]) rfl).trans (List.append_nil _).symm
  have hg : getP (([0] ++ num (n : Int)).drop 1) = ((n : Int), (num (n : Int)).length) := (congrArg getP h1).trans (getP_num _ _ (by omega) (by omega))
  unfold endsE
  rw [if_neg (by rw [List.length_append]; intro h; rcases h with h | h; (· simp at h); exact h rfl), hg]
  simp only
  rw [if_neg (fun hc => by
    rcases hc with h | h | h
    · omega
    · exact h (by rw [List.length_append]; simp)
    · exact h rfl)]
theorem right_kind {r : S39} (h : rightP r = true) : 1 ≤ r.f0 ∧ r.f0 ≤ 14 := by
  unfold rightP at h
  simp only [Bool.and_eq_true, Bool.or_eq_true, decide_eq_true_eq] at h
  omega
theorem endsE_rec {r : S39} (h : rightP r = true) (n : Int) : endsE (bytesP r) n = .ok false := by
  have hk := right_kind h
  unfold endsE
  rw [if_pos]
  right
  show r.f0 % 256 ≠ 0
  omega
theorem headerE_rec {r : S39} (h : rightP r = true) : headerE (bytesP r) = .error 212 := by
  have hk := right_kind h
  unfold headerE
  rw [if_pos]
  right
  show r.f0 % 256 ≠ 255
  omega
theorem headerE_last (n : Nat) : headerE ([0] ++ num (n : Int)) = .error 212 := by
  unfold headerE
  rw [if_pos]
  right
  show (0 : Int) ≠ 255
  decide
/-! ### a record's -/
theorem rI_num (pre suf : List Int) (n : Int) (h0 : 0 ≤ n) (h1 : n ≤ 2199023255552) : rI (pre ++ (num n ++ suf)) pre.length false 2199023255552 = (n, pre.length + (num n).length, false) := by
  have hl := num_len1 h0
  unfold rI
  rw [List.drop_left' rfl, getP_num n suf h0 (by omega)]
  rw [if_neg (fun hc => by
    rcases hc with h | h | h
    · cases h
    · simp only at h; omega
    · exact absurd h1 (of_decide_eq_false h))]
theorem rS_str (pre : List Int) (s : List Int) (hs : s.length ≤ 65536) : rS (pre ++ (num (s.length : Int) ++ s)) pre.length false 65536 = (s, pre.length + ((num (s.length : Int)).length + s.length), false) := by
  have hl := num_len1 (show 0 ≤ (s.length : Int) by omega)
  have hg := getP_num (s.length : Int) s (by omega) (by omega)
  unfold rS getS
  rw [List.drop_left' rfl, hg]
  have hn : ¬ ((num (s.length : Int)).length = 0 ∨ (s.length : Int) > 65536 ∨ (s.length : Int) > ((num (s.length : Int) ++ s).length : Int) - ((num (s.length : Int)).length : Int)) := by rw [List.length_append]; omega
  simp only
  rw [if_neg hn]
  simp only [List.drop_left' rfl, Int.toNat_natCast, List.take_length]
  rw [if_neg (fun hc => by
    rcases hc with h | h | h
    · cases h
    · omega
    · cases h)]
theorem recordE_bytes {r : S39} (h : rightP r = true) : recordE (bytesP r) = .ok r := by
  have hk := right_kind h
  have hk5 := fun i hi => right_num h i hi
  have n1 := hk5 0 (by omega)
  have n2 := hk5 1 (by omega)
  have n3 := hk5 2 (by omega)
  have n4 := hk5 3 (by omega)
  have n5 := hk5 4 (by omega)
  have hs := right_size h
  obtain ⟨kd, a, b, c, d, e, s⟩ := r
  have n1' : 0 ≤ a ∧ a ≤ 2199023255552 := n1
  have n2' : 0 ≤ b ∧ b ≤ 2199023255552 := n2
  have n3' : 0 ≤ c ∧ c ≤ 2199023255552 := n3
  have n4' : 0 ≤ d ∧ d ≤ 2199023255552 := n4
  have n5' : 0 ≤ e ∧ e ≤ 2199023255552 := n5
  clear n1 n2 n3 n4 n5 hk5
  simp only at hk hs
  have hB : bytesP ⟨kd, a, b, c, d, e, s⟩ = [kd] ++ (num a ++ (num b ++ (num c ++ (num d ++ (num e ++ (num (s.size : Int) ++ bs s)))))) := by
    simp only [bytesP, fld, numsP, List.append_nil, List.append_assoc]
    rw [show kd % 256 = kd by omega]
    rfl
  have hrB : rB (bytesP ⟨kd, a, b, c, d, e, s⟩) 0 false 255 = (kd, 1, false) := by
    rw [hB]
    unfold rB
    rw [List.drop_zero]
    show (if false = true ∨ (1 : Nat) = 0 ∨ decide (kd ≤ 255) = false then _ else _) = _
    rw [if_neg (by simp; omega)]
    rfl
  obtain ⟨L, hL⟩ : ∃ L, bytesP ⟨kd, a, b, c, d, e, s⟩ = L := ⟨_, rfl⟩
  rw [hL] at hrB
  have hLL : L = [kd] ++ (num a ++ (num b ++ (num c ++ (num d ++ (num e ++ (num (s.size : Int) ++ bs s)))))) := hL ▸ hB
  have r1 : rI L 1 false 2199023255552 = (a, 1 + (num a).length, false) := by rw [hLL]; exact rI_num [kd] _ a n1'.1 n1'.2
  have r2 : rI L (1 + (num a).length) false 2199023255552 = (b, 1 + (num a).length + (num b).length, false) := by
    rw [hLL, ← List.append_assoc]
    have := rI_num ([kd] ++ num a) (num c ++ (num d ++ (num e ++ (num (s.size : Int) ++ bs s)))) b n2'.1 n2'.2
    rw [List.length_append] at this
    exact this
  have r3 : rI L (1 + (num a).length + (num b).length) false 2199023255552 = (c, 1 + (num a).length + (num b).length + (num c).length, false) := by
    rw [hLL, ← List.append_assoc, ← List.append_assoc]
    have := rI_num ([kd] ++ num a ++ num b) (num d ++ (num e ++ (num (s.size : Int) ++ bs s))) c n3'.1 n3'.2
    rw [List.length_append, List.length_append] at this
    exact this
  have r4 : rI L (1 + (num a).length + (num b).length + (num c).length) false 2199023255552 = (d, 1 + (num a).length + (num b).length + (num c).length + (num d).length, false) := by
    rw [hLL, ← List.append_assoc, ← List.append_assoc, ← List.append_assoc]
    have := rI_num ([kd] ++ num a ++ num b ++ num c) (num e ++ (num (s.size : Int) ++ bs s)) d n4'.1 n4'.2
    rw [List.length_append, List.length_append, List.length_append] at this
    exact this
  have r5 : rI L (1 + (num a).length + (num b).length + (num c).length + (num d).length) false 2199023255552 = (e, 1 + (num a).length + (num b).length + (num c).length + (num d).length + (num e).length, false) := by
    rw [hLL, ← List.append_assoc, ← List.append_assoc, ← List.append_assoc, ← List.append_assoc]
    have := rI_num ([kd] ++ num a ++ num b ++ num c ++ num d) (num (s.size : Int) ++ bs s) e n5'.1 n5'.2
    rw [List.length_append, List.length_append, List.length_append, List.length_append] at this
    exact this
  have r6 : rS L (1 + (num a).length + (num b).length + (num c).length + (num d).length + (num e).length) false 65536 = (bs s, 1 + (num a).length + (num b).length + (num c).length + (num d).length + (num e).length + ((num (s.size : Int)).length + s.size), false) := by
    rw [hLL, ← List.append_assoc, ← List.append_assoc, ← List.append_assoc, ← List.append_assoc, ← List.append_assoc]
    have := rS_str ([kd] ++ num a ++ num b ++ num c ++ num d ++ num e) (bs s) (by rw [bs_len]; exact hs)
    rw [List.length_append, List.length_append, List.length_append, List.length_append, List.length_append, bs_len] at this
    exact this
  have hlen : L.length = 1 + (num a).length + (num b).length + (num c).length + (num d).length + (num e).length + ((num (s.size : Int)).length + s.size) := by
    rw [hLL]
    simp only [List.length_append, bs_len, List.length_cons, List.length_nil]
    omega
  have hK : readK L 1 false 5 = ([a, b, c, d, e], 1 + (num a).length + (num b).length + (num c).length + (num d).length + (num e).length, false) := by
    simp only [readK, r1, r2, r3, r4, r5]
    rfl
  have hR : readR L = (⟨kd, a, b, c, d, e, s⟩, 1 + (num a).length + (num b).length + (num c).length + (num d).length + (num e).length + ((num (s.size : Int)).length + s.size), false) := by
    unfold readR
    rw [hrB]
    simp only
    rw [hK]
    simp only
    rw [r6]
    simp only [str_bs]
    rfl
  unfold recordE
  rw [hL, hR]
  simp only
  rw [if_pos (by rw [hlen, h]; simp)]
end Go.Proofs.Ytmklmpajcomimaa.Hand
end

section
/- The plain law of a trace: all of it, its beginnings, what stands behind, its frames. No program in sight. -/
namespace Go.Proofs.Ytmklmpajcomimaa.Hand
open Go.RowKit Go.Proofs.YtmklmpajcomimaaW.PrintWords Go.Proofs.YtmklmpajcomimaaW.PrintLast Go.Proofs.YtmklmpajcomimaaW.PrintMore Go.Proofs.Ytmklmpajcomimaa.PTraceWrites Go.Proofs.Ytmklmpajcomimaa.CrcMath
set_option linter.unusedVariables false
set_option linter.unusedSimpArgs false
def framesX : List (List Int) → List Int
  | [] => []
  | x :: xs => frameP x ++ framesX xs
theorem framesX_append : ∀ a b : List (List Int), framesX (a ++ b) = framesX a ++ framesX b
  | [], b => rfl
  | x :: a, b => by
    show frameP x ++ framesX (a ++ b) = frameP x ++ framesX a ++ framesX b
    rw [framesX_append a b, List.append_assoc]
theorem framesX_map : ∀ l : List S39, framesX (l.map bytesP) = framesP l
  | [] => rfl
  | r :: l => by
    show frameP (bytesP r) ++ framesX (l.map bytesP) = frameP (bytesP r) ++ framesP l
    rw [framesX_map l]
def lastP (n : Nat) : List Int := [0] ++ num (n : Int)
/-- What a trace's frames hold. -/
def parts (s r d : Int) (l : List S39) : List (List Int) := headP s r d :: (l.map bytesP ++ [lastP l.length])
theorem parts_len (s r d : Int) (l : List S39) : (parts s r d l).length = l.length + 2 := by simp [parts]
theorem enc_parts (s r d : Int) (l : List S39) : encP s r d l = framesX (parts s r d l) := by
  unfold encP partP parts
  show _ = frameP (headP s r d) ++ framesX (l.map bytesP ++ [lastP l.length])
  rw [framesX_append, framesX_map, ← List.append_assoc]
  show _ = frameP (headP s r d) ++ framesP l ++ (frameP (lastP l.length) ++ [])
  rw [List.append_nil]
  rfl
theorem headP_small (s r d : Int) : (headP s r d).length ≤ 1048576 := by
  rw [headP_len]
  have := num_len r
  omega
theorem lastP_small (n : Nat) : (lastP n).length ≤ 1048576 := by
  have := num_len (n : Int)
  simp only [lastP, List.length_append, List.length_cons, List.length_nil]
  omega
theorem parts_small {s r d : Int} {l : List S39} (hl : l.all rightP = true) : ∀ x ∈ parts s r d l, x.length ≤ 1048576 := by
  intro x hx
  rcases List.mem_cons.1 hx with rfl | hx
  · exact headP_small s r d
  · rcases List.mem_append.1 hx with hx | hx
    · obtain ⟨r, hr, rfl⟩ := List.mem_map.1 hx
      have := bytesP_len r (List.all_eq_true.1 hl r hr)
      omega
    · obtain rfl := List.mem_singleton.1 hx
      exact lastP_small _
theorem decO_ok {len at_ m : Nat} {l : List S39} {x : List Int} {f : Nat → List S39 → List S39 × Nat × Int} : decO len at_ l f (.ok (x, m)) = decB len at_ m l x f (endsE x (l.length : Int)) := rfl
theorem decB_rec {len at_ m : Nat} {l : List S39} {x : List Int} {f : Nat → List S39 → List S39 × Nat × Int} {r : S39} (h : l.length < 4096) (hr : recordE x = .ok r) : decB len at_ m l x f (.ok false) = f m (l ++ [r]) := by
  show (if l.length < 4096 then match recordE x with
      | .error n => (l, at_, n)
      | .ok r => f m (l ++ [r])
    else (l, at_, 212)) = _
  rw [if_pos h, hr]
/-- The records are read, one behind the other. -/
theorem decF_recs : ∀ (l2 l1 : List S39) (pre suf : List Int), l1.length + l2.length ≤ 4096 → l2.all rightP = true → decF (pre ++ (framesP l2 ++ suf)) pre.length l1 = decF (pre ++ (framesP l2 ++ suf)) (pre.length + (framesP l2).length) (l1 ++ l2)
  | [], l1, pre, suf, h, hr => by
    rw [List.append_nil]
    rfl
  | r :: l2, l1, pre, suf, h, hr => by
    have hr1 : rightP r = true := List.all_eq_true.1 hr r (List.mem_cons_self ..)
    have hr2 : l2.all rightP = true := List.all_eq_true.2 (fun x hx => List.all_eq_true.1 hr x (List.mem_cons_of_mem _ hx))
    have hbl := bytesP_len r hr1
    rw [List.length_cons] at h
    have e : pre ++ (framesP (r :: l2) ++ suf) = pre ++ (frameP (bytesP r) ++ (framesP l2 ++ suf)) := by
      show pre ++ ((frameP (bytesP r) ++ framesP l2) ++ suf) = _
      rw [List.append_assoc]
    have e2 : pre ++ (framesP (r :: l2) ++ suf) = (pre ++ frameP (bytesP r)) ++ (framesP l2 ++ suf) := by rw [e, List.append_assoc]
    have ho := openE_frame pre (bytesP r) (framesP l2 ++ suf) (by omega)
    rw [← e] at ho
    have ih := decF_recs l2 (l1 ++ [r]) (pre ++ frameP (bytesP r)) suf (by simp; omega) hr2
    rw [← e2, List.length_append, frameP_len] at ih
    have hle : pre.length ≤ (pre ++ (framesP (r :: l2) ++ suf)).length := by rw [List.length_append]; omega
    rw [decF_is _ _ _ hle, ho]
    show decB _ _ _ _ _ _ (endsE (bytesP r) (l1.length : Int)) = _
    rw [endsE_rec hr1, decB_rec (show l1.length < 4096 by omega) (recordE_bytes hr1), ih]
    have e3 : (framesP (r :: l2)).length = (bytesP r).length + 12 + (framesP l2).length := by
      show (frameP (bytesP r) ++ framesP l2).length = _
      rw [List.length_append, frameP_len]
    rw [e3, List.append_assoc, show pre.length + ((bytesP r).length + 12 + (framesP l2).length) = pre.length + ((bytesP r).length + 12) + (framesP l2).length by omega]
    rfl
theorem lastP_ends (n : Nat) (h : n ≤ 4096) : endsE (lastP n) (n : Int) = .ok true := by
  unfold lastP
  exact endsE_last n h
theorem decF_last (l : List S39) (pre suf : List Int) (h : l.length ≤ 4096) : decF (pre ++ (frameP (lastP l.length) ++ suf)) pre.length l = (l, pre.length + ((lastP l.length).length + 12), if suf = [] then 0 else 212) := by
  have hle : pre.length ≤ (pre ++ (frameP (lastP l.length) ++ suf)).length := by rw [List.length_append]; omega
  have hl : (pre ++ (frameP (lastP l.length) ++ suf)).length = pre.length + ((lastP l.length).length + 12) + suf.length := by
    rw [List.length_append, List.length_append, frameP_len]
    omega
  rw [decF_is _ _ _ hle, openE_frame pre (lastP l.length) suf (lastP_small _)]
  rw [decO_ok, lastP_ends _ h]
  have hi : (if pre.length + ((lastP l.length).length + 12) = (pre ++ (frameP (lastP l.length) ++ suf)).length then (0 : Int) else 212) = if suf = [] then 0 else 212 := by
    rw [hl]
    cases suf with
    | nil => simp
    | cons a t => simp
  rw [← hi]
  rfl
/-- The header's ranges. -/
def HeadOk (s r d : Int) : Prop := (0 ≤ s ∧ s < 18446744073709551616) ∧ (0 ≤ r ∧ r ≤ 2199023255552) ∧ (0 ≤ d ∧ d < 4294967296)
theorem readE_head (s r d : Int) (suf : List Int) (hh : HeadOk s r d) : readE (frameP (headP s r d) ++ suf) = ((s, r, d), decF (frameP (headP s r d) ++ suf) ((headP s r d).length + 12) []) := by
  have ho := openE_frame [] (headP s r d) suf (headP_small s r d)
  rw [List.nil_append] at ho
  unfold readE
  rw [show (0 : Nat) = ([] : List Int).length from rfl, ho]
  simp only
  rw [headerE_head s r d hh.1 hh.2.1 hh.2.2]
  simp only [List.length_nil, Nat.zero_add]
/-- A trace with something behind it. -/
theorem readE_more (s r d : Int) (l : List S39) (more : List Int) (hh : HeadOk s r d) (hl : l.length ≤ 4096) (hr : l.all rightP = true) : readE (encP s r d l ++ more) = ((s, r, d), l, (encP s r d l).length, if more = [] then 0 else 212) := by
  have e : encP s r d l ++ more = frameP (headP s r d) ++ (framesP l ++ (frameP (lastP l.length) ++ more)) := by
    unfold encP partP lastP
    simp only [List.append_assoc]
  have h1 := decF_recs l [] (frameP (headP s r d)) (frameP (lastP l.length) ++ more) (by simp; exact hl) hr
  have h2 := decF_last l (frameP (headP s r d) ++ framesP l) more hl
  rw [List.append_assoc] at h2
  rw [List.length_append] at h2
  rw [e, readE_head s r d _ hh]
  rw [frameP_len] at h1 h2
  rw [h1, List.nil_append, h2]
  have : (encP s r d l).length = (headP s r d).length + 12 + (framesP l).length + ((lastP l.length).length + 12) := by
    unfold encP partP lastP
    rw [List.length_append, List.length_append, frameP_len, frameP_len]
  rw [this]
theorem readE_enc (s r d : Int) (l : List S39) (hh : HeadOk s r d) (hl : l.length ≤ 4096) (hr : l.all rightP = true) : readE (encP s r d l) = ((s, r, d), l, (encP s r d l).length, 0) := by
  have := readE_more s r d l [] hh hl hr
  rw [List.append_nil, if_pos rfl] at this
  exact this
/-! ### beginnings -/
theorem chop : ∀ (xs : List (List Int)) (n : Nat), n < (framesX xs).length → ∃ j k, ∃ hj : j < xs.length, k < (xs[j]).length + 12 ∧ (framesX xs).take n = framesX (xs.take j) ++ (frameP (xs[j])).take k ∧ n = (framesX (xs.take j)).length + k
  | [], n, h => by simp [framesX] at h
  | x :: xs, n, h => by
    have hf := frameP_len x
    by_cases hn : n < x.length + 12
    · refine ⟨0, n, by simp, hn, ?_, by simp [framesX]⟩
      show (frameP x ++ framesX xs).take n = [] ++ (frameP x).take n
      rw [List.nil_append, List.take_append_of_le_length (by omega)]
    · have h' : n - (x.length + 12) < (framesX xs).length := by
        have : (framesX (x :: xs)).length = (frameP x).length + (framesX xs).length := List.length_append ..
        omega
      obtain ⟨j, k, hj, hk, ht, he⟩ := chop xs _ h'
      refine ⟨j + 1, k, by simp; omega, hk, ?_, ?_⟩
      · show (frameP x ++ framesX xs).take n = (frameP x ++ framesX (xs.take j)) ++ (frameP (xs[j])).take k
        rw [List.take_append, List.take_of_length_le (by omega), hf, ht, List.append_assoc]
      · have : (framesX (List.take (j + 1) (x :: xs))).length = (frameP x).length + (framesX (xs.take j)).length := List.length_append ..
        omega
def offs : Nat → List (List Int) → List Int
  | _, [] => []
  | o, x :: xs => (o : Int) :: offs (o + (x.length + 12)) xs
theorem offs_len : ∀ (xs : List (List Int)) (o : Nat), (offs o xs).length = xs.length
  | [], o => rfl
  | x :: xs, o => by simp [offs, offs_len xs]
theorem offs_at : ∀ (xs : List (List Int)) (o i : Nat) (hi : i < xs.length), (offs o xs)[i]'(by rw [offs_len]; exact hi) = ((o + (framesX (xs.take i)).length : Nat) : Int)
  | x :: xs, o, 0, hi => by simp [offs, framesX]
  | x :: xs, o, i + 1, hi => by
    have ih := offs_at xs (o + (x.length + 12)) i (by simpa using hi)
    have e : (framesX (List.take (i + 1) (x :: xs))).length = (frameP x).length + (framesX (xs.take i)).length := List.length_append ..
    have hf := frameP_len x
    show (offs (o + (x.length + 12)) xs)[i]'_ = _
    rw [ih, e, hf]
    congr 1
    omega
theorem starts_frames : ∀ (xs : List (List Int)) (pre suf : List Int), (∀ x ∈ xs, x.length ≤ 1048576) → starts (pre ++ (framesX xs ++ suf)) pre.length = offs pre.length xs ++ starts (pre ++ (framesX xs ++ suf)) (pre.length + (framesX xs).length)
  | [], pre, suf, h => by
    show _ = [] ++ _
    rw [List.nil_append]
    rfl
  | x :: xs, pre, suf, h => by
    have hx := h x (List.mem_cons_self ..)
    have hf := frameP_len x
    have e : pre ++ (framesX (x :: xs) ++ suf) = pre ++ (frameP x ++ (framesX xs ++ suf)) := by
      show pre ++ ((frameP x ++ framesX xs) ++ suf) = _
      rw [List.append_assoc]
    have e2 : pre ++ (framesX (x :: xs) ++ suf) = (pre ++ frameP x) ++ (framesX xs ++ suf) := by rw [e, List.append_assoc]
    have ho := openE_frame pre x (framesX xs ++ suf) hx
    rw [← e] at ho
    have hlt : pre.length < (pre ++ (framesX (x :: xs) ++ suf)).length := by
      rw [e, List.length_append, List.length_append, hf]
      omega
    have ih := starts_frames xs (pre ++ frameP x) suf (fun y hy => h y (List.mem_cons_of_mem _ hy))
    rw [← e2, List.length_append, hf] at ih
    rw [starts_yes hlt ho, ih]
    have e3 : (framesX (x :: xs)).length = (frameP x).length + (framesX xs).length := List.length_append ..
    rw [e3, hf]
    show _ = ((pre.length : Int) :: offs (pre.length + (x.length + 12)) xs) ++ _
    rw [List.cons_append]
    congr 3
    omega
theorem starts_enc (s r d : Int) (l : List S39) (hr : l.all rightP = true) : starts (encP s r d l) 0 = offs 0 (parts s r d l) := by
  have h := starts_frames (parts s r d l) [] [] (parts_small hr)
  rw [List.nil_append, List.append_nil, ← enc_parts] at h
  rw [List.length_nil, Nat.zero_add] at h
  rw [h, starts_end (by omega) (Nat.le_refl _), List.append_nil]
/-- A beginning of a trace. -/
structure Begins (s r d : Int) (l : List S39) (n : Nat) (j : Nat) : Prop where
  few : j ≤ l.length + 1
  starts : (starts ((encP s r d l).take n) 0).length = j
  read : readE ((encP s r d l).take n) = if j = 0 then ((0, 0, 0), [], 0, 210) else ((s, r, d), l.take (j - 1), (framesX ((parts s r d l).take j)).length, 210)
  le : (framesX ((parts s r d l).take j)).length ≤ n
  lt : n < (framesX ((parts s r d l).take (j + 1))).length
theorem begins (s r d : Int) (l : List S39) (n : Nat) (hh : HeadOk s r d) (hl : l.length ≤ 4096) (hr : l.all rightP = true) (hn : n < (encP s r d l).length) : ∃ j, Begins s r d l n j := by
  rw [enc_parts] at hn
  obtain ⟨j, k, hj, hk, ht, he⟩ := chop _ n hn
  rw [← enc_parts] at ht
  have hj2 : j ≤ l.length + 1 := by rw [parts_len] at hj; omega
  have hsm : (((parts s r d l)[j])).length ≤ 1048576 := parts_small hr _ (List.getElem_mem hj)
  have hsh := openE_short (framesX ((parts s r d l).take j)) _ k hsm hk
  rw [← ht] at hsh
  have hlt : n < (framesX ((parts s r d l).take (j + 1))).length := by
    rw [List.take_succ_eq_append_getElem hj, framesX_append, List.length_append]
    have : (framesX [(parts s r d l)[j]]).length = ((parts s r d l)[j]).length + 12 := by
      show (frameP _ ++ []).length = _
      rw [List.append_nil, frameP_len]
    omega
  refine ⟨j, hj2, ?_, ?_, by omega, hlt⟩
  · have h := starts_frames ((parts s r d l).take j) [] ((frameP ((parts s r d l)[j])).take k) (fun x hx => parts_small hr x (List.mem_of_mem_take hx))
    rw [List.nil_append, ← ht] at h
    rw [List.length_nil, Nat.zero_add] at h
    rw [h, List.length_append, offs_len, List.length_take]
    have hlen : ((encP s r d l).take n).length = n := by rw [List.length_take]; rw [← enc_parts] at hn; omega
    have : starts ((encP s r d l).take n) (framesX ((parts s r d l).take j)).length = [] := by
      by_cases hk0 : (framesX ((parts s r d l).take j)).length < ((encP s r d l).take n).length
      · exact starts_no hk0 hsh
      · exact starts_end hk0 (by omega)
    rw [this]
    simp
    omega
  · by_cases hj0 : j = 0
    · subst hj0
      rw [if_pos rfl]
      unfold readE
      have : openE ((encP s r d l).take n) 0 = .error 210 := hsh
      rw [this]
    · rw [if_neg hj0]
      obtain ⟨i, rfl⟩ : ∃ i, j = i + 1 := ⟨j - 1, by omega⟩
      have hil : i ≤ l.length := by omega
      have e1 : (parts s r d l).take (i + 1) = headP s r d :: (l.take i).map bytesP := by
        unfold parts
        rw [List.take_succ_cons, List.take_append_of_le_length (by simp; exact hil), List.map_take]
      have e2 : framesX ((parts s r d l).take (i + 1)) = frameP (headP s r d) ++ framesP (l.take i) := by
        rw [e1]
        show frameP (headP s r d) ++ framesX ((l.take i).map bytesP) = _
        rw [framesX_map]
      have e3 : (encP s r d l).take n = frameP (headP s r d) ++ (framesP (l.take i) ++ (frameP ((parts s r d l)[i + 1])).take k) := by rw [ht, e2, List.append_assoc]
      have hall : (l.take i).all rightP = true := List.all_eq_true.2 (fun x hx => List.all_eq_true.1 hr x (List.mem_of_mem_take hx))
      have h1 := decF_recs (l.take i) [] (frameP (headP s r d)) ((frameP ((parts s r d l)[i + 1])).take k) (by simp; omega) hall
      rw [← e3, frameP_len] at h1
      have h2 := readE_head s r d (framesP (l.take i) ++ (frameP ((parts s r d l)[i + 1])).take k) hh
      rw [← e3] at h2
      rw [h2, h1, List.nil_append]
      have e4 : (framesX ((parts s r d l).take (i + 1))).length = (headP s r d).length + 12 + (framesP (l.take i)).length := by rw [e2, List.length_append, frameP_len]
      rw [e4] at hsh ⊢
      have hle : (headP s r d).length + 12 + (framesP (l.take i)).length ≤ ((encP s r d l).take n).length := by
        rw [e3, List.length_append, List.length_append, frameP_len]
        omega
      rw [decF_is _ _ _ hle, hsh]
      rfl
/-! ### all that stands from a frame on -/
theorem drop_frames (xs : List (List Int)) (i : Nat) : (framesX xs).drop (framesX (xs.take i)).length = framesX (xs.drop i) := by
  have h : framesX xs = framesX (xs.take i) ++ framesX (xs.drop i) := by rw [← framesX_append, List.take_append_drop]
  rw [h, List.drop_left' rfl]
theorem readE_from (s r d : Int) (l : List S39) (i : Nat) (hr : l.all rightP = true) (h1 : 1 ≤ i) (h2 : i < (parts s r d l).length) : readE ((encP s r d l).drop (framesX ((parts s r d l).take i)).length) = ((0, 0, 0), [], 0, 212) := by
  rw [enc_parts, drop_frames]
  have hd : (parts s r d l).drop i = (parts s r d l)[i] :: (parts s r d l).drop (i + 1) := List.drop_eq_getElem_cons h2
  have hsm : (((parts s r d l)[i])).length ≤ 1048576 := parts_small hr _ (List.getElem_mem h2)
  have hhe : headerE ((parts s r d l)[i]) = .error 212 := by
    have hmem : (parts s r d l)[i] ∈ l.map bytesP ++ [lastP l.length] := by
      obtain ⟨q, rfl⟩ : ∃ q, i = q + 1 := ⟨i - 1, by omega⟩
      exact List.getElem_mem (l := l.map bytesP ++ [lastP l.length]) _
    rcases List.mem_append.1 hmem with hx | hx
    · obtain ⟨r', hr', he⟩ := List.mem_map.1 hx
      rw [← he]
      exact headerE_rec (List.all_eq_true.1 hr r' hr')
    · rw [List.mem_singleton.1 hx]
      exact headerE_last _
  rw [hd]
  have ho := openE_frame [] ((parts s r d l)[i]) (framesX ((parts s r d l).drop (i + 1))) hsm
  rw [List.nil_append, List.length_nil] at ho
  unfold readE
  show (match openE (frameP ((parts s r d l)[i]) ++ framesX ((parts s r d l).drop (i + 1))) 0 with
    | .error n => ((0, 0, 0), [], 0, n)
    | .ok (x, m) => match headerE x with
      | .error n => ((0, 0, 0), [], 0, n)
      | .ok h => (h, decF _ m [])) = _
  rw [ho]
  simp only
  rw [hhe]
end Go.Proofs.Ytmklmpajcomimaa.Hand
end

section
/- A burst of turned bits is found. No program in sight. -/
namespace Go.Proofs.Ytmklmpajcomimaa.Hand
open Go.RowKit Go.Proofs.YtmklmpajcomimaaW.PrintWords Go.Proofs.YtmklmpajcomimaaW.PrintLast Go.Proofs.YtmklmpajcomimaaW.PrintMore Go.Proofs.Ytmklmpajcomimaa.PTraceWrites Go.Proofs.Ytmklmpajcomimaa.CrcMath
set_option linter.unusedVariables false
set_option linter.unusedSimpArgs false
theorem bits_u8 (x y : Int) : BitVec.ofInt 32 (Go.bits .xor .u8 x y) = (BitVec.ofInt 8 x ^^^ BitVec.ofInt 8 y).setWidth 32 := by
  simp only [Go.bits, IntKind.wrap_u8]
  have := (BitVec.ofInt 8 x ^^^ BitVec.ofInt 8 y).isLt
  have e : (((BitVec.ofInt 8 x ^^^ BitVec.ofInt 8 y).toNat : Nat) : Int) % 256 = (((BitVec.ofInt 8 x ^^^ BitVec.ofInt 8 y).toNat : Nat) : Int) := by omega
  show BitVec.ofInt 32 ((((BitVec.ofInt 8 x ^^^ BitVec.ofInt 8 y).toNat : Nat) : Int) % 256) = _
  rw [e, BitVec.ofInt_natCast, BitVec.ofNat_toNat]
theorem wide8 {x : Int} (h : 0 ≤ x ∧ x ≤ 255) : (BitVec.ofInt 8 x).setWidth 32 = BitVec.ofInt 32 x := by
  obtain ⟨n, rfl⟩ := Int.eq_ofNat_of_zero_le h.1
  rw [BitVec.ofInt_natCast, BitVec.ofInt_natCast]
  apply BitVec.eq_of_toNat_eq
  rw [BitVec.toNat_setWidth, BitVec.toNat_ofNat, BitVec.toNat_ofNat]
  omega
theorem bits_u8' {x y : Int} (hx : 0 ≤ x ∧ x ≤ 255) (hy : 0 ≤ y ∧ y ≤ 255) : BitVec.ofInt 32 (Go.bits .xor .u8 x y) = BitVec.ofInt 32 x ^^^ BitVec.ofInt 32 y := by
  rw [bits_u8, BitVec.setWidth_xor, wide8 hx, wide8 hy]
theorem wf_getD {l : List Int} (h : Wf l) (i : Nat) : 0 ≤ l.getD i 0 ∧ l.getD i 0 ≤ 255 := by
  by_cases hi : i < l.length
  · have : l.getD i 0 ∈ l := by rw [List.getD_eq_getElem?_getD, List.getElem?_eq_getElem hi]; exact List.getElem_mem hi
    exact h _ this
  · rw [List.getD_eq_getElem?_getD, List.getElem?_eq_none (by omega)]; simp
def bitsN : Nat → Int → List Bool
  | 0, _ => []
  | m + 1, n => (n % 2 == 1) :: bitsN m (n / 2)
theorem bitsN_len (m : Nat) : ∀ n, (bitsN m n).length = m := by
  induction m with
  | zero => intro n; rfl
  | succ m ih => intro n; simp [bitsN, ih]
def bitsOf (l : List Int) : List Bool := l.flatMap (bitsN 8)
theorem bitsOf_cons (a : Int) (l : List Int) : bitsOf (a :: l) = bitsN 8 a ++ bitsOf l := by unfold bitsOf; rw [List.flatMap_cons]
theorem bitsOf_len (l : List Int) : (bitsOf l).length = 8 * l.length := by
  induction l with
  | nil => rfl
  | cons a l ih => rw [bitsOf_cons, List.length_append, bitsN_len, ih, List.length_cons]; omega
def bitB (b : Bool) : B := if b then 1#32 else 0#32
def stepsB : List Bool → B → B
  | [], R => R
  | b :: bs, R => stepsB bs (CrcMath.step (R ^^^ bitB b))
/-- The bits of bytes, one by one, are the bytes. -/
def wordB : List Bool → B
  | [] => 0#32
  | b :: bs => bitB b ^^^ (wordB bs) <<< 1
theorem wordB_top (bs : List Bool) : ∀ i, bs.length ≤ i → (wordB bs).getLsbD i = false := by
  induction bs with
  | nil => intro i _; simp [wordB]
  | cons b bs ih =>
    intro i hi
    simp only [List.length_cons] at hi
    unfold wordB
    rw [BitVec.getLsbD_xor, BitVec.getLsbD_shiftLeft, ih (i - 1) (by omega)]
    cases b
    · simp [bitB]
    · have : i ≠ 0 := by omega
      simp [bitB, BitVec.getLsbD_one, this]
theorem stepsB_word (bs : List Bool) : ∀ R : B, bs.length ≤ 32 → stepsB bs R = CrcMath.steps bs.length (R ^^^ wordB bs) := by
  induction bs with
  | nil => intro R _; simp [stepsB, wordB, CrcMath.steps]
  | cons b bs ih =>
    intro R h
    simp only [List.length_cons] at h
    show stepsB bs (CrcMath.step (R ^^^ bitB b)) = CrcMath.steps bs.length (CrcMath.step (R ^^^ (bitB b ^^^ (wordB bs) <<< 1)))
    rw [ih _ (by omega), ← BitVec.xor_assoc, step_xor (R ^^^ bitB b), step_shl _ (wordB_top bs 31 (by omega))]
theorem stepsB_append (a b : List Bool) : ∀ R, stepsB (a ++ b) R = stepsB b (stepsB a R) := by
  induction a with
  | nil => intro R; rfl
  | cons x a ih => intro R; exact ih _
theorem word_byte (c : Int) (h : 0 ≤ c ∧ c ≤ 255) : wordB (bitsN 8 c) = BitVec.ofInt 32 c := by
  obtain ⟨n, rfl⟩ := Int.eq_ofNat_of_zero_le h.1
  have hn : n < 256 := by omega
  have key : ∀ n : Fin 256, wordB (bitsN 8 ((n.val : Nat) : Int)) = BitVec.ofInt 32 ((n.val : Nat) : Int) := by decide +kernel
  exact key ⟨n, hn⟩
theorem stepsB_bytes (l : List Int) (hw : Wf l) : ∀ R : B, stepsB (bitsOf l) R = raw R l := by
  induction l with
  | nil => intro R; rfl
  | cons a l ih =>
    intro R
    rw [bitsOf_cons, stepsB_append, stepsB_word (bitsN 8 a) _ (by rw [bitsN_len]; omega), word_byte a (hw a (by simp)), bitsN_len, ih (fun x hx => hw x (by simp [hx]))]
    rfl
theorem wordB_bit : ∀ (w : List Bool) (i : Nat), w.length ≤ 32 → i < 32 → (wordB w).getLsbD i = w.getD i false
  | [], i, h, hi => by simp [wordB]
  | b :: w, i, h, hi => by
    rw [List.length_cons] at h
    unfold wordB
    rw [BitVec.getLsbD_xor, BitVec.getLsbD_shiftLeft]
    cases i with
    | zero => cases b <;> simp [bitB]
    | succ i =>
      have ih := wordB_bit w i (by omega) (by omega)
      rw [show i + 1 - 1 = i by omega, ih]
      cases b <;> simp [bitB, hi, BitVec.getLsbD_one]
theorem stepsB_false : ∀ (d : List Bool) (y : B), (∀ b ∈ d, b = false) → stepsB d y = CrcMath.steps d.length y
  | [], y, h => rfl
  | b :: d, y, h => by
    have hb : b = false := h b (List.mem_cons_self ..)
    subst hb
    show stepsB d (CrcMath.step (y ^^^ bitB false)) = CrcMath.steps d.length (CrcMath.step y)
    rw [stepsB_false d _ (fun b hb => h b (List.mem_cons_of_mem _ hb))]
    simp [bitB]
/-- What is not all nought, within 32 bits, leaves something. -/
theorem stepsB_window : ∀ (a : Nat) (d : List Bool), (∀ i : Nat, d[i]? = some true → a ≤ i ∧ i < a + 32) → stepsB d 0#32 = 0#32 → ∀ b ∈ d, b = false
  | 0, d, h, hz => by
    have hd : d = d.take 32 ++ d.drop 32 := (List.take_append_drop 32 d).symm
    have hf : ∀ b ∈ d.drop 32, b = false := by
      intro b hb
      obtain ⟨i, hi, he⟩ := List.getElem_of_mem hb
      cases b with
      | false => rfl
      | true =>
        have := h (32 + i) (by rw [← List.getElem?_drop, List.getElem?_eq_getElem hi, he])
        omega
    rw [hd, stepsB_append, stepsB_false _ _ hf, stepsB_word _ _ (List.length_take_le 32 d)] at hz
    have hw := steps_eq_zero _ (steps_eq_zero _ hz)
    rw [BitVec.zero_xor] at hw
    intro b hb
    rw [hd] at hb
    rcases List.mem_append.1 hb with hb | hb
    · obtain ⟨i, hi, he⟩ := List.getElem_of_mem hb
      have hl := List.length_take_le 32 d
      have := wordB_bit (d.take 32) i hl (by omega)
      rw [hw, List.getD_eq_getElem?_getD, List.getElem?_eq_getElem hi, he] at this
      simpa using this.symm
    · exact hf b hb
  | a + 1, [], h, hz => by simp
  | a + 1, c :: d, h, hz => by
    have hc : c = false := by
      cases c with
      | false => rfl
      | true => have := h 0 rfl; omega
    subst hc
    have h0 : stepsB d (CrcMath.step (0#32 ^^^ bitB false)) = 0#32 := hz
    have e : CrcMath.step (0#32 ^^^ bitB false) = 0#32 := by decide
    rw [e] at h0
    have ih := stepsB_window a d (fun i hi => by have := h (i + 1) hi; omega) h0
    intro b hb
    rcases List.mem_cons.1 hb with rfl | hb
    · rfl
    · exact ih b hb
theorem bitB_xor (a b : Bool) : bitB (a ^^ b) = bitB a ^^^ bitB b := by cases a <;> cases b <;> decide
theorem stepsB_xor : ∀ (p q : List Bool) (x y : B), p.length = q.length → stepsB (List.zipWith (· ^^ ·) p q) (x ^^^ y) = stepsB p x ^^^ stepsB q y
  | [], [], x, y, h => rfl
  | a :: p, b :: q, x, y, h => by
    show stepsB (List.zipWith (· ^^ ·) p q) (CrcMath.step (x ^^^ y ^^^ bitB (a ^^ b))) = stepsB p (CrcMath.step (x ^^^ bitB a)) ^^^ stepsB q (CrcMath.step (y ^^^ bitB b))
    have e : x ^^^ y ^^^ bitB (a ^^ b) = (x ^^^ bitB a) ^^^ (y ^^^ bitB b) := by
      rw [bitB_xor]
      ac_rfl
    rw [e, step_xor, stepsB_xor p q _ _ (by simpa using h)]
theorem wf_bytes {l : List Int} (h : Bytes l) : Wf l := fun x hx => by have := h x hx; omega
theorem bytes_wf {l : List Int} (h : Wf l) : Bytes l := fun x hx => by have := h x hx; omega
theorem bitsN_inj {a b : Int} (ha : 0 ≤ a ∧ a ≤ 255) (hb : 0 ≤ b ∧ b ≤ 255) (h : bitsN 8 a = bitsN 8 b) : a = b := by
  have h2 : BitVec.ofInt 32 a = BitVec.ofInt 32 b := by rw [← word_byte a ha, ← word_byte b hb, h]
  obtain ⟨n, rfl⟩ := Int.eq_ofNat_of_zero_le ha.1
  obtain ⟨m, rfl⟩ := Int.eq_ofNat_of_zero_le hb.1
  rw [BitVec.ofInt_natCast, BitVec.ofInt_natCast] at h2
  have h3 := congrArg BitVec.toNat h2
  rw [BitVec.toNat_ofNat, BitVec.toNat_ofNat] at h3
  omega
theorem bitsOf_inj : ∀ {p q : List Int}, Wf p → Wf q → bitsOf p = bitsOf q → p = q
  | [], [], _, _, _ => rfl
  | [], b :: q, hp, hq, h => by
    have := congrArg List.length h
    rw [bitsOf_len, bitsOf_len] at this
    simp at this
  | a :: p, [], hp, hq, h => by
    have := congrArg List.length h
    rw [bitsOf_len, bitsOf_len] at this
    simp at this
  | a :: p, b :: q, hp, hq, h => by
    rw [bitsOf_cons, bitsOf_cons] at h
    obtain ⟨h1, h2⟩ := List.append_inj h (by rw [bitsN_len, bitsN_len])
    rw [bitsN_inj (hp a (List.mem_cons_self ..)) (hq b (List.mem_cons_self ..)) h1, bitsOf_inj (fun x hx => hp x (List.mem_cons_of_mem _ hx)) (fun x hx => hq x (List.mem_cons_of_mem _ hx)) h2]
theorem bitsOf_append (p q : List Int) : bitsOf (p ++ q) = bitsOf p ++ bitsOf q := by unfold bitsOf; rw [List.flatMap_append]
/-- As long, and they differ within 32 bits. -/
def Bur (p q : List Int) : Prop := p.length = q.length ∧ ∃ a : Nat, ∀ i : Nat, (bitsOf p)[i]? ≠ (bitsOf q)[i]? → a ≤ i ∧ i < a + 32
theorem Bur.split {p1 p2 q1 q2 : List Int} (h : Bur (p1 ++ p2) (q1 ++ q2)) (hl : p1.length = q1.length) : Bur p1 q1 ∧ Bur p2 q2 := by
  obtain ⟨hlen, a, ha⟩ := h
  rw [List.length_append, List.length_append] at hlen
  rw [bitsOf_append, bitsOf_append] at ha
  have hb1 := bitsOf_len p1
  have hb2 := bitsOf_len q1
  refine ⟨⟨hl, a, fun i hi => ?_⟩, ⟨by omega, a - 8 * p1.length, fun i hi => ?_⟩⟩
  · by_cases hlt : i < 8 * p1.length
    · refine ha i ?_
      rw [List.getElem?_append_left (by omega), List.getElem?_append_left (by omega)]
      exact hi
    · rw [List.getElem?_eq_none (by omega), List.getElem?_eq_none (by omega)] at hi
      exact absurd rfl hi
  · have := ha (8 * p1.length + i) (by
      rw [List.getElem?_append_right (by omega), List.getElem?_append_right (by omega), hb1, hb2, ← hl, show 8 * p1.length + i - 8 * p1.length = i by omega]
      exact hi)
    omega
theorem burst_raw {p q : List Int} (hp : Wf p) (hq : Wf q) (h : Bur p q) (R : B) (hr : raw R p = raw R q) : p = q := by
  obtain ⟨hlen, a, ha⟩ := h
  have hl : (bitsOf p).length = (bitsOf q).length := by rw [bitsOf_len, bitsOf_len, hlen]
  have hx := stepsB_xor (bitsOf p) (bitsOf q) R R hl
  rw [stepsB_bytes p hp, stepsB_bytes q hq, hr, BitVec.xor_self, BitVec.xor_self] at hx
  have hall := stepsB_window a (List.zipWith (· ^^ ·) (bitsOf p) (bitsOf q)) (fun i hi => by
    refine ha i (fun e => ?_)
    rw [List.getElem?_zipWith, e] at hi
    cases hq : (bitsOf q)[i]? with
    | none => rw [hq] at hi; cases hi
    | some b => rw [hq] at hi; simp at hi) hx
  refine bitsOf_inj hp hq (List.ext_getElem hl (fun i h1 h2 => ?_))
  have hi : i < (List.zipWith (· ^^ ·) (bitsOf p) (bitsOf q)).length := by rw [List.length_zipWith]; omega
  have := hall _ (List.getElem_mem hi)
  rw [List.getElem_zipWith] at this
  generalize (bitsOf p)[i] = u at this ⊢
  generalize (bitsOf q)[i] = v at this ⊢
  revert this
  cases u <;> cases v <;> simp
theorem sealP_wf {x : List Int} (h : Wf x) : Wf (sealP x) := by
  intro c hc
  rcases List.mem_append.1 hc with hc | hc
  · exact h c hc
  · exact tail_wf _ c hc
/-- Something sealed that is turned, within 32 bits, is not opened. -/
theorem openP_burst {x q : List Int} (hx : Wf x) (hq : Wf q) (h : Bur (sealP x) q) (hne : q ≠ sealP x) : openP q = none := by
  cases ho : openP q with
  | none => rfl
  | some y =>
    exfalso
    obtain ⟨h4, hy, ht⟩ := openP_ok ho
    have e : q = sealP y := by
      unfold sealP
      rw [← ht, hy, List.take_append_drop]
    have h1 : raw (~~~ 0#32) (sealP x) = residue := sealed_raw x
    have h2 : raw (~~~ 0#32) (sealP y) = residue := sealed_raw y
    exact hne (burst_raw (sealP_wf hx) hq h (~~~ 0#32) (by rw [h1, e, h2])).symm
theorem low_wf (k : Nat) (n : Int) : Wf (low k n) := wf_bytes (low_bytes k n)
/-- A frame that is turned, within 32 bits, is told as amiss. -/
theorem openE_burst {x q : List Int} (pre suf : List Int) (hx : Wf x) (hl : x.length ≤ 1048576) (hq : Wf q) (h : Bur (frameP x) q) (hne : q ≠ frameP x) : openE (pre ++ (q ++ suf)) pre.length = .error 211 := by
  have hf := frameP_len x
  have hql := h.1
  have hs8 : (sealP (low 4 (x.length : Int))).length = 8 := by rw [sealP_len, low4_len]
  have hqs : q = q.take 8 ++ q.drop 8 := (List.take_append_drop 8 q).symm
  obtain ⟨s1, hs1⟩ : ∃ s1, q.take 8 = s1 := ⟨_, rfl⟩
  obtain ⟨s2, hs2⟩ : ∃ s2, q.drop 8 = s2 := ⟨_, rfl⟩
  rw [hs1, hs2] at hqs
  have hl1 : s1.length = 8 := by rw [← hs1, List.length_take]; omega
  have hl2 : s2.length = x.length + 4 := by rw [← hs2, List.length_drop]; omega
  have hw1 : Wf s1 := fun c hc => hq c (List.mem_of_mem_take (hs1 ▸ hc))
  have hw2 : Wf s2 := fun c hc => hq c (List.mem_of_mem_drop (hs2 ▸ hc))
  clear hs1 hs2
  unfold frameP at h hne
  rw [hqs] at h hne
  obtain ⟨b1, b2⟩ := h.split (by omega)
  have hg : getN (low 4 (x.length : Int)) = x.length := getN_low 4 _ (by omega) (lt_4 (by omega))
  rw [hqs]
  by_cases e1 : s1 = sealP (low 4 (x.length : Int))
  · have e2 : s2 ≠ sealP x := fun e => hne (by rw [e1, e])
    have ho := openP_burst hx hw2 b2 e2
    subst e1
    have h1 := partE_seal pre (low 4 (x.length : Int)) (s2 ++ suf)
    rw [low4_len] at h1
    have h2 : partE (pre ++ (sealP (low 4 (x.length : Int)) ++ (s2 ++ suf))) (pre.length + (4 + 4)) (x.length + 4) = .error 211 := by
      have hm := mid_at (pre ++ sealP (low 4 (x.length : Int))) s2 suf (pre.length + (4 + 4) + (x.length + 4)) (by rw [List.length_append, hs8, hl2])
      rw [List.length_append, hs8, List.append_assoc] at hm
      unfold partE
      rw [if_neg (by simp only [List.length_append, hs8, hl2]; omega), hm, ho]
      rfl
    unfold openE
    rw [List.append_assoc, h1]
    simp only
    rw [hg, if_neg (by omega), Int.toNat_natCast, h2]
  · have ho := openP_burst (low_wf 4 _) hw1 b1 e1
    have h1 : partE (pre ++ (s1 ++ (s2 ++ suf))) pre.length 8 = .error 211 := by
      have hm := mid_at pre s1 (s2 ++ suf) (pre.length + 8) (by omega)
      unfold partE
      rw [if_neg (by simp only [List.length_append, hl1]; omega), hm, ho]
      rfl
    unfold openE
    rw [List.append_assoc, h1]
theorem numsP_wf : ∀ (l : List Int), (∀ n ∈ l, n < 9223372036854775808) → Wf (numsP l)
  | [], h => fun c hc => by cases hc
  | n :: l, h => by
    intro c hc
    rcases List.mem_append.1 hc with hc | hc
    · exact wf_bytes (num_bytes n (h n (List.mem_cons_self ..))) c hc
    · exact numsP_wf l (fun m hm => h m (List.mem_cons_of_mem _ hm)) c hc
theorem bytesP_wf {r : S39} (h : rightP r = true) : Wf (bytesP r) := by
  have hk := fun i hi => right_num h i hi
  have n1 := hk 0 (by omega)
  have n2 := hk 1 (by omega)
  have n3 := hk 2 (by omega)
  have n4 := hk 3 (by omega)
  have n5 := hk 4 (by omega)
  have hs := right_size h
  have n1' : r.f1 ≤ 2199023255552 := n1.2
  have n2' : r.f2 ≤ 2199023255552 := n2.2
  have n3' : r.f3 ≤ 2199023255552 := n3.2
  have n4' : r.f4 ≤ 2199023255552 := n4.2
  have n5' : r.f5 ≤ 2199023255552 := n5.2
  intro c hc
  rcases List.mem_cons.1 hc with rfl | hc
  · omega
  · rcases List.mem_append.1 hc with hc | hc
    · rcases List.mem_append.1 hc with hc | hc
      · refine numsP_wf (fld r) (fun n hn => ?_) c hc
        simp only [fld, List.mem_cons, List.not_mem_nil, or_false] at hn
        omega
      · exact wf_bytes (num_bytes _ (by omega)) c hc
    · exact wf_bytes (bs_bytes r.f6) c hc
theorem headP_wf {s r d : Int} (hh : HeadOk s r d) : Wf (headP s r d) := by
  have hr := hh.2.1
  intro c hc
  rcases List.mem_append.1 hc with hc | hc
  · rcases List.mem_append.1 hc with hc | hc
    · rcases List.mem_append.1 hc with hc | hc
      · simp at hc; omega
      · exact low_wf _ _ c hc
    · exact wf_bytes (num_bytes r (by omega)) c hc
  · exact low_wf _ _ c hc
theorem lastP_wf (n : Nat) (h : n ≤ 4096) : Wf (lastP n) := by
  intro c hc
  rcases List.mem_append.1 hc with hc | hc
  · simp at hc; omega
  · exact wf_bytes (num_bytes _ (by omega)) c hc
theorem frameP_wf {x : List Int} (h : Wf x) : Wf (frameP x) := by
  intro c hc
  rcases List.mem_append.1 hc with hc | hc
  · exact sealP_wf (low_wf 4 _) c hc
  · exact sealP_wf h c hc
theorem framesP_wf : ∀ {l : List S39}, l.all rightP = true → Wf (framesP l)
  | [], h => fun c hc => by cases hc
  | r :: l, h => by
    intro c hc
    rcases List.mem_append.1 hc with hc | hc
    · exact frameP_wf (bytesP_wf (List.all_eq_true.1 h r (List.mem_cons_self ..))) c hc
    · exact framesP_wf (List.all_eq_true.2 (fun x hx => List.all_eq_true.1 h x (List.mem_cons_of_mem _ hx))) c hc
theorem encP_wf {s r d : Int} {l : List S39} (hh : HeadOk s r d) (hl : l.length ≤ 4096) (hr : l.all rightP = true) : Wf (encP s r d l) := by
  intro c hc
  rcases List.mem_append.1 hc with hc | hc
  · rcases List.mem_append.1 hc with hc | hc
    · exact frameP_wf (headP_wf hh) c hc
    · exact framesP_wf hr c hc
  · exact frameP_wf (lastP_wf _ hl) c hc
theorem split_at (p1 p2 q : List Int) (h : (p1 ++ p2).length = q.length) : ∃ q1 q2, q = q1 ++ q2 ∧ p1.length = q1.length := by
  rw [List.length_append] at h
  exact ⟨q.take p1.length, q.drop p1.length, (List.take_append_drop _ _).symm, by rw [List.length_take]; omega⟩
theorem decF_burst : ∀ (l2 l1 : List S39) (pre q : List Int), l1.length + l2.length ≤ 4096 → l2.all rightP = true → Wf q → Bur (framesP l2 ++ frameP (lastP (l1.length + l2.length))) q → q ≠ framesP l2 ++ frameP (lastP (l1.length + l2.length)) → (decF (pre ++ q) pre.length l1).2.2 = 211
  | [], l1, pre, q, h, hr, hq, hb, hne => by
    have hb' : Bur (frameP (lastP l1.length)) q := hb
    have hne' : q ≠ frameP (lastP l1.length) := hne
    have ho := openE_burst pre [] (lastP_wf l1.length h) (lastP_small _) hq hb' hne'
    rw [List.append_nil] at ho
    have hle : pre.length ≤ (pre ++ q).length := by rw [List.length_append]; omega
    rw [decF_is _ _ _ hle, ho]
    rfl
  | r :: l2, l1, pre, q, h, hr, hq, hb, hne => by
    have hr1 : rightP r = true := List.all_eq_true.1 hr r (List.mem_cons_self ..)
    have hr2 : l2.all rightP = true := List.all_eq_true.2 (fun x hx => List.all_eq_true.1 hr x (List.mem_cons_of_mem _ hx))
    have hbl := bytesP_len r hr1
    rw [List.length_cons] at h hb hne
    have e : framesP (r :: l2) ++ frameP (lastP (l1.length + (l2.length + 1))) = frameP (bytesP r) ++ (framesP l2 ++ frameP (lastP (l1.length + (l2.length + 1)))) := by
      show (frameP (bytesP r) ++ framesP l2) ++ _ = _
      rw [List.append_assoc]
    rw [e] at hb hne
    obtain ⟨q1, q2, rfl, hl1⟩ := split_at _ _ q hb.1
    obtain ⟨b1, b2⟩ := hb.split hl1
    have hw1 : Wf q1 := fun c hc => hq c (List.mem_append_left _ hc)
    have hw2 : Wf q2 := fun c hc => hq c (List.mem_append_right _ hc)
    have hle : pre.length ≤ (pre ++ (q1 ++ q2)).length := by rw [List.length_append]; omega
    by_cases e1 : q1 = frameP (bytesP r)
    · subst e1
      have hne2 : q2 ≠ framesP l2 ++ frameP (lastP (l1.length + (l2.length + 1))) := fun e2 => hne (by rw [e2])
      have e3 : l1.length + (l2.length + 1) = (l1 ++ [r]).length + l2.length := by simp; omega
      rw [e3] at b2 hne2
      have ih := decF_burst l2 (l1 ++ [r]) (pre ++ frameP (bytesP r)) q2 (by simp; omega) hr2 hw2 b2 hne2
      rw [List.append_assoc, List.length_append, frameP_len] at ih
      rw [decF_is _ _ _ hle, openE_frame pre (bytesP r) q2 (by omega), decO_ok, endsE_rec hr1, decB_rec (show l1.length < 4096 by omega) (recordE_bytes hr1)]
      exact ih
    · have ho := openE_burst pre q2 (bytesP_wf hr1) (by omega) hw1 b1 e1
      rw [decF_is _ _ _ hle, ho]
      rfl
theorem readE_burst {s r d : Int} {l : List S39} {q : List Int} (hh : HeadOk s r d) (hl : l.length ≤ 4096) (hr : l.all rightP = true) (hq : Wf q) (hb : Bur (encP s r d l) q) (hne : q ≠ encP s r d l) : (readE q).2.2.2 = 211 := by
  have e : encP s r d l = frameP (headP s r d) ++ (framesP l ++ frameP (lastP l.length)) := by
    unfold encP partP lastP
    rw [List.append_assoc]
  rw [e] at hb hne
  obtain ⟨q1, q2, rfl, hl1⟩ := split_at _ _ q hb.1
  obtain ⟨b1, b2⟩ := hb.split hl1
  have hw1 : Wf q1 := fun c hc => hq c (List.mem_append_left _ hc)
  have hw2 : Wf q2 := fun c hc => hq c (List.mem_append_right _ hc)
  by_cases e1 : q1 = frameP (headP s r d)
  · subst e1
    have hne2 : q2 ≠ framesP l ++ frameP (lastP l.length) := fun e2 => hne (by rw [e2])
    have e3 : l.length = ([] : List S39).length + l.length := by simp
    rw [e3] at b2 hne2
    have h1 := decF_burst l [] (frameP (headP s r d)) q2 (by simp; exact hl) hr hw2 b2 hne2
    rw [frameP_len] at h1
    rw [readE_head s r d q2 hh]
    exact h1
  · have ho := openE_burst [] q2 (headP_wf hh) (headP_small s r d) hw1 b1 e1
    rw [List.nil_append, List.length_nil] at ho
    unfold readE
    rw [ho]
end Go.Proofs.Ytmklmpajcomimaa.Hand
end
