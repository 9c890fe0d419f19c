import Derived.Test.YtmklmpajcomimaaZRef
import Derived.Test.YtmklmpajcomimaaZRec
import Derived.Deep.Slices
import Derived.Deep.Fields
import Derived.ChangeSame
import Derived.SizedLaws
import Derived.OpenShut
import Derived.WideShapes
section
/- What the laws' own helpers tell: few, Same; a trace of two records. -/
namespace Go.Proofs.Ytmklmpajcomimaa.Hand
open Go.RowKit Go.Proofs.YtmklmpajcomimaaW.PrintWords Go.Proofs.YtmklmpajcomimaaW.PrintLast Go.Proofs.YtmklmpajcomimaaW.PrintMore Go.Proofs.Ytmklmpajcomimaa.PTraceWrites Go.Proofs.Ytmklmpajcomimaa.CrcMath
set_option linter.unusedVariables false
set_option linter.unusedSimpArgs false
def wsum : List S39 → Int → Int
  | [], s => s
  | r :: l, s => wsum l (wrap64 (s + (r.f6.size : Int)))
def fewB (l : List S39) : Bool := decide (l.length ≤ 30) && decide (wsum l 0 ≤ 2000)
theorem few_l0 (l : List S39) (hl : l.length ≤ 9223372036854775807) : ∀ (d i : Nat) (s : Int), i + d = l.length → chicanelaw21_few.l0 (d + 1) l s l (l.length : Int) (i : Int) = some (decide (l.length ≤ 30) && decide (wsum (l.drop i) s ≤ 2000))
  | 0, i, s, h => by
    rw [chicanelaw21_few.l0, if_neg (by omega), List.drop_of_length_le (by omega)]
    by_cases h30 : l.length ≤ 30
    · rw [if_pos (by omega), decide_eq_true h30, Bool.true_and]
      rfl
    · rw [if_neg (by omega), decide_eq_false h30, Bool.false_and]
  | d + 1, i, s, h => by
    have hlt : i < l.length := by omega
    rw [chicanelaw21_few.l0, if_pos (by omega), if_pos (by omega), if_pos (by omega), wrap_of (n := (i : Int) + 1) (by omega) (by omega), show (i : Int) + 1 = ((i + 1 : Nat) : Int) by omega, few_l0 l hl d (i + 1) _ (by omega)]
    have hd : l.drop i = l[i] :: l.drop (i + 1) := List.drop_eq_getElem_cons hlt
    rw [hd, rd39_at l i hlt]
    rfl
theorem few_f (l : List S39) (hl : l.length ≤ 9223372036854775807) : chicanelaw21_few.f (l.length + 1) l = some (fewB l) := few_l0 l hl l.length 0 0 (by omega)
def sizes : List S39 → Int
  | [] => 0
  | r :: l => (r.f6.size : Int) + sizes l
theorem sizes_mem : ∀ {l : List S39} {r : S39}, r ∈ l → (r.f6.size : Int) ≤ sizes l ∧ 0 ≤ sizes l
  | a :: l, r, h => by
    have hp : 0 ≤ sizes l := by
      cases l with
      | nil => decide
      | cons b t => exact (sizes_mem (List.mem_cons_self ..)).2
    rcases List.mem_cons.1 h with rfl | h
    · exact ⟨by unfold sizes; omega, by unfold sizes; omega⟩
    · have := sizes_mem h
      exact ⟨by unfold sizes; omega, by unfold sizes; omega⟩
theorem wsum_is : ∀ (l : List S39) (s : Int), (∀ r ∈ l, r.f6.size ≤ 140737488355328) → 0 ≤ s → s + l.length * 140737488355328 ≤ 9223372036854775807 → wsum l s = s + sizes l
  | [], s, h, h0, h1 => by simp [wsum, sizes]
  | r :: l, s, h, h0, h1 => by
    have hr := h r (List.mem_cons_self ..)
    rw [List.length_cons] at h1
    rw [wsum, wrap_of (by omega) (by omega), wsum_is l _ (fun x hx => h x (List.mem_cons_of_mem _ hx)) (by omega) (by omega), sizes]
    omega
theorem few_ok {l : List S39} (h : fewB l = true) (hs : ∀ r ∈ l, r.f6.size ≤ 140737488355328) : FewOk l := by
  unfold fewB at h
  simp only [Bool.and_eq_true, decide_eq_true_eq] at h
  have h2 := h.2
  rw [wsum_is l 0 hs (by omega) (by omega)] at h2
  exact ⟨h.1, fun r hr => by have := sizes_mem hr; omega⟩
theorem few_calls (A : Option Addr) (c : Nat) (l : List S39) (w : World) (hr : Kd.C k39 w A l.length l) (hc : l.length ≤ c) (hl : l.length ≤ 9223372036854775807) : Calls Try.prog 9 #[.slice A l.length c] w fun e w' => e = .returned (.bool (fewB l)) ∧ Below w.heap.size w w' :=
  chicanelaw21_few.calls (l.length + 1) A c l (fewB l) w hr hc (few_f l hl)
theorem same_l0 (l : List S39) (hl : l.length ≤ 9000000000000000000) : ∀ (d i : Nat), i + d = l.length → chicaneref21_Same.l0 (d + 1) l l (i : Int) = some true
  | 0, i, h => by rw [chicaneref21_Same.l0, if_neg (by omega)]
  | d + 1, i, h => by
    rw [chicaneref21_Same.l0, if_pos (by omega), if_pos (by omega), if_pos (by omega), if_neg (by simp), wrap_of (n := (i : Int) + 1) (by omega) (by omega), show (i : Int) + 1 = ((i + 1 : Nat) : Int) by omega]
    exact same_l0 l hl d (i + 1) (by omega)
theorem same_calls (A0 : Option Addr) (c0 : Nat) (A1 : Option Addr) (c1 : Nat) (l : List S39) (w : World) (h0 : Kd.C k39 w A0 l.length l) (hc0 : l.length ≤ c0) (h1 : Kd.C k39 w A1 l.length l) (hc1 : l.length ≤ c1) (hl : l.length ≤ 9000000000000000000) : Calls Try.prog 18 #[.slice A0 l.length c0, .slice A1 l.length c1] w fun e w' => e = .returned (.bool true) ∧ Below w.heap.size w w' :=
  (chicaneref21_Same.calls (l.length + 1) A0 c0 l A1 c1 l true w h0 hc0 h1 hc1 (by
    unfold chicaneref21_Same.f
    rw [if_pos rfl]
    exact same_l0 l hl l.length 0 (by omega))).mono fun e w' ⟨he, hd⟩ => ⟨he, hd.below⟩
/-! ### a trace of two records -/
def ra : S39 := ⟨1, 0, 0, 0, 0, 0, ⟨#[108, 105, 115, 116]⟩⟩
def rb : S39 := ⟨11, 0, 0, 0, 0, 0, ⟨#[111, 107]⟩⟩
theorem ra_right : rightP ra = true := by decide
theorem rb_right : rightP rb = true := by decide
theorem rab_right : [ra, rb].all rightP = true := by simp [ra_right, rb_right]
theorem rab_few : FewOk [ra, rb] := ⟨by decide, fun r hr => by
  simp only [List.mem_cons, List.not_mem_nil, or_false] at hr
  rcases hr with rfl | rfl <;> decide⟩
theorem rab_fit : fitP 9 [ra, rb] = true := by
  unfold fitP
  rw [rab_right]
  decide
theorem rab_head : HeadOk 7 9 0 := ⟨⟨by decide, by decide⟩, ⟨by decide, by decide⟩, ⟨by decide, by decide⟩⟩
theorem alive_facts : ∃ p : Nat, readE ((encP 7 9 0 [ra, rb]).take ((encP 7 9 0 [ra, rb]).length - 1)) = ((7, 9, 0), [ra, rb], p, 210) ∧ (starts (encP 7 9 0 [ra, rb]) 0).length = 4 ∧ rd (starts (encP 7 9 0 [ra, rb]) 0) 3 = (p : Int) ∧ p ≤ 70000 := by
  have hpl : (parts 7 9 0 [ra, rb]).length = 4 := parts_len 7 9 0 [ra, rb]
  have htot : (encP 7 9 0 [ra, rb]).length = (framesX ((parts 7 9 0 [ra, rb]).take 3)).length + ((lastP 2).length + 12) := by
    rw [enc_parts]
    have e : parts 7 9 0 [ra, rb] = (parts 7 9 0 [ra, rb]).take 3 ++ [lastP 2] := rfl
    conv => lhs; rw [e]
    rw [framesX_append, List.length_append]
    show _ + (frameP (lastP 2) ++ []).length = _
    rw [List.append_nil, frameP_len]
  have hll := lastP_small 2
  have hle := few_enc (s := 7) (r := 9) (d := 0) rab_few rab_right
  have hst := starts_enc 7 9 0 [ra, rb] rab_right
  obtain ⟨j, hj⟩ := begins 7 9 0 [ra, rb] ((encP 7 9 0 [ra, rb]).length - 1) rab_head (by decide) rab_right (by omega)
  have hj3 : j = 3 := by
    have h1 := hj.few
    have h2 := hj.lt
    simp only [List.length_cons, List.length_nil] at h1
    by_cases h : j ≤ 2
    · exfalso
      have hmono : (framesX ((parts 7 9 0 [ra, rb]).take (j + 1))).length ≤ (framesX ((parts 7 9 0 [ra, rb]).take 3)).length := by
        have : (parts 7 9 0 [ra, rb]).take 3 = (parts 7 9 0 [ra, rb]).take (j + 1) ++ ((parts 7 9 0 [ra, rb]).take 3).drop (j + 1) := by
          have h3 := (List.take_append_drop (j + 1) ((parts 7 9 0 [ra, rb]).take 3)).symm
          rw [List.take_take, Nat.min_eq_left (by omega)] at h3
          exact h3
        rw [this, framesX_append, List.length_append]
        omega
      omega
    · omega
  subst hj3
  have hr := hj.read
  rw [if_neg (by decide)] at hr
  refine ⟨_, hr, ?_, ?_, by omega⟩
  · rw [hst, offs_len, hpl]
  · rw [hst]
    have h3 : 3 < (offs 0 (parts 7 9 0 [ra, rb])).length := by rw [offs_len, hpl]; decide
    have := offs_at (parts 7 9 0 [ra, rb]) 0 3 (by rw [hpl]; decide)
    have e := rd_at (offs 0 (parts 7 9 0 [ra, rb])) 3 h3
    have e3 : ((3 : Nat) : Int) = 3 := rfl
    rw [e3] at e
    rw [e, this, Nat.zero_add]
end Go.Proofs.Ytmklmpajcomimaa.Hand
end

section
/- The records of the one kind as those of the other: made, rows. -/
namespace Go.Proofs.Ytmklmpajcomimaa.Hand
open Go.RowKit Go.Proofs.YtmklmpajcomimaaW.PrintWords Go.Proofs.YtmklmpajcomimaaW.PrintLast Go.Proofs.YtmklmpajcomimaaW.PrintMore Go.Proofs.Ytmklmpajcomimaa.PTraceWrites Go.Proofs.Ytmklmpajcomimaa.CrcMath
set_option linter.unusedVariables false
set_option linter.unusedSimpArgs false
set_option maxHeartbeats 8000000 in
set_option maxRecDepth 100000 in
theorem made_calls (A : Option Addr) (c : Nat) (l : List S39) (w : World) (hr : Kd.C k39 w A l.length l) (hc : l.length ≤ c) (hl : l.length ≤ 1000000) :
    Calls Try.prog 12 #[.slice A l.length c] w fun e w' => ∃ v, e = .returned v ∧ Kd.R k39 41 w' w.heap.size (fun _ => True) v l ∧ Below w.heap.size w w' := by
  have HR := Lib.hid hr
  clear hr
  have HI : Aside0 (Kd.R k39 41 w w.heap.size (fun _ => True) (.slice none 0 0) (l.take 0)) := Aside0.mk (Kd.R_nil _ _ _ _ _)
  have HB : Aside0 (Below w.heap.size w w) := Aside0.mk (Below.refl _ _)
  go_enter Try.func12, Try.ntmps12
  go_wp2_with fail
  go_loopw [3, 5, 8] (fun u3 u5 u8 wr => ∃ k : Nat, k ≤ l.length ∧ u8 = .int .i64 k ∧ Aside0 (Kd.R k39 41 wr w.heap.size (fun _ => True) u3 (l.take k)) ∧ Aside0 (Below w.heap.size w wr)) (fun _ _ u8 _ => l.length - (intOf u8).toNat)
  case atStart => exact ⟨0, Nat.zero_le _, rfl, HI, HB⟩
  case round =>
    obtain ⟨k, hk, rfl, HO, HBr⟩ := hrel
    clear HI HB
    by_cases hlt : k < l.length
    · obtain ⟨ad, rfl, h0, h1, h2, h3, h4, h5, h6⟩ := at_T39 (Kd.C_below HR.out HBr.out) (k : Int) (by omega) (by omega)
      simp only [Int.toNat_natCast] at h0 h1 h2 h3 h4 h5 h6
      obtain ⟨r, hrr⟩ : ∃ r, rd_T39 l (k : Int) = r := ⟨_, rfl⟩
      have hsn : l.take (k + 1) = l.take k ++ [r] := by rw [List.take_succ_eq_append_getElem hlt, ← hrr, rd39_at l k hlt]
      rw [hrr] at h0 h1 h2 h3 h4 h5 h6
      have HSN := Lib.hid hsn
      have HO1 := Lib.hid (Kd.R_alloc HO.out (.cells #[.int .i64 r.f0, .int .i64 r.f1, .int .i64 r.f2, .int .i64 r.f3, .int .i64 r.f4, .int .i64 r.f5, .string r.f6] 39))
      have HB1 := Lib.hid (below_alloc HBr.out (.cells #[.int .i64 r.f0, .int .i64 r.f1, .int .i64 r.f2, .int .i64 r.f3, .int .i64 r.f4, .int .i64 r.f5, .string r.f6] 39))
      have LM : Hid (((l.take k).length + 1) * 64 ≤ 140737488355328) := Lib.hid (by have := List.length_take_le k l; omega)
      clear hsn hrr HO HBr
      go_wp2_with ((with_reducible refine gate_builtin (b := .append) (xs := #[.tmp 12, .tmp 14]) rfl ?_); at_builtin; refine Kd.R_append k39 (w0 := w) w.heap.size rfl (.tmp 12) (.tmp 14) 34 41 (.agg #[.int .i64 0, .int .i64 0, .int .i64 0, .int .i64 0, .int .i64 0, .int .i64 0, .string ⟨#[]⟩]) 64 rfl Try.underlying34 info41 rfl (by decide) (by decide) u3 (l.take k) r [.int .i64 r.f0, .int .i64 r.f1, .int .i64 r.f2, .int .i64 r.f3, .int .i64 r.f4, .int .i64 r.f5, .string r.f6] (fun _ => True) (fun _ => False) rfl ?aX ?aP (fun _ hk => hk.elim) ?aF ?aO ?aB ?aS ?aL ?_; (case aX => exact congrArg (fun n => Value.slice (some ⟨n, 0, none⟩) 1 1) (World.size_alloc _ _).symm); (case aP => exact k39_mkM _ _ _ r); (case aB => exact HB1.out); (case aF => exact fun _ _ => trivial); (case aO => exact HO1.out); (case aS => exact HB1.out.size); (case aL => exact LM.out); intro v w3 ho3 hb3 hg3 hat3; (rw [← HSN.out] at ho3); have HO3 := Aside0.mk ho3; have HB3 := Aside0.mk hb3; clear ho3 hb3 hg3 hat3)
      go_roundw
      case rel => exact ⟨k + 1, by omega, by go_num, HO3, HB3⟩
      case measure => simp [intOf]; omega
    · obtain rfl : k = l.length := by omega
      have ho := HO.out
      rw [List.take_length] at ho
      have HO2 := Lib.hid ho
      clear ho HO
      go_wp2_with fail
      go_ret
      exact ⟨_, rfl, HO2.out, HBr.out⟩
set_option maxHeartbeats 8000000 in
set_option maxRecDepth 100000 in
theorem rows_calls (A : Option Addr) (c : Nat) (l : List S39) (w : World) (hr : Kd.C k39 w A l.length l) (hc : l.length ≤ c) (hl : l.length ≤ 1000000) :
    Calls Try.prog 19 #[.slice A l.length c] w fun e w' => ∃ v, e = .returned v ∧ Kd.R k39 39 w' w.heap.size (fun _ => True) v l ∧ Below w.heap.size w w' := by
  have HR := Lib.hid hr
  clear hr
  have HI : Aside0 (Kd.R k39 39 w w.heap.size (fun _ => True) (.slice none 0 0) (l.take 0)) := Aside0.mk (Kd.R_nil _ _ _ _ _)
  have HB : Aside0 (Below w.heap.size w w) := Aside0.mk (Below.refl _ _)
  go_enter Try.func19, Try.ntmps19
  go_wp2_with fail
  go_loopw [3, 5, 8] (fun u3 u5 u8 wr => ∃ k : Nat, k ≤ l.length ∧ u8 = .int .i64 k ∧ Aside0 (Kd.R k39 39 wr w.heap.size (fun _ => True) u3 (l.take k)) ∧ Aside0 (Below w.heap.size w wr)) (fun _ _ u8 _ => l.length - (intOf u8).toNat)
  case atStart => exact ⟨0, Nat.zero_le _, rfl, HI, HB⟩
  case round =>
    obtain ⟨k, hk, rfl, HO, HBr⟩ := hrel
    clear HI HB
    by_cases hlt : k < l.length
    · obtain ⟨ad, rfl, h0, h1, h2, h3, h4, h5, h6⟩ := at_T39 (Kd.C_below HR.out HBr.out) (k : Int) (by omega) (by omega)
      simp only [Int.toNat_natCast] at h0 h1 h2 h3 h4 h5 h6
      obtain ⟨r, hrr⟩ : ∃ r, rd_T39 l (k : Int) = r := ⟨_, rfl⟩
      have hsn : l.take (k + 1) = l.take k ++ [r] := by rw [List.take_succ_eq_append_getElem hlt, ← hrr, rd39_at l k hlt]
      rw [hrr] at h0 h1 h2 h3 h4 h5 h6
      have HSN := Lib.hid hsn
      have HO1 := Lib.hid (Kd.R_alloc HO.out (.cells #[.int .i64 r.f0, .int .i64 r.f1, .int .i64 r.f2, .int .i64 r.f3, .int .i64 r.f4, .int .i64 r.f5, .string r.f6] 41))
      have HB1 := Lib.hid (below_alloc HBr.out (.cells #[.int .i64 r.f0, .int .i64 r.f1, .int .i64 r.f2, .int .i64 r.f3, .int .i64 r.f4, .int .i64 r.f5, .string r.f6] 41))
      have LM : Hid (((l.take k).length + 1) * 64 ≤ 140737488355328) := Lib.hid (by have := List.length_take_le k l; omega)
      clear hsn hrr HO HBr
      go_wp2_with ((with_reducible refine gate_builtin (b := .append) (xs := #[.tmp 12, .tmp 14]) rfl ?_); at_builtin; refine Kd.R_append k39 (w0 := w) w.heap.size rfl (.tmp 12) (.tmp 14) 26 39 (.agg #[.int .i64 0, .int .i64 0, .int .i64 0, .int .i64 0, .int .i64 0, .int .i64 0, .string ⟨#[]⟩]) 64 rfl Try.underlying26 info39 rfl (by decide) (by decide) u3 (l.take k) r [.int .i64 r.f0, .int .i64 r.f1, .int .i64 r.f2, .int .i64 r.f3, .int .i64 r.f4, .int .i64 r.f5, .string r.f6] (fun _ => True) (fun _ => False) rfl ?aX ?aP (fun _ hk => hk.elim) ?aF ?aO ?aB ?aS ?aL ?_; (case aX => exact congrArg (fun n => Value.slice (some ⟨n, 0, none⟩) 1 1) (World.size_alloc _ _).symm); (case aP => exact k39_mkM _ _ _ r); (case aB => exact HB1.out); (case aF => exact fun _ _ => trivial); (case aO => exact HO1.out); (case aS => exact HB1.out.size); (case aL => exact LM.out); intro v w3 ho3 hb3 hg3 hat3; (rw [← HSN.out] at ho3); have HO3 := Aside0.mk ho3; have HB3 := Aside0.mk hb3; clear ho3 hb3 hg3 hat3)
      go_roundw
      case rel => exact ⟨k + 1, by omega, by go_num, HO3, HB3⟩
      case measure => simp [intOf]; omega
    · obtain rfl : k = l.length := by omega
      have ho := HO.out
      rw [List.take_length] at ho
      have HO2 := Lib.hid ho
      clear ho HO
      go_wp2_with fail
      go_ret
      exact ⟨_, rfl, HO2.out, HBr.out⟩
end Go.Proofs.Ytmklmpajcomimaa.Hand
end

section
/- alive: a trace of two records. -/
namespace Go.Proofs.Ytmklmpajcomimaa.Hand
open Go.RowKit Go.Proofs.YtmklmpajcomimaaW.PrintWords Go.Proofs.YtmklmpajcomimaaW.PrintLast Go.Proofs.YtmklmpajcomimaaW.PrintMore Go.Proofs.Ytmklmpajcomimaa.PTraceWrites Go.Proofs.Ytmklmpajcomimaa.CrcMath
set_option linter.unusedVariables false
set_option linter.unusedSimpArgs false
theorem encode_good (s r d : Int) (A : Option Addr) (c : Nat) (l : List S39) (w : World) (hr : Kd.C k39 w A l.length l) (hc : l.length ≤ c) (hf : fitP r l = true) (hle : (encP s r d l).length ≤ 1048576) :
    Calls Try.prog 11 #[.agg #[.int .u64 s, .int .i64 r, .int .u32 d], .slice A l.length c] w fun e w' => ∃ A2 c2, e = .returned (.tuple #[.slice A2 (encP s r d l).length c2, .int .i64 0]) ∧ (encP s r d l).length ≤ c2 ∧ Kd.R (Kd.int .u8) 5 w' w.heap.size (fun _ => True) (.slice A2 (encP s r d l).length c2) (encP s r d l) ∧ Below w.heap.size w w' :=
  (encode_ok s r d A c l w hr hc hf).mono fun e w' ⟨v, he, hE, hb⟩ => by
    unfold Enced at hE
    rw [if_pos hle] at hE
    obtain ⟨u, rfl, hR⟩ := hE
    obtain ⟨A2, c2, rfl, hl2, _⟩ := Kd.R_reads hR
    exact ⟨A2, c2, he, hl2, hR, hb⟩
theorem encode_not (s r d : Int) (A : Option Addr) (c : Nat) (l : List S39) (w : World) (hr : Kd.C k39 w A l.length l) (hc : l.length ≤ c) (hf : ¬ (fitP r l = true ∧ (encP s r d l).length ≤ 1048576)) :
    Calls Try.prog 11 #[.agg #[.int .u64 s, .int .i64 r, .int .u32 d], .slice A l.length c] w fun e w' => e = .returned (.tuple #[.slice none 0 0, .int .i64 1]) ∧ Below w.heap.size w w' := by
  cases hfit : fitP r l with
  | false => exact encode_bad s r d A c l w hr hc hfit
  | true =>
    refine (encode_ok s r d A c l w hr hc hfit).mono fun e w' ⟨v, he, hE, hb⟩ => ?_
    unfold Enced at hE
    rw [if_neg (fun h => hf ⟨hfit, h⟩)] at hE
    subst hE
    exact ⟨he, hb⟩
theorem fit_ok {s r d : Int} {l : List S39} (h : fitP r l = true) (hs : 0 ≤ s ∧ s < 18446744073709551616) (hd : 0 ≤ d ∧ d < 4294967296) : l.all rightP = true ∧ HeadOk s r d := by
  unfold fitP at h
  simp only [Bool.and_eq_true] at h
  exact ⟨h.2, hs, of_decide_eq_true h.1.1, hd⟩
/-- Decode, where what is read is known. -/
theorem decode_good (A : Option Addr) (c : Nat) (b : List Int) (w : World) (hr : Kd.C (Kd.int .u8) w A b.length b) (hc : b.length ≤ c) (hb : Bytes b) (hl : b.length ≤ 1000000) {s r d : Int} {l : List S39} {at_ : Nat} {er : Int} (hR : readE b = ((s, r, d), l, at_, er)) :
    Calls Try.prog 17 #[.slice A b.length c] w fun e w' => ∃ A2 c2, e = .returned (.tuple #[.agg #[.int .u64 s, .int .i64 r, .int .u32 d], .slice A2 l.length c2, .int .i64 (at_ : Int), .int .i64 er]) ∧ l.length ≤ c2 ∧ Kd.R k39 41 w' w.heap.size (fun _ => True) (.slice A2 l.length c2) l ∧ Below w.heap.size w w' :=
  (decode_calls A c b w hr hc hb hl).mono fun e w' ⟨hD, hb⟩ => by
    rw [hR] at hD
    obtain ⟨v, he, hr⟩ := hD
    obtain ⟨A2, c2, rfl, hl2, _⟩ := Kd.R_reads hr
    exact ⟨A2, c2, he, hl2, hr, hb⟩
theorem frames_good (A : Option Addr) (c : Nat) (b : List Int) (w : World) (hr : Kd.C (Kd.int .u8) w A b.length b) (hc : b.length ≤ c) (hb : Bytes b) (hl : b.length ≤ 1000000) :
    Calls Try.prog 20 #[.slice A b.length c] w fun e w' => ∃ A2 c2, e = .returned (.slice A2 (starts b 0).length c2) ∧ Kd.C (Kd.int .i64) w' A2 (starts b 0).length (starts b 0) ∧ Below w.heap.size w w' :=
  (frames_calls A c b w hr hc hb (by omega)).mono fun e w' ⟨v, he, hr, hb⟩ => by
    obtain ⟨A2, c2, rfl, hl2, hC⟩ := Kd.R_reads hr
    exact ⟨A2, c2, he, hC, hb⟩
theorem rows_good (A : Option Addr) (c : Nat) (l : List S39) (w : World) (hr : Kd.C k39 w A l.length l) (hc : l.length ≤ c) (hl : l.length ≤ 1000000) :
    Calls Try.prog 19 #[.slice A l.length c] w fun e w' => ∃ A2 c2, e = .returned (.slice A2 l.length c2) ∧ l.length ≤ c2 ∧ Kd.C k39 w' A2 l.length l ∧ Below w.heap.size w w' :=
  (rows_calls A c l w hr hc hl).mono fun e w' ⟨v, he, hr, hb⟩ => by
    obtain ⟨A2, c2, rfl, hl2, hC⟩ := Kd.R_reads hr
    exact ⟨A2, c2, he, hl2, hC, hb⟩
theorem made_good (A : Option Addr) (c : Nat) (l : List S39) (w : World) (hr : Kd.C k39 w A l.length l) (hc : l.length ≤ c) (hl : l.length ≤ 1000000) :
    Calls Try.prog 12 #[.slice A l.length c] w fun e w' => ∃ A2 c2, e = .returned (.slice A2 l.length c2) ∧ l.length ≤ c2 ∧ Kd.C k39 w' A2 l.length l ∧ Below w.heap.size w w' :=
  (made_calls A c l w hr hc hl).mono fun e w' ⟨v, he, hr, hb⟩ => by
    obtain ⟨A2, c2, rfl, hl2, hC⟩ := Kd.R_reads hr
    exact ⟨A2, c2, he, hl2, hC, hb⟩
theorem input_calls (k : Int) (w : World) : Calls Try.prog 16 #[.int .i64 k] w fun e w' => e = .returned (.bool (decide (1 ≤ k ∧ k ≤ 6))) ∧ Below w.heap.size w w' :=
  (trace_Input.calls k _ w (Input_is k)).mono fun e w' ⟨he, hd⟩ => ⟨he, hd.below⟩
set_option maxHeartbeats 8000000 in
set_option maxRecDepth 100000 in
theorem alive_calls (w : World) : Calls Try.prog 10 #[] w fun e w' => e = .returned (.bool true) ∧ Below w.heap.size w w' := by
  obtain ⟨p, hp1, hp2, hp3, hp4⟩ := alive_facts
  have hd1 := readE_enc 7 9 0 [ra, rb] rab_head (by decide) rab_right
  have hle := few_enc (s := 7) (r := 9) (d := 0) rab_few rab_right
  have hby := bytes_wf (encP_wf (s := 7) (r := 9) (d := 0) rab_head (by decide) rab_right)
  have hge : 20 ≤ (encP 7 9 0 [ra, rb]).length := by
    have h1 := headP_len 7 9 0
    unfold encP partP
    rw [List.length_append, List.length_append, frameP_len]
    omega
  have hfit := rab_fit
  have hL2 : ([ra, rb] : List S39).length = 2 := rfl
  go_enter Try.func10, Try.ntmps10
  go_wp2_with ((with_reducible refine gate_dst (N := 15) rfl ?_); refine Kd.R_lit k39 (w0 := w) w.heap.size 41 ?hg (N := 15) ?hd (xs := ([ra, rb] : List S39)) (inner := [.int .i64 1, .int .i64 0, .int .i64 0, .int .i64 0, .int .i64 0, .int .i64 0, .string ⟨#[108, 105, 115, 116]⟩, .int .i64 11, .int .i64 0, .int .i64 0, .int .i64 0, .int .i64 0, .int .i64 0, .string ⟨#[111, 107]⟩]) (ok := fun _ => True) (okp := fun _ => True) ?hr ?hp (fun _ hk => hk) trivial (Below.refl _ _) (Nat.le_refl _) (by simp) ?_; (case hd => rfl); (case hg => rfl); (case hr => first | (go_simp; done) | (go_simp; rfl)); (case hp => exact Reps.c7 (k39_mkM _ _ _ ra) (Reps.c7 (k39_mkM _ _ _ rb) (Reps.none _ _))); intro v1 w1 ho1 hb1 hg1 hn1; clear hg1 hn1)
  obtain ⟨A1, c1, rfl, hl1, hC1⟩ := Kd.R_reads ho1
  obtain ⟨L, hL⟩ : ∃ L, ([ra, rb] : List S39) = L := ⟨_, rfl⟩
  rw [hL] at hp1 hp2 hp3 hd1 hle hby hge hfit hL2 hl1 hC1 ⊢
  clear ho1 hL
  obtain ⟨B, hB⟩ : ∃ B, encP 7 9 0 L = B := ⟨_, rfl⟩
  have henc := fun W (hW : Kd.C k39 W A1 L.length L) => encode_good 7 9 0 A1 c1 L W hW hl1 hfit (by omega)
  rw [hB] at hp1 hp2 hp3 hd1 hle hby hge
  simp only [hB] at henc
  obtain ⟨n1, hn1⟩ : ∃ n1, B.length - 1 = n1 := ⟨_, rfl⟩
  rw [hn1] at hp1
  have HP1 := Lib.hid hp1
  have HP2 := Lib.hid hp2
  have HP3 := Lib.hid hp3
  have HD1 := Lib.hid hd1
  have HBY := Lib.hid hby
  have HL2 := Lib.hid hL2
  have HENC := Lib.hid henc
  have HC1 := Lib.hid hC1
  have HB1 := Lib.hid hb1
  have hn1i : (B.length : Int) - 1 = (n1 : Int) := by omega
  have hge' : (20 : Int) ≤ (B.length : Int) := by omega
  have hn1b : (n1 : Int) ≤ (B.length : Int) := by omega
  have hN1 := Lib.hid (show n1 ≤ B.length by omega)
  clear hp1 hp2 hp3 hd1 hby hL2 henc hC1 hb1 hB hn1 hge hfit
  go_wp2_with fail
  refine (HENC.out w1 HC1.out).mono ?_
  rintro e w2 ⟨A2, c2, rfl, hl2, hR2, hb2⟩
  have hR2' := (Kd.R_reads' hR2).2.2
  have HC2 := Lib.hid hR2'
  have HC1b := Lib.hid (Kd.C_below HC1.out hb2)
  have HB2 := Lib.hid (below_step HB1.out hb2)
  clear hR2 hR2' hb2 HC1 HB1 HENC
  go_wp2_with fail
  refine (decode_good A2 c2 B w2 HC2.out hl2 HBY.out (by omega) HD1.out).mono ?_
  rintro e w3 ⟨A3, c3, rfl, hl3, hR3, hb3⟩
  have HC3 := Lib.hid ((Kd.R_reads' hR3).2.2)
  have HC2b := Lib.hid (Kd.C_below HC2.out hb3)
  have HC1c := Lib.hid (Kd.C_below HC1b.out hb3)
  have HB3 := Lib.hid (below_step HB2.out hb3)
  have hg4 := blk_new w3 (.cells #[.int .u64 7, .int .i64 9, .int .u32 0] 33 (0, 0))
  have hb4 := below_alloc (Below.refl w3.heap.size w3) (.cells #[.int .u64 7, .int .i64 9, .int .u32 0] 33 (0, 0))
  obtain ⟨w4, hw4⟩ : ∃ w4, w3.alloc (.cells #[.int .u64 7, .int .i64 9, .int .u32 0] 33 (0, 0)) = w4 := ⟨_, rfl⟩
  obtain ⟨g, hg⟩ : ∃ g, w3.heap.size = g := ⟨_, rfl⟩
  rw [hw4] at hg4 hb4
  rw [hg] at hg4
  have HG4 := Lib.hid hg4
  have HC3b := Lib.hid (Kd.C_below HC3.out hb4)
  have HC2c := Lib.hid (Kd.C_below HC2b.out hb4)
  have HC1d := Lib.hid (Kd.C_below HC1c.out hb4)
  have HB4 := Lib.hid (below_step HB3.out hb4)
  have hnl : (B.take n1).length = n1 := by rw [List.length_take]; have := hN1.out; omega
  have hdd := decode_good A2 c2 (B.take n1) w4 (Kd.C_take HC2c.out hN1.out) (by have := hN1.out; omega) (HBY.out.take n1) (by have := hN1.out; omega) HP1.out
  rw [hnl] at hdd
  have HDD := Lib.hid hdd
  have HW4 := Lib.hid hw4
  have HGE := Lib.hid hg
  clear hR3 hb3 hg4 hb4 hnl hdd HD1 HC1b HC1c HC2 HC2b HC3 HB2 HB3 HP1 hw4 hg
  go_wp2_with fail
  (try rw [HW4.out])
  (try rw [HGE.out])
  refine HDD.out.mono ?_
  rintro e w5 ⟨A5, c5, rfl, hl5, hR5, hb5⟩
  have HG5 := Lib.hid ((hb5.block g (blk_lt HG4.out)).trans HG4.out)
  have HC3d := Lib.hid (Kd.C_below HC3b.out hb5)
  have HC2d := Lib.hid (Kd.C_below HC2c.out hb5)
  have HC1e := Lib.hid (Kd.C_below HC1d.out hb5)
  have HB5 := Lib.hid (below_step HB4.out hb5)
  have hb6 := below_alloc (Below.refl w5.heap.size w5) (.cells #[.int .u64 7, .int .i64 9, .int .u32 0] 33 (0, 0))
  obtain ⟨w6, hw6⟩ : ∃ w6, w5.alloc (.cells #[.int .u64 7, .int .i64 9, .int .u32 0] 33 (0, 0)) = w6 := ⟨_, rfl⟩
  rw [hw6] at hb6
  have HG6 := Lib.hid ((hb6.block g (blk_lt HG5.out)).trans HG5.out)
  have HC3e := Lib.hid (Kd.C_below HC3d.out hb6)
  have HC2e := Lib.hid (Kd.C_below HC2d.out hb6)
  have HC1f := Lib.hid (Kd.C_below HC1e.out hb6)
  have HB6 := Lib.hid (below_step HB5.out hb6)
  have HW6 := Lib.hid hw6
  clear hR5 hb5 hb6 hw6 HW4 HGE HG4 HG5 HC3b HC3d HC2c HC2d HC1d HC1e HB4 HB5 HDD
  go_wp2_with fail
  (try rw [HW6.out])
  refine (frames_good A2 c2 B w6 HC2e.out hl2 HBY.out (by omega)).mono ?_
  rintro e w7 ⟨A7, c7, rfl, hC7, hb7⟩
  obtain ⟨X, hX⟩ : ∃ X, starts B 0 = X := ⟨_, rfl⟩
  have hp2 := HP2.out
  have hp3 := HP3.out
  rw [hX] at hC7 hp2 hp3 ⊢
  obtain ⟨ad, rfl, hx3⟩ := Kd.at_int hC7 3 (by omega) (by omega)
  rw [hp3] at hx3
  have hx3' : w7.cell? (ad.add 3) = some (.int .i64 (p : Int)) := hx3
  have hgb := (hb7.block g (blk_lt HG6.out)).trans HG6.out
  have hg0 : w7.cell? ⟨g, 0, none⟩ = some (.int .u64 7) := (blk_cell hgb 0).trans rfl
  have HC3f := Lib.hid (Kd.C_below HC3e.out hb7)
  have HC1g := Lib.hid (Kd.C_below HC1f.out hb7)
  have HB7 := Lib.hid (below_step HB6.out hb7)
  have HX3 := Lib.hid hx3'
  have hxlt : (ad.add 3).block < w7.heap.size := World.block_lt_of_cell? _ _ hx3'
  have HXL := Lib.hid hxlt
  have hX4 : (X.length : Int) = 4 := by omega
  have HX4 := Lib.hid hX4
  clear hp2 hp3 hx3 hgb hC7 hX hb7 HG6 HC3e HC2e HC1f HB6 HP2 HP3 HW6 hx3' hxlt hX4
  go_wp2_with fail
  have hLm : L.length ≤ 1000000 := by have := HL2.out; omega
  refine (rows_good A3 c3 L w7 HC3f.out hl3 (by omega)).mono ?_
  rintro e w8 ⟨A8, c8, rfl, hl8, hC8, hb8⟩
  have HC8 := Lib.hid hC8
  have HC1h := Lib.hid (Kd.C_below HC1g.out hb8)
  have HB8 := Lib.hid (below_step HB7.out hb8)
  have HX8 := Lib.hid (pw_cell_below hb8 HX3.out)
  clear hC8 hb8 HC3f HC1g HB7 HX3 HXL hg0
  go_wp2_with fail
  refine (rows_good A1 c1 L w8 HC1h.out hl1 (by omega)).mono ?_
  rintro e w9 ⟨A9, c9, rfl, hl9, hC9, hb9⟩
  have HC9 := Lib.hid hC9
  have HC8b := Lib.hid (Kd.C_below HC8.out hb9)
  have HB9 := Lib.hid (below_step HB8.out hb9)
  have HX9 := Lib.hid (pw_cell_below hb9 HX8.out)
  clear hC9 hb9 HC8 HC1h HB8 HX8
  go_wp2_with fail
  refine (same_calls A8 c8 A9 c9 L w9 HC8b.out hl8 HC9.out hl9 (by omega)).mono ?_
  rintro e w10 ⟨rfl, hb10⟩
  have hx10 := pw_cell_below hb10 HX9.out
  have hx10' : w10.cell? ⟨ad.block, ad.off + 3, none⟩ = some (.int .i64 (p : Int)) := hx10
  have HB10 := Lib.hid (below_step HB9.out hb10)
  have hq2 : ((L.length : Int) == 2) = true := beq_iff_eq.mpr (by have := HL2.out; omega)
  have hq4 : ((X.length : Int) == 4) = true := beq_iff_eq.mpr HX4.out
  have hx34 : 3 < X.length := by have := HX4.out; omega
  have hq5 : ((p : Int) == (p : Int)) = true := beq_self_eq_true _
  clear hb10 HC8b HC9 HB9 HX9 HL2 HX4
  go_wp2_with fail
  refine (input_calls 6 w10).mono ?_
  rintro e w11 ⟨rfl, hb11⟩
  have HB11 := Lib.hid (below_step HB10.out hb11)
  clear hb11 HB10 hx10 hx10'
  go_wp2_with fail
  refine (input_calls 14 w11).mono ?_
  rintro e w12 ⟨rfl, hb12⟩
  have HB12 := Lib.hid (below_step HB11.out hb12)
  clear hb12 HB11
  go_wp2_with fail
  go_ret
  exact ⟨rfl, HB12.out⟩
end Go.Proofs.Ytmklmpajcomimaa.Hand
end

section
/- Records, a header, an array of two numbers, bytes that come in: their cells. -/
namespace Go.Proofs.Ytmklmpajcomimaa.Hand
open Go.RowKit Go.Proofs.YtmklmpajcomimaaW.PrintWords Go.Proofs.Ytmklmpajcomimaa.PTraceWrites Go.ChangeShapes Go.WideShapes Go.Deep
set_option linter.unusedVariables false
set_option maxRecDepth 100000
section
variable {H : Type} {enc : TypeId × Value → H} {w : World} {base : Nat} {spare : Nat → Bool} {held : Bool}
theorem cells_rec : Try.prog.cellsOf 39 = 7 := by kernel_rfl
def recD {H : Type} (o : S39) : DataW H := .agg [.lit (.int .i64 o.f0), .lit (.int .i64 o.f1), .lit (.int .i64 o.f2), .lit (.int .i64 o.f3), .lit (.int .i64 o.f4), .lit (.int .i64 o.f5), .lit (.string o.f6.data.toList)]
set_option maxHeartbeats 4000000 in
set_option maxRecDepth 100000 in
theorem open_rec {fuel : Nat} {cs : List Value} {y : DataW H × List MemPlace} (hl : cs.length = 7) (h : DataW.trod enc Try.prog w base spare held fuel 39 cs = some y) :
    ∃ o : S39, cs = [.int .i64 o.f0, .int .i64 o.f1, .int .i64 o.f2, .int .i64 o.f3, .int .i64 o.f4, .int .i64 o.f5, .string o.f6] ∧ y.1 = recD o := by
  obtain ⟨ys, n, hn, hy, hlen, hyl, hf⟩ := DataW.trod_struct Try.underlying39 h
  match cs, hl, ys, hyl with
  | [c0, c1, c2, c3, c4, c5, c6], _, [y0, y1, y2, y3, y4, y5, y6], _ =>
    have e3 : Try.prog.cellsOf 3 = 1 := by kernel_rfl
    have e9 : Try.prog.cellsOf 9 = 1 := by kernel_rfl
    have h0 := hf 0 _ rfl
    have h1 := hf 1 _ rfl
    have h2 := hf 2 _ rfl
    have h3 := hf 3 _ rfl
    have h4 := hf 4 _ rfl
    have h5 := hf 5 _ rfl
    have h6 := hf 6 _ rfl
    simp [e3] at h0
    simp [e3] at h1
    simp [e3] at h2
    simp [e3] at h3
    simp [e3] at h4
    simp [e3] at h5
    simp [e9] at h6
    obtain ⟨n0, q0, x0, _⟩ := DataW.trod_int Try.underlying3 h0
    obtain ⟨n1, q1, x1, _⟩ := DataW.trod_int Try.underlying3 h1
    obtain ⟨n2, q2, x2, _⟩ := DataW.trod_int Try.underlying3 h2
    obtain ⟨n3, q3, x3, _⟩ := DataW.trod_int Try.underlying3 h3
    obtain ⟨n4, q4, x4, _⟩ := DataW.trod_int Try.underlying3 h4
    obtain ⟨n5, q5, x5, _⟩ := DataW.trod_int Try.underlying3 h5
    obtain ⟨n6, q6, x6, _⟩ := DataW.trod_string Try.underlying9 h6
    simp at q0 q1 q2 q3 q4 q5 q6
    subst q0 q1 q2 q3 q4 q5 q6 x0 x1 x2 x3 x4 x5 x6 hy
    exact ⟨⟨n0, n1, n2, n3, n4, n5, n6⟩, rfl, rfl⟩
set_option maxHeartbeats 4000000 in
set_option maxRecDepth 100000 in
theorem open_recs {fuel : Nat} {A : Option Addr} {n c : Nat} {x : DataW H × List MemPlace} (h : DataW.trod enc Try.prog w base spare held fuel 26 [.slice A n c] = some x) :
    ∃ l : List S39, l.length = n ∧ n ≤ c ∧ Kd.C k39 w A n l ∧ (n = 0 ∨ ∃ sp : List (DataW H), x.1 = .slice (l.map recD) sp) := by
  rcases open_slice Try.underlying26 h with ⟨hcs, hx⟩ | ⟨a, len, cap, m, n', D, Pl, hcs, hb, hl, hm, hmm, hx, hi⟩
  · simp at hcs
    obtain ⟨rfl, rfl, rfl⟩ := hcs
    exact ⟨[], rfl, Nat.le_refl _, Kd.C_nil k39 w, .inl rfl⟩
  · simp at hcs
    obtain ⟨rfl, rfl, rfl⟩ := hcs
    have hlm : n ≤ m := by rw [hmm]; split <;> omega
    rw [cells_rec] at hi
    have key : ∀ i, i < n → ∃ o : S39, (∀ j u, [Value.int .i64 o.f0, .int .i64 o.f1, .int .i64 o.f2, .int .i64 o.f3, .int .i64 o.f4, .int .i64 o.f5, .string o.f6][j]? = some u → w.cell? (a.add (i * 7 + j)) = some u) ∧ D i = recD o := by
      intro i hin
      obtain ⟨cs', hc, ht'⟩ := hi i (by omega)
      obtain ⟨_, hcl, hat⟩ := World.cells?_some hc
      obtain ⟨o, rfl, hD⟩ := open_rec hcl ht'
      refine ⟨o, fun j u hu => ?_, hD⟩
      have hj : j < 7 := (List.getElem?_eq_some_iff.1 hu).1
      rw [← Go.Deep.add_add, hat j hj, hu]
    have hex : ∃ f : Nat → S39, ∀ i, i < n → (∀ j u, [Value.int .i64 (f i).f0, .int .i64 (f i).f1, .int .i64 (f i).f2, .int .i64 (f i).f3, .int .i64 (f i).f4, .int .i64 (f i).f5, .string (f i).f6][j]? = some u → w.cell? (a.add (i * 7 + j)) = some u) ∧ D i = recD (f i) :=
      ⟨fun i => if hin : i < n then (key i hin).choose else ⟨0, 0, 0, 0, 0, 0, ⟨#[]⟩⟩, fun i hin => by
        simp only [dif_pos hin]
        exact (key i hin).choose_spec⟩
    obtain ⟨f, hf⟩ := hex
    refine ⟨(List.range n).map f, by simp, hl, ⟨by simp, by unfold maxLen at hm; omega, fun h0 => ⟨a, rfl, fun j p hp => ?_⟩⟩, .inr ⟨(List.range (m - n)).map fun j => D (n + j), ?_⟩⟩
    · have hj : j < n := by have := (List.getElem?_eq_some_iff.1 hp).1; simpa using this
      have hpf : f j = p := by simpa [hj] using hp
      subst hpf
      exact ⟨_, rfl, k39_mk w (f j), fun i u hu => (hf j hj).1 i u hu⟩
    · rw [hx]
      rw [List.map_map, show (List.range n).map D = (List.range n).map (recD ∘ f) from List.map_congr_left fun i hi => (hf i (by simpa using hi)).2]
theorem weights_all {P : Program} {e : TypeId} {d : DataW H} : ∀ {l : List (DataW H)}, d ∈ l → ∀ n ∈ d.weights P e, n ∈ DataW.weightsAll P e l
  | x :: l, hd, n, hn => by
    simp only [DataW.weightsAll, List.mem_append]
    rcases List.mem_cons.1 hd with rfl | h
    · exact .inl hn
    · exact .inr (weights_all h n hn)
/-- Each text of a script is within the form's reach. -/
theorem sized_rec {ts : List TypeId} {ds : List (DataW H)} {j : Nat} {l : List S39} {sp : List (DataW H)} (h : (DataW.weightsEach Try.prog ts ds).all (· ≤ reachBytes) = true) (ht : ts[j]? = some 26) (hd : ds[j]? = some (.slice (l.map recD) sp)) (o : S39) (ho : o ∈ l) : o.f6.size ≤ 140737488355328 := by
  have hm := weights_all (P := Try.prog) (e := 39) (List.mem_map_of_mem (f := recD (H := H)) ho) o.f6.data.toList.length (by simp [recD, DataW.weights, DataW.weightsEach, Try.underlying39])
  have := of_decide_eq_true (List.all_eq_true.1 h _ (DataW.weights_mem_each ht hd o.f6.data.toList.length (by
    simp only [DataW.weights, Try.underlying26, List.mem_cons, List.mem_append]
    exact .inr (.inl hm))))
  have hr : reachBytes ≤ 140737488355328 := by decide
  rw [Array.length_toList] at this
  exact Nat.le_trans this hr
theorem open_head {r : Reach} {b0 : Nat} {v : Value} {d : DataW H} {p : List MemPlace} (hv : Value.okWide Try.prog w r b0 25 v) (h : DataW.Trod enc Try.prog w base spare held 25 v d p) :
    ∃ x y z : Int, v = .agg #[.int .u64 x, .int .i64 y, .int .u32 z] ∧ (Lit.int .u64 x).wf = true ∧ (Lit.int .i64 y).wf = true ∧ (Lit.int .u32 z).wf = true := by
  have hc : Try.prog.cellsOf 25 = 3 := by kernel_rfl
  have e3 : Try.prog.cellsOf 3 = 1 := by kernel_rfl
  have e22 : Try.prog.cellsOf 22 = 1 := by kernel_rfl
  have e23 : Try.prog.cellsOf 23 = 1 := by kernel_rfl
  simp only [Value.okWide, Try.underlying25] at hv
  obtain ⟨cs, rfl, hz, _⟩ := hv
  rw [hc] at hz
  obtain ⟨l⟩ := cs
  match l, hz with
  | [c0, c1, c2], _ =>
    obtain ⟨fuel, hf⟩ := h
    obtain ⟨ys, n, hn, hy, hlen, hyl, hi⟩ := DataW.trod_struct Try.underlying25 hf
    match ys, hyl with
    | [y0, y1, y2], _ =>
      have h0 := hi 0 _ rfl
      have h1 := hi 1 _ rfl
      have h2 := hi 2 _ rfl
      simp [e22, Value.cells] at h0
      simp [e3, Value.cells] at h1
      simp [e23, Value.cells] at h2
      obtain ⟨n0, q0, x0, w0⟩ := DataW.trod_int Try.underlying22 h0
      obtain ⟨n1, q1, x1, w1⟩ := DataW.trod_int Try.underlying3 h1
      obtain ⟨n2, q2, x2, w2⟩ := DataW.trod_int Try.underlying23 h2
      simp at q0 q1 q2
      subst q0 q1 q2
      exact ⟨n0, n1, n2, rfl, w0, w1, w2⟩
theorem open_arr2 {r : Reach} {b0 : Nat} {v : Value} {d : DataW H} {p : List MemPlace} (hv : Value.okWide Try.prog w r b0 52 v) (h : DataW.Trod enc Try.prog w base spare held 52 v d p) :
    ∃ x y : Int, v = .agg #[.int .i64 x, .int .i64 y] ∧ (Lit.int .i64 x).wf = true ∧ (Lit.int .i64 y).wf = true := by
  have hc : Try.prog.cellsOf 52 = 2 := by kernel_rfl
  have e3 : Try.prog.cellsOf 3 = 1 := by kernel_rfl
  simp only [Value.okWide, Try.underlying52] at hv
  obtain ⟨cs, rfl, hz, _⟩ := hv
  rw [hc] at hz
  obtain ⟨l⟩ := cs
  match l, hz with
  | [c0, c1], _ =>
    obtain ⟨fuel, hf⟩ := h
    obtain ⟨xs, m, _, _, _, hl, hi⟩ := DataW.trod_array Try.underlying52 hf
    match xs, hl with
    | [y0, y1], _ =>
      have h0 := hi 0 (by omega)
      have h1 := hi 1 (by omega)
      simp [e3, Value.cells] at h0 h1
      obtain ⟨n0, q0, x0, w0⟩ := DataW.trod_int Try.underlying3 h0
      obtain ⟨n1, q1, x1, w1⟩ := DataW.trod_int Try.underlying3 h1
      simp at q0 q1
      subst q0 q1
      exact ⟨n0, n1, rfl, w0, w1⟩
theorem open_intsC {k : IntKind} {t e : TypeId} (ht : Try.prog.underlying t = some (.slice e)) (he : Try.prog.underlying e = some (.int k)) (hc : Try.prog.cellsOf e = 1) {A : Option Addr} {n c : Nat} {d : DataW H} {p : List MemPlace} (h : DataW.Trod enc Try.prog w base spare held t (.slice A n c) d p) :
    ∃ l : List Int, l.length = n ∧ n ≤ c ∧ Kd.C (Kd.int k) w A n l ∧ ∀ x ∈ l, (Lit.int k x).wf = true := by
  have hw : ∃ zs : List Int, (A = none ∧ n = 0 ∧ c = 0 ∧ zs = []) ∨ ∃ x, A = some x ∧ n ≤ c ∧ c ≤ maxLen ∧ zs.length = (if spare x.block then c else n) ∧ (∀ i, i < zs.length → w.cell? (x.add i) = some (.int k (zs.getD i 0))) ∧ ∀ v ∈ zs, (Lit.int k v).wf = true := by
    obtain ⟨fuel, hf⟩ := h
    rcases open_ints ht he hc hf with ⟨hcs, _⟩ | ⟨x, l, c', zs, hcs, _, hl, hm, hz, _, hcell, hwz⟩
    · simp [Value.cells] at hcs
      obtain ⟨rfl, rfl, rfl⟩ := hcs
      exact ⟨[], .inl ⟨rfl, rfl, rfl, rfl⟩⟩
    · simp [Value.cells] at hcs
      obtain ⟨rfl, rfl, rfl⟩ := hcs
      exact ⟨zs, .inr ⟨_, rfl, hl, hm, hz, hcell, hwz⟩⟩
  obtain ⟨zs, hw⟩ := hw
  rcases hw with ⟨rfl, rfl, rfl, rfl⟩ | ⟨x, rfl, hl, hm, hz, hcell, hwf⟩
  · exact ⟨[], rfl, Nat.le_refl _, Kd.C_nil _ w, fun x hx => by cases hx⟩
  · have hlz : n ≤ zs.length := by rw [hz]; split <;> omega
    have hmx : c ≤ 9223372036854775807 := by unfold maxLen at hm; omega
    refine ⟨zs.take n, by rw [List.length_take]; omega, hl, ⟨by rw [List.length_take]; omega, by omega, fun hn => ⟨x, rfl, fun j p hj => ⟨[.int k p], rfl, rfl, fun i u hu => ?_⟩⟩⟩, fun v hv => hwf v (List.mem_of_mem_take hv)⟩
    have hjn : j < n := by have := (List.getElem?_eq_some_iff.1 hj).1; rw [List.length_take] at this; omega
    cases i with
    | zero =>
      simp at hu
      subst hu
      show w.cell? (x.add (j * 1 + 0)) = _
      rw [Nat.mul_one, Nat.add_zero, hcell j (by omega)]
      rw [List.getElem?_take, if_pos hjn] at hj
      rw [List.getD_eq_getElem?_getD, hj]
      rfl
    | succ i => simp at hu
theorem wf_byte {x : Int} (h : (Lit.int .u8 x).wf = true) : 0 ≤ x ∧ x < 256 := by
  simp [Lit.wf, IntKind.min, IntKind.max, IntKind.signed, IntKind.bits] at h
  omega
theorem wf_int {x : Int} (h : (Lit.int .i64 x).wf = true) : -9223372036854775808 ≤ x ∧ x < 9223372036854775808 := by
  simp [Lit.wf, IntKind.min, IntKind.max, IntKind.signed, IntKind.bits] at h
  omega
theorem wf_u64 {x : Int} (h : (Lit.int .u64 x).wf = true) : 0 ≤ x ∧ x < 18446744073709551616 := by
  simp [Lit.wf, IntKind.min, IntKind.max, IntKind.signed, IntKind.bits] at h
  omega
theorem wf_u32 {x : Int} (h : (Lit.int .u32 x).wf = true) : 0 ≤ x ∧ x < 4294967296 := by
  simp [Lit.wf, IntKind.min, IntKind.max, IntKind.signed, IntKind.bits] at h
  omega
end
end Go.Proofs.Ytmklmpajcomimaa.Hand
end
