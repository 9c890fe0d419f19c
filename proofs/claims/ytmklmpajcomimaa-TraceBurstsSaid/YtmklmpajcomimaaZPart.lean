import Derived.RangeFuncNested
import Derived.RangeFuncBound
import Derived.RangeFuncCalls
import Derived.RangeFuncLeaves
import Derived.RangeFuncBox
import Derived.Shelf.Abstract
import Derived.Shelf.RegionOpen
import Derived.WalkKit
import Derived.OwnWalkIn
import Derived.TacticsInMore
import Derived.LoopNIn
import Derived.LoopIn
import Derived.Test.YtmklmpajcomimaaZCrc
import Derived.WalkLawsBesides
import Derived.Test.YtmklmpajcomimaaZEnc
import Derived.Deep.RegionHeld3
import Derived.Deep.DrawnRows
section
/- The number of four, or eight, bytes: get, by a range over slices.Backward. -/
namespace Go.Proofs.Ytmklmpajcomimaa.Hand
open Go.RowKit Go.Shelf Go.Proofs.YtmklmpajcomimaaW.PrintWords Go.Proofs.YtmklmpajcomimaaW.PrintLast Go.Proofs.YtmklmpajcomimaaW.PrintMore Go.Proofs.Ytmklmpajcomimaa.PTraceWrites
set_option linter.unusedVariables false
set_option linter.unusedSimpArgs false
attribute [local go_sem] Oper.semAt_some
def upto {α : Type} (f : Nat → α) (k : Nat) : List α := (List.range k).map f
theorem upto_succ {α : Type} (f : Nat → α) (k : Nat) : upto f (k + 1) = upto f k ++ [f k] := by simp [upto, List.range_succ]
theorem upto_length {α : Type} (f : Nat → α) (k : Nat) : (upto f k).length = k := by simp [upto]
/-- What comes at round j. -/
def bw (bl : List Int) (j : Nat) : Int × Int := ((bl.length : Int) - 1 - j, rd bl ((bl.length : Int) - 1 - j))
/-- What a round keeps. -/
def KpB (n₀ Bs : Nat) (W W' : World) : Prop := Below n₀ W W' ∧ W'.heap[Bs]? = W.heap[Bs]?
theorem KpB.trans {n₀ Bs : Nat} {A B C : World} (h : KpB n₀ Bs A B) (k : KpB n₀ Bs B C) : KpB n₀ Bs A C := ⟨h.1.trans k.1, k.2.trans h.2⟩
theorem KpB.book {n₀ Bs : Nat} {w : World} (hn : n₀ ≤ w.heap.size) (hB : Bs < w.heap.size) (W : World) (l : Nat) (o o' : Obj) (hl : w.heap.size ≤ l) (h : W.heap[l]? = some o) (h1 : o.isCells = false) (h2 : o.isWalk = false) : KpB n₀ Bs W (W.putObj l o') :=
  ⟨belowK_b hn W l o o' hl h h1 h2, World.putObj_heap_other (by omega)⟩
set_option maxRecDepth 100000 in
set_option maxHeartbeats 4000000 in
theorem back1_in (n : Nat) (hn : 1 ≤ n) (l Bs : Nat) (w : World) (A : Option Addr) (c : Nat) (bl : List Int) (hC : Kd.C (Kd.int .u8) w A bl.length bl) (hlen : bl.length ≤ 1000000000) (J Jx : List (Int × Int) → World → Prop)
    (hY : ∀ pre x W, J pre W → pre.length < bl.length → YieldAt Fence.wide (n - 1) Try.prog l #[.int .i64 x.1, .int .u8 x.2] W fun e W' =>
      (e = .returned (.bool true) ∧ J (pre ++ [x]) W' ∧ KpB w.heap.size Bs W W') ∨ (e = .returned (.bool false) ∧ Jx (pre ++ [x]) W'))
    (W : World) (hW : Below w.heap.size w W) (hBs : W.heap[Bs]? = some (.cells #[.slice A bl.length c] 29 (0, 0))) (h0 : J [] W) :
    CallsIn Fence.wide n Try.prog 79 #[.func (.yield l) #[] #[], .pointer (some ⟨Bs, 0, none⟩)] W fun e W' => (∃ v, e = .returned v) ∧
      ((∃ ys, ys = upto (bw bl) bl.length ∧ J ys W') ∨ (∃ pre, True ∧ Jx pre W')) := by
  refine callsIn_of_wp Try.func79 rfl trivial ?_ rfl
  simp only [Try.ntmps79, List.size_toArray, List.length_cons, List.length_nil, Nat.reduceAdd, Nat.reduceSub, Array.replicate_succ, Array.replicate_zero, List.push_toArray, List.append_toArray, List.nil_append, List.cons_append]
  have hb0 : W.cell? ⟨Bs, 0, none⟩ = some (.slice A bl.length c) := (blk_cell hBs 0).trans rfl
  have HBS := Lib.hid hBs
  have HW := Lib.hid hW
  have HC := Lib.hid hC
  clear hBs hW hC
  gi_wp2
  clear hb0
  gi_loopw [3] (fun i wr => ∃ i' : Int, -1 ≤ i' ∧ i' < bl.length ∧ i = .int .i64 i' ∧ J (upto (bw bl) ((bl.length : Int) - 1 - i').toNat) wr ∧ KpB w.heap.size Bs W wr)
    (fun i _ => (intOf i + 1).toNat)
  case atStart => exact ⟨(bl.length : Int) - 1, by omega, by omega, rfl, by simpa [upto] using h0, Below.refl _ _, rfl⟩
  case round =>
    obtain ⟨i', hi0, hi1, rfl, hJs, hkp⟩ := hrel
    have hb1 : wr.cell? ⟨Bs, 0, none⟩ = some (.slice A bl.length c) := (blk_cell (hkp.2.trans HBS.out) 0).trans rfl
    have HK := Lib.hid hkp
    clear hkp
    by_cases hlt : 0 ≤ i'
    · obtain ⟨p, rfl⟩ := Int.eq_ofNat_of_zero_le hlt
      obtain ⟨ad, rfl, hx⟩ := Kd.at_int (Kd.C_below HC.out (HW.out.trans HK.out.1)) (p : Int) (by omega) (by omega)
      rw [Int.toNat_natCast] at hx
      have hlx : (upto (bw bl) ((bl.length : Int) - 1 - p).toNat).length < bl.length := by rw [upto_length]; omega
      obtain ⟨fn, tmps, assign, body, hy, hR⟩ := hY _ ((p : Int), rd bl (p : Int)) wr hJs hlx
      dsimp only at hy
      have hup : upto (bw bl) ((bl.length : Int) - 1 - ((p : Int) - 1)).toNat = upto (bw bl) ((bl.length : Int) - 1 - p).toNat ++ [((p : Int), rd bl (p : Int))] := by
        rw [show ((bl.length : Int) - 1 - ((p : Int) - 1)).toNat = ((bl.length : Int) - 1 - p).toNat + 1 by omega, upto_succ]
        unfold bw
        rw [show (bl.length : Int) - 1 - (((bl.length : Int) - 1 - p).toNat : Int) = p by omega]
      have HUP := Lib.hid hup
      clear hup hlx hJs
      gi_wp2
      refine hR.mono ?_
      rintro e W3 (⟨rfl, hJ3, hk3⟩ | ⟨rfl, hJx3⟩)
      · gi_wp2
        go_roundw
        case rel => exact ⟨(p : Int) - 1, by omega, by omega, rfl, by rw [HUP.out]; exact hJ3, HK.out.trans hk3⟩
        case measure => simp [intOf]
      · gi_wp2
        refine bodyPost_ret (results_none rfl _ _ _) rfl ?_
        exact ⟨⟨_, rfl⟩, .inr ⟨_, trivial, hJx3⟩⟩
    · obtain rfl : i' = -1 := by omega
      have he : ((bl.length : Int) - 1 - -1).toNat = bl.length := by omega
      rw [he] at hJs
      clear he
      gi_wp2
      go_end0
      exact ⟨⟨_, rfl⟩, .inl hJs⟩
theorem back_in (n : Nat) (a : Option Addr) (len cap : Nat) (w : World) :
    CallsIn Fence.wide n Try.prog 67 #[.slice a len cap] w fun e w' => e = .returned (.func (.func 79) #[] #[.pointer (some ⟨w.heap.size, 0, none⟩)]) ∧ w' = w.alloc (.cells #[.slice a len cap] 29) := by
  refine callsIn_of_wp Try.func67 rfl trivial ?_ rfl
  simp only [Try.ntmps67, List.size_toArray, List.length_cons, List.length_nil, Nat.reduceAdd, Nat.reduceSub, Array.replicate_succ, Array.replicate_zero, List.push_toArray, List.append_toArray, List.nil_append, List.cons_append]
  gi_wp2
  go_ret
  exact ⟨rfl, rfl⟩
theorem back_stops (n : Nat) (hn : 1 ≤ n) (Bs : Nat) (w wb : World) (A : Option Addr) (c : Nat) (bl : List Int) (hC : Kd.C (Kd.int .u8) w A bl.length bl) (hlen : bl.length ≤ 1000000000) (hB : Below w.heap.size w wb) (hlt : Bs < wb.heap.size) (hBs : wb.heap[Bs]? = some (.cells #[.slice A bl.length c] 29 (0, 0))) :
    SeqStopsK Fence.wide n Try.prog 79 #[.pointer (some ⟨Bs, 0, none⟩)] (fun x : Int × Int => #[Value.int .i64 x.1, Value.int .u8 x.2]) (KpB w.heap.size Bs) (fun ys => ys = upto (bw bl) bl.length) (fun _ => True) bl.length wb := fun l J Jx W hW _ _ hY h0 =>
  back1_in n hn l Bs w A c bl hC hlen J Jx hY W (hB.trans (hW.mono hB.size)) ((hW.block Bs hlt).trans hBs) h0
def accN (k : IntKind) (pre : List (Int × Int)) : Int := pre.foldl (fun n x => Go.bits .or k (shl k n 8) (k.wrap x.2)) 0
theorem accN_snoc (k : IntKind) (pre : List (Int × Int)) (x : Int × Int) : accN k (pre ++ [x]) = Go.bits .or k (shl k (accN k pre) 8) (k.wrap x.2) := by simp [accN]
set_option maxRecDepth 100000 in
set_option maxHeartbeats 4000000 in
theorem get32_acc (A : Option Addr) (c : Nat) (bl : List Int) (w : World) (hC : Kd.C (Kd.int .u8) w A bl.length bl) (hlen : bl.length ≤ 1000000000) :
    Calls Try.prog 56 #[.slice A bl.length c] w fun e w' => e = .returned (.int .u32 (accN .u32 (upto (bw bl) bl.length))) ∧ Below w.heap.size w w' := by
  refine (callsIn_wide (n := 6)).1 ?_
  refine callsIn_of_wp_marks Try.func56 rfl trivial ?_ rfl
  have HC := Lib.hid hC
  clear hC
  simp only [Try.ntmps56, List.size_toArray, List.length_cons, List.length_nil, Nat.reduceAdd, Nat.reduceSub, Array.replicate_succ, Array.replicate_zero, List.push_toArray, List.append_toArray, List.nil_append, List.cons_append]
  gi_wp2_with (refine ⟨trivial, ?_⟩; gi_at_call 67; refine (back_in (6 - 1) _ _ _ _).mono ?_; rintro e w' ⟨rfl, rfl⟩)
  have bS := Boxed.new w 23 (.int .u32 0)
  have hbl := blk_new (w.alloc (.cells #[.int .u32 0] 23)) (.cells #[.slice A bl.length c] 29)
  rw [World.size_alloc] at hbl
  have hB0 : Below w.heap.size w ((w.alloc (.cells #[.int .u32 0] 23)).alloc (.cells #[.slice A bl.length c] 29)) := ((Below.refl _ w).alloc (Nat.le_refl _) _).alloc (by simp) _
  refine wpIn_rangeFunc_ownG rfl (by omega) (gf := 79) (lb := #[.pointer (some ⟨w.heap.size + 1, 0, none⟩)]) rfl trivial (enters_of Try.func79 (by kernel_rfl) rfl)
    (back_stops (6 - 1) (by omega) (w.heap.size + 1) w _ A c bl HC.out hlen hB0 (by simp) hbl) KpB.trans (KpB.book (by simp; omega) (by simp)) (Below.refl _ _) (fun _ => rfl)
    (fun pre W => (W.cell? ⟨w.heap.size, 0, none⟩ = some (.int .u32 (accN .u32 pre)) ∧ W.frozen? ⟨w.heap.size, 0, none⟩ = false) ∧ Below w.heap.size w W)
    (fun _ _ _ => False)
    (OwnFrom.and (Own.from (fun s A B row hs hg hr => ⟨cell_kept hs.1 hg hr, (frozen_kept hs.1 hg hr).trans hs.2⟩) _) (ownFrom_below (Nat.le_refl _) (by simp; omega)))
    (fun _ _ _ _ _ hs _ _ => hs)
    ⟨⟨(bS.alloc _).cell, (bS.alloc _).frozen⟩, hB0⟩
    (fun x => { tmps := #[.slice A bl.length c, undef, .int .u32 0, .pointer (some ⟨w.heap.size, 0, none⟩), undef, .int .u8 x.2, .slice A bl.length c, .func (.func 79) #[] #[.pointer (some ⟨w.heap.size + 1, 0, none⟩)], .int .i64 x.1, .int .u8 x.2, undef, undef, undef, undef, undef, undef], defers := [] }) ?assign ?body ?done ?stop
  case assign =>
    intro l x W K hK
    gi_wp2
    exact hK
  case body =>
    rintro l pre x W ⟨⟨hc, hf⟩, hB⟩ _
    gi_wp2
    exact ⟨(KeepsOthers.setCell _ _ _).from _, ⟨(Below.refl w.heap.size W).setCell (p := ⟨w.heap.size, 0, none⟩) (Nat.le_refl _) _, Below.heap_setCell W ⟨w.heap.size, 0, none⟩ _ _ (by simp)⟩, ⟨by rw [accN_snoc]; exact World.cell?_setCell_same' _ _ _ (by rw [hc]; rfl), by rw [World.frozen?_setCell]; exact hf⟩, hB.setCell (p := ⟨w.heap.size, 0, none⟩) (Nat.le_refl _) _⟩
  case done =>
    rintro D ys W hD rfl ⟨⟨hc, _⟩, hB⟩ hK
    gi_wp2
    refine ⟨by simp, .inl ⟨_, _, rfl, run_takeDeferred hK, ?_⟩⟩
    exact ⟨_, results_tmp rfl _ _ _, rfl, hB.trans (belowK_b (w := w) (Nat.le_refl _) W D _ _ (by simp at hD; omega) hK rfl rfl)⟩
  case stop =>
    rintro D c pre W _ _ h _
    exact h.elim
set_option maxRecDepth 100000 in
set_option maxHeartbeats 4000000 in
theorem get64_acc (A : Option Addr) (c : Nat) (bl : List Int) (w : World) (hC : Kd.C (Kd.int .u8) w A bl.length bl) (hlen : bl.length ≤ 1000000000) :
    Calls Try.prog 58 #[.slice A bl.length c] w fun e w' => e = .returned (.int .u64 (accN .u64 (upto (bw bl) bl.length))) ∧ Below w.heap.size w w' := by
  refine (callsIn_wide (n := 6)).1 ?_
  refine callsIn_of_wp_marks Try.func58 rfl trivial ?_ rfl
  have HC := Lib.hid hC
  clear hC
  simp only [Try.ntmps58, List.size_toArray, List.length_cons, List.length_nil, Nat.reduceAdd, Nat.reduceSub, Array.replicate_succ, Array.replicate_zero, List.push_toArray, List.append_toArray, List.nil_append, List.cons_append]
  gi_wp2_with (refine ⟨trivial, ?_⟩; gi_at_call 67; refine (back_in (6 - 1) _ _ _ _).mono ?_; rintro e w' ⟨rfl, rfl⟩)
  have bS := Boxed.new w 22 (.int .u64 0)
  have hbl := blk_new (w.alloc (.cells #[.int .u64 0] 22)) (.cells #[.slice A bl.length c] 29)
  rw [World.size_alloc] at hbl
  have hB0 : Below w.heap.size w ((w.alloc (.cells #[.int .u64 0] 22)).alloc (.cells #[.slice A bl.length c] 29)) := ((Below.refl _ w).alloc (Nat.le_refl _) _).alloc (by simp) _
  refine wpIn_rangeFunc_ownG rfl (by omega) (gf := 79) (lb := #[.pointer (some ⟨w.heap.size + 1, 0, none⟩)]) rfl trivial (enters_of Try.func79 (by kernel_rfl) rfl)
    (back_stops (6 - 1) (by omega) (w.heap.size + 1) w _ A c bl HC.out hlen hB0 (by simp) hbl) KpB.trans (KpB.book (by simp; omega) (by simp)) (Below.refl _ _) (fun _ => rfl)
    (fun pre W => (W.cell? ⟨w.heap.size, 0, none⟩ = some (.int .u64 (accN .u64 pre)) ∧ W.frozen? ⟨w.heap.size, 0, none⟩ = false) ∧ Below w.heap.size w W)
    (fun _ _ _ => False)
    (OwnFrom.and (Own.from (fun s A B row hs hg hr => ⟨cell_kept hs.1 hg hr, (frozen_kept hs.1 hg hr).trans hs.2⟩) _) (ownFrom_below (Nat.le_refl _) (by simp; omega)))
    (fun _ _ _ _ _ hs _ _ => hs)
    ⟨⟨(bS.alloc _).cell, (bS.alloc _).frozen⟩, hB0⟩
    (fun x => { tmps := #[.slice A bl.length c, undef, .int .u64 0, .pointer (some ⟨w.heap.size, 0, none⟩), undef, .int .u8 x.2, .slice A bl.length c, .func (.func 79) #[] #[.pointer (some ⟨w.heap.size + 1, 0, none⟩)], .int .i64 x.1, .int .u8 x.2, undef, undef, undef, undef, undef, undef], defers := [] }) ?assign ?body ?done ?stop
  case assign =>
    intro l x W K hK
    gi_wp2
    exact hK
  case body =>
    rintro l pre x W ⟨⟨hc, hf⟩, hB⟩ _
    gi_wp2
    exact ⟨(KeepsOthers.setCell _ _ _).from _, ⟨(Below.refl w.heap.size W).setCell (p := ⟨w.heap.size, 0, none⟩) (Nat.le_refl _) _, Below.heap_setCell W ⟨w.heap.size, 0, none⟩ _ _ (by simp)⟩, ⟨by rw [accN_snoc]; exact World.cell?_setCell_same' _ _ _ (by rw [hc]; rfl), by rw [World.frozen?_setCell]; exact hf⟩, hB.setCell (p := ⟨w.heap.size, 0, none⟩) (Nat.le_refl _) _⟩
  case done =>
    rintro D ys W hD rfl ⟨⟨hc, _⟩, hB⟩ hK
    gi_wp2
    refine ⟨by simp, .inl ⟨_, _, rfl, run_takeDeferred hK, ?_⟩⟩
    exact ⟨_, results_tmp rfl _ _ _, rfl, hB.trans (belowK_b (w := w) (Nat.le_refl _) W D _ _ (by simp at hD; omega) hK rfl rfl)⟩
  case stop =>
    rintro D c pre W _ _ h _
    exact h.elim
/-- The number of bytes, the lowest one first. -/
def getN : List Int → Int
  | [] => 0
  | c :: t => c + 256 * getN t
theorem getN_pos : ∀ {l : List Int}, Bytes l → 0 ≤ getN l
  | [], _ => Int.le_refl _
  | c :: t, h => by
    have h1 := getN_pos (fun x hx => h x (List.mem_cons_of_mem _ hx) : Bytes t)
    have h2 := h c (List.mem_cons_self ..)
    unfold getN
    omega
theorem getN_lt : ∀ {l : List Int}, Bytes l → getN l < 256 ^ l.length
  | [], _ => by decide
  | c :: t, h => by
    have h1 := getN_lt (fun x hx => h x (List.mem_cons_of_mem _ hx) : Bytes t)
    have h2 := h c (List.mem_cons_self ..)
    have e : (256 : Int) ^ (c :: t).length = 256 ^ t.length * 256 := Int.pow_succ ..
    unfold getN
    omega
theorem acc_step (k : IntKind) (j : Nat) (hj : j ≤ k.bits) (h8 : 8 ≤ k.bits) (hk : ∀ n : Int, 0 ≤ n → n < 2 ^ j → k.wrap n = n) (n c : Int) (h0 : 0 ≤ n) (hc : 0 ≤ c ∧ c < 256) (h1 : n * 256 + 256 ≤ 2 ^ j) : Go.bits .or k (shl k n 8) (k.wrap c) = c + 256 * n := by
  have e : shl k n 8 = n * 256 := by
    unfold shl
    rw [show min (8 : Int).toNat k.bits = 8 from Nat.min_eq_left h8]
    exact hk _ (by omega) (by omega)
  rw [e, hk c hc.1 (by omega), bits_join k j hj hk 8 (n * 256) c (by omega) (by omega) (by omega) hc.1 (by omega) (by omega)]
  omega
theorem pow256_le {a m : Nat} (h : a ≤ m) : (256 : Int) ^ a ≤ 256 ^ m := by
  have e : ∀ b : Nat, (256 : Int) ^ b = ((256 ^ b : Nat) : Int) := fun b => (Int.natCast_pow 256 b).symm
  rw [e, e]
  exact Int.ofNat_le.2 (Nat.pow_le_pow_right (n := 256) (by decide) h)
theorem acc_is (k : IntKind) (j m : Nat) (hj : j ≤ k.bits) (h8 : 8 ≤ k.bits) (hk : ∀ n : Int, 0 ≤ n → n < 2 ^ j → k.wrap n = n) (hm : (256 : Int) ^ m = 2 ^ j) (bl : List Int) (hb : Bytes bl) (hl : bl.length ≤ m) : ∀ q : Nat, q ≤ bl.length → accN k (upto (bw bl) q) = getN (bl.drop (bl.length - q))
  | 0, _ => by
    rw [Nat.sub_zero, List.drop_length]
    rfl
  | q + 1, hq => by
    rw [upto_succ, accN_snoc, acc_is k j m hj h8 hk hm bl hb hl q (by omega)]
    obtain ⟨p, hp⟩ : ∃ p, bl.length - (q + 1) = p := ⟨_, rfl⟩
    have hlt : p < bl.length := by omega
    have e1 : bl.length - q = p + 1 := by omega
    have hbw : (bw bl q).2 = bl[p] := by
      unfold bw
      rw [show (bl.length : Int) - 1 - q = (p : Int) by omega, rd_at bl p hlt]
    have hd : bl.drop p = bl[p] :: bl.drop (p + 1) := List.drop_eq_getElem_cons hlt
    rw [hp, e1, hbw, hd]
    have hbd : Bytes (bl.drop (p + 1)) := hb.drop _
    have hpos := getN_pos hbd
    have hlt2 := getN_lt hbd
    have hpow : (256 : Int) ^ (bl.drop (p + 1)).length * 256 ≤ 256 ^ m := by
      have hle : (bl.drop (p + 1)).length + 1 ≤ m := by rw [List.length_drop]; omega
      have e : (256 : Int) ^ (bl.drop (p + 1)).length * 256 = 256 ^ ((bl.drop (p + 1)).length + 1) := (Int.pow_succ ..).symm
      rw [e]
      exact pow256_le hle
    rw [hm] at hpow
    rw [acc_step k j hj h8 hk _ _ hpos (hb _ (List.getElem_mem hlt)) (by omega)]
    rfl
theorem get32_calls (A : Option Addr) (c : Nat) (bl : List Int) (w : World) (hC : Kd.C (Kd.int .u8) w A bl.length bl) (hb : Bytes bl) (hl : bl.length ≤ 4) :
    Calls Try.prog 56 #[.slice A bl.length c] w fun e w' => e = .returned (.int .u32 (getN bl)) ∧ Below w.heap.size w w' := by
  have h := acc_is .u32 32 4 (by decide) (by decide) (fun n h0 h1 => by rw [IntKind.wrap_u32]; omega) (by decide) bl hb hl bl.length (Nat.le_refl _)
  rw [Nat.sub_self, List.drop_zero] at h
  rw [← h]
  exact get32_acc A c bl w hC (by omega)
theorem get64_calls (A : Option Addr) (c : Nat) (bl : List Int) (w : World) (hC : Kd.C (Kd.int .u8) w A bl.length bl) (hb : Bytes bl) (hl : bl.length ≤ 8) :
    Calls Try.prog 58 #[.slice A bl.length c] w fun e w' => e = .returned (.int .u64 (getN bl)) ∧ Below w.heap.size w w' := by
  have h := acc_is .u64 64 8 (by decide) (by decide) (fun n h0 h1 => by rw [IntKind.wrap_u64]; omega) (by decide) bl hb hl bl.length (Nat.le_refl _)
  rw [Nat.sub_self, List.drop_zero] at h
  rw [← h]
  exact get64_acc A c bl w hC (by omega)
end Go.Proofs.Ytmklmpajcomimaa.Hand
end

section
/- A sealed part, a frame: part, open; must. What is amiss is told by a panic. -/
namespace Go.Proofs.Ytmklmpajcomimaa.Hand
open Go.RowKit Go.Proofs.YtmklmpajcomimaaW.PrintWords Go.Proofs.YtmklmpajcomimaaW.PrintLast Go.Proofs.YtmklmpajcomimaaW.PrintMore Go.Proofs.Ytmklmpajcomimaa.PTraceWrites Go.Proofs.Ytmklmpajcomimaa.CrcMath
set_option linter.unusedVariables false
set_option linter.unusedSimpArgs false
/-- A panic with an error's number. -/
def fell (n : Int) : Ending := .panicked [{ v := .iface 30 (.int .i64 n), recovered := false }]
theorem must_yes (w : World) : Calls Try.prog 47 #[.bool true] w fun e w' => e = .returned (.tuple #[]) ∧ w = w' := by
  go_enter Try.func47, Try.ntmps47
  go_wp2_with fail
  go_end0
  exact ⟨rfl, rfl⟩
theorem must_no (w : World) : Calls Try.prog 47 #[.bool false] w fun e w' => e = fell 212 ∧ w = w' := by
  go_enter Try.func47, Try.ntmps47
  go_wp2_with fail
  exact ⟨rfl, rfl, rfl⟩
def partO (m : Nat) : Option (List Int) → Except Int (List Int × Nat)
  | none => .error 211
  | some x => .ok (x, m)
/-- A sealed part at a place, of so many bytes; or what is amiss. -/
def partE (b : List Int) (at_ long : Nat) : Except Int (List Int × Nat) :=
  if b.length < at_ + long then .error 210
  else partO (at_ + long) (openP ((b.take (at_ + long)).drop at_))
/-- The frame at a place. -/
def openE (b : List Int) (at_ : Nat) : Except Int (List Int × Nat) :=
  match partE b at_ 8 with
  | .error e => .error e
  | .ok (x, mid) => if 1048576 < getN x then .error 212 else partE b mid ((getN x).toNat + 4)
/-- How a part's, or frame's, opening ends. -/
def Gave (base : Nat) (w' : World) (e : Ending) : Except Int (List Int × Nat) → Prop
  | .error n => e = fell n
  | .ok (x, at_) => ∃ v, e = .returned (.tuple #[v, .int .i64 (at_ : Int)]) ∧ Kd.R (Kd.int .u8) 5 w' base (fun _ => True) v x
set_option maxHeartbeats 8000000 in
set_option maxRecDepth 100000 in
theorem part_calls (A : Option Addr) (c : Nat) (b : List Int) (at_ long : Nat) (w : World) (hr : Kd.C (Kd.int .u8) w A b.length b) (hc : b.length ≤ c) (hb : Bytes b) (hl : b.length ≤ 10000000) (hat : at_ ≤ b.length) (h4 : 4 ≤ long) (hlg : long ≤ 2000000) :
    Calls Try.prog 55 #[.slice A b.length c, .int .i64 (at_ : Int), .int .i64 (long : Int)] w fun e w' => Gave w.heap.size w' e (partE b at_ long) ∧ Below w.heap.size w w' := by
  have hle : (at_ : Int) ≤ (b.length : Int) := by omega
  by_cases hs : b.length < at_ + long
  · have he : partE b at_ long = .error 210 := if_pos hs
    rw [he]
    have hd : decide ((long : Int) > (b.length : Int) - at_) = true := decide_eq_true (by omega)
    have HB := Lib.hid (Below.refl w.heap.size w)
    have hgt : (b.length : Int) - (at_ : Int) < (long : Int) := by omega
    clear hr hb he hs
    go_enter Try.func55, Try.ntmps55
    go_wp2_with fail
    exact ⟨rfl, rfl, HB.out⟩
  · have hC := Kd.C_mid (lo := at_) (hi := at_ + long) hr (by omega) (by omega) hc
    rw [if_neg (show ¬ c = at_ by omega)] at hC
    have hsz : ∀ k, k * (Kd.int .u8).sz = k := fun k => Nat.mul_one k
    rw [hsz] at hC
    have hml : ((b.take (at_ + long)).drop at_).length = long := by rw [List.length_drop, List.length_take]; omega
    have hop := open_calls _ (c - at_) _ w hC (by rw [hml]; omega) ((hb.take _).drop _) (by rw [hml]; omega)
    rw [hml] at hop
    have he : partE b at_ long = partO (at_ + long) (openP ((b.take (at_ + long)).drop at_)) := if_neg hs
    rw [he]
    have HOP := Lib.hid hop
    have hgt : (long : Int) ≤ (b.length : Int) - (at_ : Int) := by omega
    have hca : (at_ : Int) + (long : Int) ≤ (c : Int) := by omega
    have hca2 : (at_ : Int) ≤ (at_ : Int) + (long : Int) := by omega
    have hne : (c = at_) = False := eq_false (by omega)
    obtain ⟨m, hm⟩ : ∃ m : Nat, m = at_ + long := ⟨_, rfl⟩
    have hmi : (at_ : Int) + (long : Int) = (m : Int) := by omega
    have hmc : (m : Int) ≤ (c : Int) := by omega
    have ham : (at_ : Int) ≤ (m : Int) := by omega
    have hms : m - at_ = long := by omega
    rw [← hm]
    rw [← hm] at HOP
    generalize (b.take m).drop at_ = x at HOP ⊢
    have hgt2 : ¬ (b.length : Int) - (at_ : Int) < (long : Int) := by omega
    clear hC hop he hml hr hb hs hsz hm hca hca2 hgt
    go_enter Try.func55, Try.ntmps55
    go_wp2_with fail
    refine HOP.out.mono ?_
    rintro e w1 ⟨vs, rfl, ho, hb1⟩
    have HB1 := Lib.hid hb1
    unfold Opened at ho
    cases hx : openP x with
    | none =>
      rw [hx] at ho
      subst ho
      have HX := Lib.hid hx
      clear hx hb1
      go_wp2_with fail
      rw [HX.out]
      exact ⟨rfl, rfl, HB1.out⟩
    | some y =>
      rw [hx] at ho
      obtain ⟨v, rfl, hr1⟩ := ho
      have HR1 := Lib.hid hr1
      have HX := Lib.hid hx
      clear hx hb1 hr1
      go_wp2_with fail
      go_ret2
      rw [HX.out]
      exact ⟨⟨v, rfl, HR1.out⟩, HB1.out⟩
theorem openP_ok {l x : List Int} (h : openP l = some x) : 4 ≤ l.length ∧ x = l.take (l.length - 4) ∧ l.drop (l.length - 4) = tailOf (sum x) := by
  unfold openP at h
  by_cases hc : 4 ≤ l.length ∧ l.drop (l.length - 4) = tailOf (sum (l.take (l.length - 4)))
  · rw [if_pos hc] at h
    obtain rfl := Option.some.inj h
    exact ⟨hc.1, rfl, hc.2⟩
  · rw [if_neg hc] at h
    cases h
theorem partE_ok {b x : List Int} {at_ long m : Nat} (h : partE b at_ long = .ok (x, m)) : m = at_ + long ∧ m ≤ b.length ∧ 4 ≤ long ∧ x.length = long - 4 ∧ openP ((b.take (at_ + long)).drop at_) = some x := by
  unfold partE at h
  by_cases hs : b.length < at_ + long
  · rw [if_pos hs] at h
    cases h
  · rw [if_neg hs] at h
    have hml : ((b.take (at_ + long)).drop at_).length = long := by rw [List.length_drop, List.length_take]; omega
    cases ho : openP ((b.take (at_ + long)).drop at_) with
    | none => rw [ho] at h; cases h
    | some y =>
      rw [ho] at h
      have hi := Except.ok.inj h
      simp only [Prod.mk.injEq] at hi
      obtain ⟨rfl, rfl⟩ := hi
      obtain ⟨h4, hx, _⟩ := openP_ok ho
      rw [hml] at h4 hx
      exact ⟨rfl, by omega, h4, by rw [hx, List.length_take]; omega, rfl⟩
theorem partE_bytes {b x : List Int} {at_ long m : Nat} (hb : Bytes b) (h : partE b at_ long = .ok (x, m)) : Bytes x := by
  obtain ⟨_, hx, _⟩ := openP_ok (partE_ok h).2.2.2.2
  rw [hx]
  exact ((hb.take _).drop _).take _
set_option maxHeartbeats 8000000 in
set_option maxRecDepth 100000 in
theorem openf_calls (A : Option Addr) (c : Nat) (b : List Int) (at_ : Nat) (w : World) (hr : Kd.C (Kd.int .u8) w A b.length b) (hc : b.length ≤ c) (hb : Bytes b) (hl : b.length ≤ 10000000) (hat : at_ ≤ b.length) :
    Calls Try.prog 44 #[.slice A b.length c, .int .i64 (at_ : Int)] w fun e w' => Gave w.heap.size w' e (openE b at_) ∧ Below w.heap.size w w' := by
  have h1 := part_calls A c b at_ 8 w hr hc hb hl hat (by decide) (by decide)
  have H1 := Lib.hid h1
  have HR := Lib.hid hr
  clear h1 hr
  go_enter Try.func44, Try.ntmps44
  go_wp2_with fail
  refine H1.out.mono ?_
  rintro e w1 ⟨hg, hb1⟩
  have HB1 := Lib.hid hb1
  cases hp : partE b at_ 8 with
  | error n =>
    have he : openE b at_ = .error n := by unfold openE; rw [hp]
    rw [hp] at hg
    simp only [Gave, fell] at hg
    subst hg
    have HE := Lib.hid he
    clear he hp hb1 H1
    refine ⟨rfl, ?_⟩
    rw [HE.out]
    exact ⟨rfl, HB1.out⟩
  | ok r =>
    obtain ⟨x, mid⟩ := r
    have he : openE b at_ = if 1048576 < getN x then .error 212 else partE b mid ((getN x).toNat + 4) := by unfold openE; rw [hp]
    obtain ⟨hm, hmb, _, hxl, _⟩ := partE_ok hp
    have hbx := partE_bytes hb hp
    rw [hp] at hg
    simp only [Gave] at hg
    obtain ⟨v, rfl, hr1⟩ := hg
    obtain ⟨A1, c1, rfl, hl1, hC1⟩ := Kd.R_reads hr1
    have hx4 : x.length = 4 := hxl
    have hget := get32_calls A1 c1 x w1 hC1 hbx (by omega)
    have hn0 := getN_pos hbx
    have hn1 := getN_lt hbx
    rw [hx4] at hn1
    have hn2 : getN x < 4294967296 := hn1
    obtain ⟨n, hn⟩ : ∃ n : Int, getN x = n := ⟨_, rfl⟩
    have hCb := Kd.C_below HR.out hb1
    have h2 : ¬ 1048576 < n → ∀ W, Below w1.heap.size w1 W → Calls Try.prog 55 #[.slice A b.length c, .int .i64 (mid : Int), .int .i64 (n + 4)] W fun e w' => Gave w.heap.size w' e (partE b mid (n.toNat + 4)) ∧ Below w.heap.size w w' := fun hle W hW => by
      have hBW := below_step HB1.out hW
      have := part_calls A c b mid (n.toNat + 4) W (Kd.C_below HR.out hBW) hc hb hl hmb (by omega) (by omega)
      rw [show ((n.toNat + 4 : Nat) : Int) = n + 4 by omega] at this
      refine this.mono fun e w' ⟨hg, hb'⟩ => ⟨?_, below_step hBW hb'⟩
      cases hpp : partE b mid (n.toNat + 4) with
      | error k => rw [hpp] at hg; exact hg
      | ok r =>
        obtain ⟨y, m⟩ := r
        rw [hpp] at hg
        obtain ⟨v, he, hr⟩ := hg
        exact ⟨v, he, Kd.R_lower hr hBW.size⟩
    rw [hn] at he
    rw [hn] at hget
    rw [hn] at hn2 hn0
    have H2 := Lib.hid h2
    have HGET := Lib.hid hget
    have HE := Lib.hid he
    clear h2 hget he hp hb1 H1 hr1 hC1 hCb hbx hn hn1 hxl hx4 hm
    go_wp2_with fail
    refine HGET.out.mono ?_
    rintro e w2 ⟨rfl, hb2⟩
    have HB2 := Lib.hid (below_step HB1.out hb2)
    by_cases hbig : 1048576 < n
    · clear hb2
      go_wp2_with fail
      refine ⟨rfl, ?_⟩
      rw [HE.out, if_pos hbig]
      exact ⟨rfl, HB2.out⟩
    · have h3 := H2.out (by omega) w2 hb2
      have he2 := HE.out
      rw [if_neg hbig] at he2
      have H3 := Lib.hid h3
      have HE2 := Lib.hid he2
      clear h3 he2 hb2 HE
      go_wp2_with fail
      refine H3.out.mono ?_
      rintro e w3 ⟨hg, hb3⟩
      have HB3 := Lib.hid hb3
      cases hp : partE b mid (n.toNat + 4) with
      | error k =>
        rw [hp] at hg HE2
        simp only [Gave, fell] at hg
        subst hg
        clear hb3 hp H3
        refine ⟨rfl, ?_⟩
        rw [HE2.out]
        exact ⟨rfl, HB3.out⟩
      | ok r =>
        obtain ⟨y, m⟩ := r
        rw [hp] at hg HE2
        simp only [Gave] at hg
        obtain ⟨v, rfl, hr3⟩ := hg
        have HR3 := Lib.hid hr3
        clear hb3 hp H3 hr3
        go_wp2_with fail
        go_ret2
        rw [HE2.out]
        exact ⟨⟨v, rfl, HR3.out⟩, HB3.out⟩
end Go.Proofs.Ytmklmpajcomimaa.Hand
end

section
/- A header's bytes, read; the last frame's. -/
namespace Go.Proofs.Ytmklmpajcomimaa.Hand
open Go.RowKit Go.Proofs.YtmklmpajcomimaaW.PrintWords Go.Proofs.YtmklmpajcomimaaW.PrintLast Go.Proofs.YtmklmpajcomimaaW.PrintMore Go.Proofs.Ytmklmpajcomimaa.PTraceWrites Go.Proofs.Ytmklmpajcomimaa.CrcMath
set_option linter.unusedVariables false
set_option linter.unusedSimpArgs false
attribute [local go_sem ↓] Go.wp_at_zero Go.wp_at_succ
/-- A header's bytes, read: the seed, the room, the digest. -/
def headerE (x : List Int) : Except Int (Int × Int × Int) :=
  if x.length < 14 ∨ rd x 0 ≠ 255 then .error 212
  else if (getP (x.drop 9)).2 = 0 ∨ 2199023255552 < (getP (x.drop 9)).1 ∨ x.length ≠ 13 + (getP (x.drop 9)).2 then .error 212
  else .ok (getN ((x.take 9).drop 1), (getP (x.drop 9)).1, getN (x.drop (9 + (getP (x.drop 9)).2)))
/-- How a header's reading ends. -/
def GaveH (e : Ending) : Except Int (Int × Int × Int) → Prop
  | .error n => e = fell n
  | .ok (s, r, d) => e = .returned (.agg #[.int .u64 s, .int .i64 r, .int .u32 d])
set_option maxHeartbeats 8000000 in
set_option maxRecDepth 100000 in
theorem header_calls (A : Option Addr) (c : Nat) (b : List Int) (w : World) (hr : Kd.C (Kd.int .u8) w A b.length b) (hc : b.length ≤ c) (hb : Bytes b) (hl : b.length ≤ 10000000) :
    Calls Try.prog 45 #[.slice A b.length c] w fun e w' => GaveH e (headerE b) ∧ Below w.heap.size w w' := by
  have hb1 := below_alloc (Below.refl w.heap.size w) (.cells #[.int .u64 0, .int .i64 0, .int .u32 0] 33 (0, 0))
  have hg1 := blk_new w (.cells #[.int .u64 0, .int .i64 0, .int .u32 0] 33 (0, 0))
  obtain ⟨w1, hw1⟩ : ∃ w1, w.alloc (.cells #[.int .u64 0, .int .i64 0, .int .u32 0] 33 (0, 0)) = w1 := ⟨_, rfl⟩
  rw [hw1] at hb1 hg1
  have HB1 := Lib.hid hb1
  have HG1 := Lib.hid hg1
  have HR1 := Lib.hid (Kd.C_below hr hb1)
  clear hb1 hg1 hr
  by_cases h14 : b.length < 14
  · have he : headerE b = .error 212 := if_pos (.inl h14)
    have HE := Lib.hid he
    have hd : (b.length : Int) < 14 := by omega
    clear he h14 HR1 hb
    go_enter Try.func45, Try.ntmps45
    go_wp2_with fail
    (try rw [hw1])
    refine (must_no w1).mono ?_
    rintro e w2 ⟨he, rfl⟩
    simp only [fell] at he
    subst he
    refine ⟨rfl, ?_⟩
    rw [HE.out]
    exact ⟨rfl, HB1.out⟩
  · have hge : (14 : Int) ≤ (b.length : Int) := by omega
    obtain ⟨ad, rfl, hx⟩ := Kd.at_int HR1.out 0 (by omega) (by omega)
    have hx0 : w1.cell? ad = some (.int .u8 (rd b 0)) := hx
    clear hx
    by_cases h255 : rd b 0 = 255
    · have hq : (rd b 0 == 255) = true := beq_iff_eq.mpr h255
      have hlt : 0 < b.length := by omega
      have hC9 := Kd.C_drop (m := 9) HR1.out (by omega) hc
      rw [if_neg (show ¬ c = 9 by omega)] at hC9
      have hsz : ∀ k, k * (Kd.int .u8).sz = k := fun k => Nat.mul_one k
      rw [hsz] at hC9
      simp only [Option.map_some] at hC9
      have h9l : (b.drop 9).length = b.length - 9 := List.length_drop ..
      obtain ⟨n, k, hgp⟩ : ∃ n k, getP (b.drop 9) = (n, k) := ⟨_, _, rfl⟩
      have hgf := getP_facts hgp
      have hgi := get_is (b.drop 9) (hb.drop 9) (by omega)
      rw [hgp] at hgi
      have hget := leb_Get.calls 50 (some (ad.add 9)) (c - 9) (b.drop 9) n (k : Int) w1 hC9 (by omega) hgi
      rw [h9l] at hget hgf
      have HGET := Lib.hid hget
      have hc9 : (9 : Int) ≤ (c : Int) := by omega
      have h9 : (9 : Int) ≤ (b.length : Int) := by omega
      have hne9 : (c = 9) = False := eq_false (by omega)
      have hhe : headerE b = if k = 0 ∨ 2199023255552 < n ∨ b.length ≠ 13 + k then .error 212 else .ok (getN ((b.take 9).drop 1), n, getN (b.drop (9 + k))) := by
        unfold headerE
        rw [if_neg (by omega), hgp]
      have HHE := Lib.hid hhe
      clear hhe hget hgi hgp hC9 h9l h14 h255
      go_enter Try.func45, Try.ntmps45
      go_wp2_with fail
      (try rw [hw1])
      refine (must_yes w1).mono ?_
      rintro e w2 ⟨rfl, rfl⟩
      go_wp2_with fail
      refine HGET.out.mono ?_
      rintro e w2 ⟨rfl, hb2⟩
      have HB2 := Lib.hid (below_step HB1.out hb2)
      have HR2 := Lib.hid (Kd.C_below HR1.out hb2)
      have HG2 := Lib.hid ((hb2.block w.heap.size (blk_lt HG1.out)).trans HG1.out)
      clear hb2 HGET hx0
      by_cases hk0 : k = 0
      · have HE := Lib.hid (HHE.out.trans (if_pos (.inl hk0)))
        have hk0' : ¬ (0 : Int) < (k : Int) := by omega
        clear hk0 HHE hgf
        go_wp2_with fail
        refine (must_no w2).mono ?_
        rintro e w3 ⟨he, rfl⟩
        simp only [fell] at he
        subst he
        refine ⟨rfl, ?_⟩
        rw [HE.out]
        exact ⟨rfl, HB2.out⟩
      by_cases hn41 : 2199023255552 < n
      · have HE := Lib.hid (HHE.out.trans (if_pos (.inr (.inl hn41))))
        have hk0' : (0 : Int) < (k : Int) := by omega
        clear hk0 HHE hgf
        go_wp2_with fail
        refine (must_no w2).mono ?_
        rintro e w3 ⟨he, rfl⟩
        simp only [fell] at he
        subst he
        refine ⟨rfl, ?_⟩
        rw [HE.out]
        exact ⟨rfl, HB2.out⟩
      by_cases hln : b.length ≠ 13 + k
      · have HE := Lib.hid (HHE.out.trans (if_pos (.inr (.inr hln))))
        have hk0' : (0 : Int) < (k : Int) := by omega
        have hle' : n ≤ 2199023255552 := by omega
        have hlq : ((b.length : Int) == 13 + (k : Int)) = false := beq_eq_false_iff_ne.mpr (by omega)
        have hk9 : (k : Int) ≤ 9 := by omega
        clear hk0 HHE hgf hln hn41
        go_wp2_with fail
        refine (must_no w2).mono ?_
        rintro e w3 ⟨he, rfl⟩
        simp only [fell] at he
        subst he
        refine ⟨rfl, ?_⟩
        rw [HE.out]
        exact ⟨rfl, HB2.out⟩
      have HE := Lib.hid (HHE.out.trans (if_neg (by omega)))
      have hk0' : (0 : Int) < (k : Int) := by omega
      have hle' : n ≤ 2199023255552 := by omega
      have hlq : ((b.length : Int) == 13 + (k : Int)) = true := beq_iff_eq.mpr (by omega)
      have hk9 : (k : Int) ≤ 9 := by omega
      have hlk : b.length = 13 + k := by omega
      have HLK := Lib.hid hlk
      clear hk0 HHE hgf hln hn41 hlk
      go_wp2_with fail
      refine (must_yes w2).mono ?_
      rintro e w3 ⟨rfl, rfl⟩
      go_wp2_with fail
      obtain ⟨g, hg⟩ : ∃ g, w.heap.size = g := ⟨_, rfl⟩
      have hC1 := Kd.C_mid (lo := 1) (hi := 9) HR2.out (by omega) (by omega) hc
      have hC2 := Kd.C_drop (m := 9 + k) HR2.out (by have := HLK.out; omega) hc
      rw [if_neg (show ¬ c = 1 by omega)] at hC1
      rw [if_neg (show ¬ c = 9 + k by have := HLK.out; omega)] at hC2
      rw [hsz] at hC1 hC2
      simp only [Option.map_some] at hC1 hC2
      have hl1 : ((b.take 9).drop 1).length = 8 := by rw [List.length_drop, List.length_take]; omega
      have hl2 : (b.drop (9 + k)).length = b.length - (9 + k) := List.length_drop ..
      have h64 := fun (W : World) (hW : Below w2.heap.size w2 W) => get64_calls (some (ad.add 1)) (c - 1) ((b.take 9).drop 1) W (Kd.C_below hC1 hW) ((hb.take 9).drop 1) (by omega)
      have h32 := fun (W : World) (hW : Below w2.heap.size w2 W) => get32_calls (some (ad.add (9 + k))) (c - (9 + k)) (b.drop (9 + k)) W (Kd.C_below hC2 hW) (hb.drop (9 + k)) (by have := HLK.out; omega)
      rw [hl1] at h64
      rw [hl2] at h32
      generalize getN ((b.take 9).drop 1) = sd at h64 HE
      generalize getN (b.drop (9 + k)) = dg at h32 HE
      have H64 := Lib.hid h64
      have H32 := Lib.hid h32
      obtain ⟨m, hm⟩ : ∃ m : Nat, m = 9 + k := ⟨_, rfl⟩
      have hmi : (9 : Int) + (k : Int) = (m : Int) := by omega
      have hml : (m : Int) ≤ (b.length : Int) := by have := HLK.out; omega
      have hmc : (m : Int) ≤ (c : Int) := by omega
      have hmne : (c = m) = False := eq_false (by have := HLK.out; omega)
      have hne1 : (c = 1) = False := eq_false (by omega)
      rw [← hm] at H32
      rw [hg] at HG2 HB2 ⊢
      have HBW := Lib.hid (below_drew (Below.refl w2.heap.size w2))
      have hwm : IntKind.i64.wrap (m : Int) = (m : Int) := by rw [i64_w]; exact wrap_of (by omega) (by omega)
      clear h64 h32 hC1 hC2 hl1 hl2 hm HB1 HG1 HR1 HR2 hw1 hb hlq hq
      go_region_held3 (fun W => True) (trivial) (first | (go_at_call 58; refine (H64.out _ HBW.out).mono ?_; rintro e w4 ⟨rfl, hb4⟩) | (go_at_call 56; refine (H32.out _ (below_step HBW.out hb4)).mono ?_; rintro e w5 ⟨rfl, hb5⟩; have hbb := below_step (below_step HBW.out hb4) hb5; have hblk := (hbb.block g (blk_lt HG2.out)).trans HG2.out; have hcc0 := blk_cell hblk 0; have hcc1 := blk_cell hblk 1; have hcc2 := blk_cell hblk 2; have hff := fun i => blk_frozen hblk i))
      have HBB := Lib.hid (HB2.out.trans (hbb.mono (by have := blk_lt HG2.out; omega)))
      go_wp2_with fail
      refine bodyPost_ret (v := .agg #[.int .u64 sd, .int .i64 n, .int .u32 dg]) (by simp [results, Try.results45, go_sem, hcc0, hcc1, hcc2]) rfl ?_
      rw [HE.out]
      refine ⟨rfl, ?_⟩
      rw [hg]
      exact ((HBB.out.setCell (p := ⟨g, 0, none⟩) (Nat.le_refl _) _).setCell (p := ⟨g, 1, none⟩) (Nat.le_refl _) _).setCell (p := ⟨g, 2, none⟩) (Nat.le_refl _) _
    · have he : headerE b = .error 212 := if_pos (.inr h255)
      have HE := Lib.hid he
      have hq : (rd b 0 == 255) = false := beq_eq_false_iff_ne.mpr h255
      have hlt : 0 < b.length := by omega
      clear he h14 HR1 hb h255
      go_enter Try.func45, Try.ntmps45
      go_wp2_with fail
      (try rw [hw1])
      refine (must_no w1).mono ?_
      rintro e w2 ⟨he, rfl⟩
      simp only [fell] at he
      subst he
      refine ⟨rfl, ?_⟩
      rw [HE.out]
      exact ⟨rfl, HB1.out⟩
/-- Are these the last frame's bytes, of so many records? -/
def endsE (x : List Int) (n : Int) : Except Int Bool :=
  if x.length = 0 ∨ rd x 0 ≠ 0 then .ok false
  else if (getP (x.drop 1)).2 = 0 ∨ (getP (x.drop 1)).2 ≠ x.length - 1 ∨ (getP (x.drop 1)).1 ≠ n then .error 212
  else .ok true
def GaveB (e : Ending) : Except Int Bool → Prop
  | .error n => e = fell n
  | .ok b => e = .returned (.bool b)
set_option maxHeartbeats 8000000 in
set_option maxRecDepth 100000 in
theorem ends_calls (A : Option Addr) (c : Nat) (b : List Int) (n : Int) (w : World) (hr : Kd.C (Kd.int .u8) w A b.length b) (hc : b.length ≤ c) (hb : Bytes b) (hl : b.length ≤ 10000000) :
    Calls Try.prog 46 #[.slice A b.length c, .int .i64 n] w fun e w' => GaveB e (endsE b n) ∧ Below w.heap.size w w' := by
  have HB := Lib.hid (Below.refl w.heap.size w)
  by_cases h0 : b.length = 0
  · have HE := Lib.hid (show endsE b n = .ok false from if_pos (.inl h0))
    have hd : ((b.length : Int) == 0) = true := beq_iff_eq.mpr (by omega)
    clear hr h0 hb
    go_enter Try.func46, Try.ntmps46
    go_wp2_with fail
    go_ret
    rw [HE.out]
    exact ⟨rfl, HB.out⟩
  · obtain ⟨ad, rfl, hx⟩ := Kd.at_int hr 0 (by omega) (by omega)
    have hx0 : w.cell? ad = some (.int .u8 (rd b 0)) := hx
    clear hx
    have hd : ((b.length : Int) == 0) = false := beq_eq_false_iff_ne.mpr (by omega)
    have hlt : 0 < b.length := by omega
    by_cases hq : rd b 0 = 0
    · have hq1 : (rd b 0 == 0) = true := beq_iff_eq.mpr hq
      have hq2 : (rd b 0 != 0) = false := by simp [hq]
      obtain ⟨A1, hA1⟩ : ∃ A1, (if c = 1 then some ad else some (ad.add 1)) = A1 := ⟨_, rfl⟩
      have hC1 := Kd.C_drop (m := 1) hr (by omega) hc
      have hsz : ∀ k, k * (Kd.int .u8).sz = k := fun k => Nat.mul_one k
      rw [hsz] at hC1
      simp only [Option.map_some] at hC1
      rw [hA1] at hC1
      have h1l : (b.drop 1).length = b.length - 1 := List.length_drop ..
      obtain ⟨m, k, hgp⟩ : ∃ m k, getP (b.drop 1) = (m, k) := ⟨_, _, rfl⟩
      have hgf := getP_facts hgp
      have hgi := get_is (b.drop 1) (hb.drop 1) (by omega)
      rw [hgp] at hgi
      have hget := leb_Get.calls 50 A1 (c - 1) (b.drop 1) m (k : Int) w hC1 (by omega) hgi
      rw [h1l] at hget hgf
      have HGET := Lib.hid hget
      have hee : endsE b n = if k = 0 ∨ k ≠ b.length - 1 ∨ m ≠ n then .error 212 else .ok true := by
        unfold endsE
        rw [if_neg (by omega), hgp]
      have HHE := Lib.hid hee
      have h1c : (1 : Int) ≤ (c : Int) := by omega
      have h1b : (1 : Int) ≤ (b.length : Int) := by omega
      have hk9 : (k : Int) ≤ 9 := by omega
      have hk0 : (0 : Int) ≤ (k : Int) := by omega
      have HGF := Lib.hid hgf
      clear hee hget hgi hgp hC1 h1l hr hb h0 hq hgf
      by_cases hc1 : c = 1
      · have hcp : (c = 1) = True := eq_true hc1
        rw [if_pos hc1] at hA1
        subst hA1
        clear hc1
        by_cases hkp : (0 : Int) < (k : Int)
        · exfalso; have := HGF.out; have : c = 1 := of_eq_true hcp; omega
        · have HE := Lib.hid (HHE.out.trans (if_pos (.inl (by omega))))
          clear HHE
          go_enter Try.func46, Try.ntmps46
          go_wp2_with fail
          refine HGET.out.mono ?_
          rintro e w2 ⟨rfl, hb2⟩
          have HB2 := Lib.hid hb2
          clear hb2
          go_wp2_with fail
          refine (must_no w2).mono ?_
          rintro e w3 ⟨he, rfl⟩
          simp only [fell] at he
          subst he
          refine ⟨rfl, ?_⟩
          rw [HE.out]
          exact ⟨rfl, HB2.out⟩
      · have hcp : (c = 1) = False := eq_false hc1
        rw [if_neg hc1] at hA1
        subst hA1
        clear hc1
        by_cases hkp : (0 : Int) < (k : Int)
        · by_cases hk1 : (k : Int) = (b.length : Int) - 1
          · have hk1' : ((k : Int) == (b.length : Int) - 1) = true := beq_iff_eq.mpr hk1
            by_cases hmn : m = n
            · have hmn' : (m == n) = true := beq_iff_eq.mpr hmn
              have HE := Lib.hid (HHE.out.trans (if_neg (by omega)))
              clear HHE hmn hk1
              go_enter Try.func46, Try.ntmps46
              go_wp2_with fail
              refine HGET.out.mono ?_
              rintro e w2 ⟨rfl, hb2⟩
              have HB2 := Lib.hid hb2
              clear hb2
              go_wp2_with fail
              refine (must_yes w2).mono ?_
              rintro e w3 ⟨rfl, rfl⟩
              go_wp2_with fail
              go_ret
              rw [HE.out]
              exact ⟨rfl, HB2.out⟩
            · have hmn' : (m == n) = false := beq_eq_false_iff_ne.mpr hmn
              have HE := Lib.hid (HHE.out.trans (if_pos (.inr (.inr hmn))))
              clear HHE hmn hk1
              go_enter Try.func46, Try.ntmps46
              go_wp2_with fail
              refine HGET.out.mono ?_
              rintro e w2 ⟨rfl, hb2⟩
              have HB2 := Lib.hid hb2
              clear hb2
              go_wp2_with fail
              refine (must_no w2).mono ?_
              rintro e w3 ⟨he, rfl⟩
              simp only [fell] at he
              subst he
              refine ⟨rfl, ?_⟩
              rw [HE.out]
              exact ⟨rfl, HB2.out⟩
          · have hk1' : ((k : Int) == (b.length : Int) - 1) = false := beq_eq_false_iff_ne.mpr hk1
            have HE := Lib.hid (HHE.out.trans (if_pos (.inr (.inl (by omega)))))
            clear HHE hk1
            go_enter Try.func46, Try.ntmps46
            go_wp2_with fail
            refine HGET.out.mono ?_
            rintro e w2 ⟨rfl, hb2⟩
            have HB2 := Lib.hid hb2
            clear hb2
            go_wp2_with fail
            refine (must_no w2).mono ?_
            rintro e w3 ⟨he, rfl⟩
            simp only [fell] at he
            subst he
            refine ⟨rfl, ?_⟩
            rw [HE.out]
            exact ⟨rfl, HB2.out⟩
        · have HE := Lib.hid (HHE.out.trans (if_pos (.inl (by omega))))
          clear HHE
          go_enter Try.func46, Try.ntmps46
          go_wp2_with fail
          refine HGET.out.mono ?_
          rintro e w2 ⟨rfl, hb2⟩
          have HB2 := Lib.hid hb2
          clear hb2
          go_wp2_with fail
          refine (must_no w2).mono ?_
          rintro e w3 ⟨he, rfl⟩
          simp only [fell] at he
          subst he
          refine ⟨rfl, ?_⟩
          rw [HE.out]
          exact ⟨rfl, HB2.out⟩
    · have HE := Lib.hid (show endsE b n = .ok false from if_pos (.inr hq))
      have hq1 : (rd b 0 != 0) = true := by simp [hq]
      have hq2 : (rd b 0 == 0) = false := beq_eq_false_iff_ne.mpr hq
      clear hr h0 hb hq
      go_enter Try.func46, Try.ntmps46
      go_wp2_with fail
      go_ret
      rw [HE.out]
      exact ⟨rfl, HB.out⟩
end Go.Proofs.Ytmklmpajcomimaa.Hand
end
