/- Functions of the trace's laws and their walks: out of the print of TraceWrites; no condition beyond each theorem's own. -/
import Derived.Test.YtmklmpajcomimaaYPTraceWritesx0
import Derived.Test.YtmklmpajcomimaaYTrP4
import Derived.Test.YtmklmpajcomimaaYPTraceWritesx5
namespace Go.Proofs.Ytmklmpajcomimaa.PTraceWrites
open Go.RowKit Go.Proofs.YtmklmpajcomimaaW.PrintWords Go.Proofs.YtmklmpajcomimaaW.PrintLast Go.Proofs.YtmklmpajcomimaaW.PrintMore
attribute [local go_sem] max2_int min2_int max_two min_two max_three min_three max_four min_four   -- for this text's walks alone
set_option linter.unusedVariables false
set_option linter.unusedSimpArgs false

/-! ### chicaneref03_Sum: function 54 -/
mutual
def chicaneref03_Sum.l0 : Nat → ByteArray → List Bool → Int → Option (Int)
  | 0, _, _, _ => none
  | k + 1, x0, x3, x4 => if x4 < 32 then (if 0 ≤ x4 then (if x4 < (x3.length : Int) then (chicaneref03_Sum.l0 k x0 (x3.set (x4 : Int).toNat true) (wrap64 (x4 + 1))) else (none)) else (none)) else ((chicaneref03_Bits.f k x0).bind fun t186 => (chicaneref03_Sum.l1 k x3 t186 0))
def chicaneref03_Sum.l1 : Nat → List Bool → List Bool → Int → Option (Int)
  | 0, _, _, _ => none
  | k + 1, x3, x5, x6 => if x6 < (x5.length : Int) then (if 0 < (x3.length : Int) then (if 0 ≤ x6 then (if 32 ≤ 281474976710656 then (chicaneref03_Sum.l2 k x3 x5 x6 ((rdOf false x3 0) != (rdOf false x5 x6)) (List.replicate 32 false) 0) else (none)) else (none)) else (none)) else (chicaneref03_Sum.l4 k x3 0 31)
def chicaneref03_Sum.l2 : Nat → List Bool → List Bool → Int → Bool → List Bool → Int → Option (Int)
  | 0, _, _, _, _, _, _ => none
  | k + 1, x3, x5, x6, x7, x8, x9 => if x9 < 31 then (if 0 ≤ (wrap64 (x9 + 1)) then (if (wrap64 (x9 + 1)) < (x3.length : Int) then (if 0 ≤ x9 then (if x9 < (x8.length : Int) then (chicaneref03_Sum.l2 k x3 x5 x6 x7 (x8.set (x9 : Int).toNat (rdOf false x3 (wrap64 (x9 + 1)))) (wrap64 (x9 + 1))) else (none)) else (none)) else (none)) else (none)) else (if x7 = true then (chicaneref03_Sum.l3 k x5 x6 x8 3988292384 0) else (chicaneref03_Sum.l1 k x8 x5 (wrap64 (x6 + 1))))
def chicaneref03_Sum.l3 : Nat → List Bool → Int → List Bool → Int → Int → Option (Int)
  | 0, _, _, _, _, _ => none
  | k + 1, x5, x6, x8, x10, x11 => if x11 < 32 then (if 0 ≤ x11 then (if x11 < (x8.length : Int) then (chicaneref03_Sum.l3 k x5 x6 (x8.set (x11 : Int).toNat ((rdOf false x8 x11) != ((Int.tmod x10 2) == 1))) ((Int.tdiv x10 2) % 4294967296) (wrap64 (x11 + 1))) else (none)) else (none)) else (chicaneref03_Sum.l1 k x8 x5 (wrap64 (x6 + 1)))
def chicaneref03_Sum.l4 : Nat → List Bool → Int → Int → Option (Int)
  | 0, _, _, _ => none
  | k + 1, x3, x12, x13 => if x13 ≥ 0 then (if 0 ≤ x13 then (if x13 < (x3.length : Int) then (if rdOf false x3 x13 = true then (chicaneref03_Sum.l4 k x3 ((x12 * 2) % 4294967296) (wrap64 (x13 - 1))) else (chicaneref03_Sum.l4 k x3 ((((x12 * 2) % 4294967296) + 1) % 4294967296) (wrap64 (x13 - 1)))) else (none)) else (none)) else (some x12)
end
def chicaneref03_Sum.f (k : Nat) (a0 : ByteArray) : Option (Int) := if 32 ≤ 281474976710656 then (chicaneref03_Sum.l0 k a0 (List.replicate 32 false) 0) else (none)
theorem chicaneref03_Sum.mono_l : ∀ k, (∀ y0 y1 y2, LeO (chicaneref03_Sum.l0 k y0 y1 y2) (chicaneref03_Sum.l0 (k + 1) y0 y1 y2)) ∧ (∀ y0 y1 y2, LeO (chicaneref03_Sum.l1 k y0 y1 y2) (chicaneref03_Sum.l1 (k + 1) y0 y1 y2)) ∧ (∀ y0 y1 y2 y3 y4 y5, LeO (chicaneref03_Sum.l2 k y0 y1 y2 y3 y4 y5) (chicaneref03_Sum.l2 (k + 1) y0 y1 y2 y3 y4 y5)) ∧ (∀ y0 y1 y2 y3 y4, LeO (chicaneref03_Sum.l3 k y0 y1 y2 y3 y4) (chicaneref03_Sum.l3 (k + 1) y0 y1 y2 y3 y4)) ∧ (∀ y0 y1 y2, LeO (chicaneref03_Sum.l4 k y0 y1 y2) (chicaneref03_Sum.l4 (k + 1) y0 y1 y2))
  | 0 => ⟨fun _ _ _ r h => by simp [chicaneref03_Sum.l0] at h, fun _ _ _ r h => by simp [chicaneref03_Sum.l1] at h, fun _ _ _ _ _ _ r h => by simp [chicaneref03_Sum.l2] at h, fun _ _ _ _ _ r h => by simp [chicaneref03_Sum.l3] at h, fun _ _ _ r h => by simp [chicaneref03_Sum.l4] at h⟩
  | k + 1 => by
    obtain ⟨ih0, ih1, ih2, ih3, ih4⟩ := chicaneref03_Sum.mono_l k
    refine ⟨?_, ?_, ?_, ?_, ?_⟩
    · intro y0 y1 y2
      unfold chicaneref03_Sum.l0
      repeat' first
      | (with_reducible exact ih0 _ _ _)
      | (with_reducible exact ih1 _ _ _)
      | (with_reducible exact ih2 _ _ _ _ _ _)
      | (with_reducible exact ih3 _ _ _ _ _)
      | (with_reducible exact ih4 _ _ _)
      | (with_reducible exact chicaneref03_Bits.mono _ _)
      | (with_reducible exact LeO.refl _)
      | (with_reducible exact LeO.none _)
      | (with_reducible refine LeO.ite ?_ ?_)
      | (with_reducible refine LeO.bind ?_ (fun _ => ?_))
      | exact ih0 _ _ _
      | exact ih1 _ _ _
      | exact ih2 _ _ _ _ _ _
      | exact ih3 _ _ _ _ _
      | exact ih4 _ _ _
      | exact chicaneref03_Bits.mono _ _
      | exact LeO.none _
      | refine LeO.ite ?_ ?_
      | refine LeO.bind ?_ (fun _ => ?_)
    · intro y0 y1 y2
      unfold chicaneref03_Sum.l1
      repeat' first
      | (with_reducible exact ih0 _ _ _)
      | (with_reducible exact ih1 _ _ _)
      | (with_reducible exact ih2 _ _ _ _ _ _)
      | (with_reducible exact ih3 _ _ _ _ _)
      | (with_reducible exact ih4 _ _ _)
      | (with_reducible exact chicaneref03_Bits.mono _ _)
      | (with_reducible exact LeO.refl _)
      | (with_reducible exact LeO.none _)
      | (with_reducible refine LeO.ite ?_ ?_)
      | (with_reducible refine LeO.bind ?_ (fun _ => ?_))
      | exact ih0 _ _ _
      | exact ih1 _ _ _
      | exact ih2 _ _ _ _ _ _
      | exact ih3 _ _ _ _ _
      | exact ih4 _ _ _
      | exact chicaneref03_Bits.mono _ _
      | exact LeO.none _
      | refine LeO.ite ?_ ?_
      | refine LeO.bind ?_ (fun _ => ?_)
    · intro y0 y1 y2 y3 y4 y5
      unfold chicaneref03_Sum.l2
      repeat' first
      | (with_reducible exact ih0 _ _ _)
      | (with_reducible exact ih1 _ _ _)
      | (with_reducible exact ih2 _ _ _ _ _ _)
      | (with_reducible exact ih3 _ _ _ _ _)
      | (with_reducible exact ih4 _ _ _)
      | (with_reducible exact chicaneref03_Bits.mono _ _)
      | (with_reducible exact LeO.refl _)
      | (with_reducible exact LeO.none _)
      | (with_reducible refine LeO.ite ?_ ?_)
      | (with_reducible refine LeO.bind ?_ (fun _ => ?_))
      | exact ih0 _ _ _
      | exact ih1 _ _ _
      | exact ih2 _ _ _ _ _ _
      | exact ih3 _ _ _ _ _
      | exact ih4 _ _ _
      | exact chicaneref03_Bits.mono _ _
      | exact LeO.none _
      | refine LeO.ite ?_ ?_
      | refine LeO.bind ?_ (fun _ => ?_)
    · intro y0 y1 y2 y3 y4
      unfold chicaneref03_Sum.l3
      repeat' first
      | (with_reducible exact ih0 _ _ _)
      | (with_reducible exact ih1 _ _ _)
      | (with_reducible exact ih2 _ _ _ _ _ _)
      | (with_reducible exact ih3 _ _ _ _ _)
      | (with_reducible exact ih4 _ _ _)
      | (with_reducible exact chicaneref03_Bits.mono _ _)
      | (with_reducible exact LeO.refl _)
      | (with_reducible exact LeO.none _)
      | (with_reducible refine LeO.ite ?_ ?_)
      | (with_reducible refine LeO.bind ?_ (fun _ => ?_))
      | exact ih0 _ _ _
      | exact ih1 _ _ _
      | exact ih2 _ _ _ _ _ _
      | exact ih3 _ _ _ _ _
      | exact ih4 _ _ _
      | exact chicaneref03_Bits.mono _ _
      | exact LeO.none _
      | refine LeO.ite ?_ ?_
      | refine LeO.bind ?_ (fun _ => ?_)
    · intro y0 y1 y2
      unfold chicaneref03_Sum.l4
      repeat' first
      | (with_reducible exact ih0 _ _ _)
      | (with_reducible exact ih1 _ _ _)
      | (with_reducible exact ih2 _ _ _ _ _ _)
      | (with_reducible exact ih3 _ _ _ _ _)
      | (with_reducible exact ih4 _ _ _)
      | (with_reducible exact chicaneref03_Bits.mono _ _)
      | (with_reducible exact LeO.refl _)
      | (with_reducible exact LeO.none _)
      | (with_reducible refine LeO.ite ?_ ?_)
      | (with_reducible refine LeO.bind ?_ (fun _ => ?_))
      | exact ih0 _ _ _
      | exact ih1 _ _ _
      | exact ih2 _ _ _ _ _ _
      | exact ih3 _ _ _ _ _
      | exact ih4 _ _ _
      | exact chicaneref03_Bits.mono _ _
      | exact LeO.none _
      | refine LeO.ite ?_ ?_
      | refine LeO.bind ?_ (fun _ => ?_)
theorem chicaneref03_Sum.mono : ∀ a0 k, LeO (chicaneref03_Sum.f k a0) (chicaneref03_Sum.f (k + 1) a0) := by
  intro a0 k
  obtain ⟨ih0, ih1, ih2, ih3, ih4⟩ := chicaneref03_Sum.mono_l k
  unfold chicaneref03_Sum.f
  repeat' first
      | (with_reducible exact ih0 _ _ _)
      | (with_reducible exact ih1 _ _ _)
      | (with_reducible exact ih2 _ _ _ _ _ _)
      | (with_reducible exact ih3 _ _ _ _ _)
      | (with_reducible exact ih4 _ _ _)
      | (with_reducible exact chicaneref03_Bits.mono _ _)
      | (with_reducible exact LeO.refl _)
      | (with_reducible exact LeO.none _)
      | (with_reducible refine LeO.ite ?_ ?_)
      | (with_reducible refine LeO.bind ?_ (fun _ => ?_))
      | exact ih0 _ _ _
      | exact ih1 _ _ _
      | exact ih2 _ _ _ _ _ _
      | exact ih3 _ _ _ _ _
      | exact ih4 _ _ _
      | exact chicaneref03_Bits.mono _ _
      | exact LeO.none _
      | refine LeO.ite ?_ ?_
      | refine LeO.bind ?_ (fun _ => ?_)
set_option maxHeartbeats 8000000 in
set_option maxRecDepth 100000 in
theorem chicaneref03_Sum.calls (k : Nat) (a0 : ByteArray) (r : Int) (w : World) (h : chicaneref03_Sum.f k a0 = some r) :
    Calls Try.prog 54 #[.string a0] w fun e w' => e = .returned (.int .u32 r) ∧ Below w.heap.size w w' := by
  have HB := Aside0.mk (Below.refl w.heap.size w)
  have H : (if 32 ≤ 281474976710656 then (chicaneref03_Sum.l0 k a0 (List.replicate 32 false) 0) else (none)) = some r := h
  clear h
  by_cases c2 : 32 ≤ 281474976710656
  · rw [if_pos c2] at H
    have c2b0 := eq_true c2
    have c2b1 : decide (32 ≤ 281474976710656) = true := decide_eq_true c2
    clear c2
    obtain ⟨y182, hy182⟩ : ∃ y_ : List Bool, y_ = (List.replicate 32 false) := ⟨_, rfl⟩
    replace H : (chicaneref03_Sum.l0 k a0 y182 0) = some r := by first | (rw [hy182]; with_reducible exact H) | (have H2_ := (Option.bind_some _ _).symm.trans H; rw [hy182]; with_reducible exact H2_) | (have H2_ := (Option.bind_some _ _).symm.trans H; with_reducible exact H2_) | with_reducible exact H | (rw [hy182]; exact H) | exact H
    have Ny182 := Aside0.mk hy182
    clear hy182
    have H' := Aside0.mk H
    clear H
    go_enter Try.func54, Try.ntmps54
    go_wp2_with (first | ((with_reducible refine gate_dst (N := 14) rfl ?_); refine Kd.R_make Kd.bool _ 4 rfl (N := 14) rfl 97 _ _ rfl 32 rfl rfl Try.underlying97 (.bool false) 1 info4 rfl (by decide) (by omega) false (ok := fun _ => True) (okp := fun _ => True) rfl (fun _ hk => hk) trivial (by omega) (by omega) (Below.refl _ _) (Nat.le_refl _) ?_; intro v183 w3 ho4 hb hg_ hnew_; clear hg_ hnew_; (first | rw [← Ny182.out] at ho4 | (simp only [Int.reduceToNat] at ho4; rw [← Ny182.out] at ho4)); have n0_ := Aside0.mk (Kd.R_lower ho4 (below_size (by repeat (first | (with_reducible first | exact HB.out | apply below_alloc | apply pw_below_drewN | apply below_drew1) | exact HB.out)))); have n1_ := Aside0.mk (below_step (by repeat (first | (with_reducible first | exact HB.out | apply below_alloc | apply pw_below_drewN | apply below_drew1) | exact HB.out)) hb); clear HB; have HO184 := n0_; have HB := n1_; clear n0_ n1_; clear hb ho4))
    repeat (go_quiet (first | ((with_reducible refine gate_dst (N := 14) rfl ?_); refine Kd.R_make Kd.bool _ 4 rfl (N := 14) rfl 97 _ _ rfl 32 rfl rfl Try.underlying97 (.bool false) 1 info4 rfl (by decide) (by omega) false (ok := fun _ => True) (okp := fun _ => True) rfl (fun _ hk => hk) trivial (by omega) (by omega) (Below.refl _ _) (Nat.le_refl _) ?_; intro v183 w3 ho4 hb hg_ hnew_; clear hg_ hnew_; (first | rw [← Ny182.out] at ho4 | (simp only [Int.reduceToNat] at ho4; rw [← Ny182.out] at ho4)); have n0_ := Aside0.mk (Kd.R_lower ho4 (below_size (by repeat (first | (with_reducible first | exact HB.out | apply below_alloc | apply pw_below_drewN | apply below_drew1) | exact HB.out)))); have n1_ := Aside0.mk (below_step (by repeat (first | (with_reducible first | exact HB.out | apply below_alloc | apply pw_below_drewN | apply below_drew1) | exact HB.out)) hb); clear HB; have HO184 := n0_; have HB := n1_; clear n0_ n1_; clear hb ho4)); try go_wp2_with (first | ((with_reducible refine gate_dst (N := 14) rfl ?_); refine Kd.R_make Kd.bool _ 4 rfl (N := 14) rfl 97 _ _ rfl 32 rfl rfl Try.underlying97 (.bool false) 1 info4 rfl (by decide) (by omega) false (ok := fun _ => True) (okp := fun _ => True) rfl (fun _ hk => hk) trivial (by omega) (by omega) (Below.refl _ _) (Nat.le_refl _) ?_; intro v183 w3 ho4 hb hg_ hnew_; clear hg_ hnew_; (first | rw [← Ny182.out] at ho4 | (simp only [Int.reduceToNat] at ho4; rw [← Ny182.out] at ho4)); have n0_ := Aside0.mk (Kd.R_lower ho4 (below_size (by repeat (first | (with_reducible first | exact HB.out | apply below_alloc | apply pw_below_drewN | apply below_drew1) | exact HB.out)))); have n1_ := Aside0.mk (below_step (by repeat (first | (with_reducible first | exact HB.out | apply below_alloc | apply pw_below_drewN | apply below_drew1) | exact HB.out)) hb); clear HB; have HO184 := n0_; have HB := n1_; clear n0_ n1_; clear hb ho4)))
    go_loopg [4] k (fun kq v4 w' => ∃ (x3_1 : List Bool) (x4_1 : Int), v4 = .int .i64 x4_1 ∧ Aside0 (chicaneref03_Sum.l0 kq a0 x3_1 x4_1 = some r) ∧ Aside0 (kq ≤ k) ∧ Aside0 (Kd.R Kd.bool 4 w' w.heap.size (fun _ => True) v183 x3_1) ∧ Aside0 (Below w.heap.size w w'))
    case atStart => exact ⟨(y182), (0), (by first | rfl | (simp; done) | (simp [*]; done) | (simp; omega) | (congr 1; omega)), H', ⟨Nat.le_refl _⟩, ⟨by (with_reducible repeat (first | apply Kd.R_alloc | apply Kd.R_drewN | apply Kd.R_drew)); exact HO184.out⟩, ⟨by repeat (first | (with_reducible first | exact HB.out | apply below_alloc | apply pw_below_drewN | apply below_drew1) | exact HB.out)⟩⟩
    case round =>
      clear H'
      try clear c2
      try clear c2b0
      try clear c2b1
      try clear p2
      obtain ⟨x3_1, x4_1, rfl, HA, HK1, HO_3, HB⟩ := hrel
      cases gk with
      | zero => exact absurd HA.out (by simp [chicaneref03_Sum.l0])
      | succ k1 =>
        have H := HA.out
        clear HA
        simp only [chicaneref03_Sum.l0] at H
        by_cases c5 : x4_1 < 32
        · rw [if_pos c5] at H
          have c5b0 : decide (x4_1 < 32) = true := decide_eq_true c5
          clear c5
          by_cases c6 : 0 ≤ x4_1
          · rw [if_pos c6] at H
            have c6b0 : decide (0 ≤ x4_1) = true := decide_eq_true c6
            clear c6
            by_cases c7 : x4_1 < (x3_1.length : Int)
            · rw [if_pos c7] at H
              have c7b0 : decide (x4_1 < (x3_1.length : Int)) = true := decide_eq_true c7
              clear c7
              obtain ⟨y185, hy185⟩ : ∃ y_ : List Bool, y_ = (x3_1.set (x4_1 : Int).toNat true) := ⟨_, rfl⟩
              replace H : (chicaneref03_Sum.l0 k1 a0 y185 (wrap64 (x4_1 + 1))) = some r := by first | (rw [hy185]; with_reducible exact H) | (have H2_ := (Option.bind_some _ _).symm.trans H; rw [hy185]; with_reducible exact H2_) | (have H2_ := (Option.bind_some _ _).symm.trans H; with_reducible exact H2_) | with_reducible exact H | (rw [hy185]; exact H) | exact H
              have Ny185 := Aside0.mk hy185
              clear hy185
              have H' := Aside0.mk H
              clear H
              have p8 : 0 ≤ (x4_1 : Int) := of_decide_eq_true (by first | (with_reducible assumption) | assumption)
              have q8 : (x4_1 : Int) < ((x3_1.length : Int) : Int) := of_decide_eq_true (by first | (with_reducible assumption) | assumption)
              obtain ⟨go8, co8, eo8, gb8, gl8, cl8, HG8⟩ := Kd.R_form HO_3.out (by omega)
              (first | cases eo8 | (injection eo8 with ea_ en_ ec_; (first | subst ea_ | (injection ea_ with ea_; subst ea_)); subst ec_; clear en_))
              have GB8 := Aside0.mk gb8
              have GG8 := Aside0.mk HG8
              clear gb8 gl8 HG8
              obtain ⟨hx8_0, hf8_0⟩ := Kd.R_celln false HO_3.out (x4_1 : Int) p8 q8
              replace p8 := eq_true p8
              replace q8 := eq_true q8
              have HP9 := Kd.R_putg HO_3.out (x4_1 : Int) true
              go_wp2_with (first | ((with_reducible refine gate_store (t := 4) (p := 21) rfl ?_); (try (rw [drewN_self wr]; generalize hq_ : World.drewN wr _ = wr; have n0_ := Aside0.mk (Kd.R_at hq_ HO_3.out); have n1_ := Aside0.mk (below_at hq_ HB.out); clear hq_ HO_3 HB; have HO_3 := n0_; have HB := n1_; clear n0_ n1_; (try (have HP9 := Kd.R_putg HO_3.out (x4_1 : Int) true)))); refine store_event (t := 4) (p := 21) (v := ?vo_w10) (w1 := (wr.setCell ⟨go8, (x4_1 : Int).toNat, none⟩ (.bool true))) ?hg ?ho ?hn ?hr ?_; (case ho => rfl); (case hg => rfl); (case hn => rfl); (case hr => first | (go_simp; done) | (go_simp; rfl)); intro w10 hw; have hg : wr.grownBy w10 (some go8) := (by rw [hw]; exact HP9.2); have hp_ : Kd.R Kd.bool 4 w10 w.heap.size (fun _ => True) (.slice (some ⟨go8, 0, none⟩) x3_1.length co8) y185 := (by rw [hw, Ny185.out]; exact HP9.1); clear HP9; have n0_ := Aside0.mk (hp_); have n1_ := Aside0.mk ((by rw [hw]; exact below_set (HB.out) GB8.out : Below w.heap.size w w10)); clear HO_3; clear HB; have HO_3 := n0_; have HB := n1_; clear n0_ n1_; clear hg hw hp_))
              repeat (go_quiet (first | ((with_reducible refine gate_store (t := 4) (p := 21) rfl ?_); (try (rw [drewN_self wr]; generalize hq_ : World.drewN wr _ = wr; have n0_ := Aside0.mk (Kd.R_at hq_ HO_3.out); have n1_ := Aside0.mk (below_at hq_ HB.out); clear hq_ HO_3 HB; have HO_3 := n0_; have HB := n1_; clear n0_ n1_; (try (have HP9 := Kd.R_putg HO_3.out (x4_1 : Int) true)))); refine store_event (t := 4) (p := 21) (v := ?vo_w10) (w1 := (wr.setCell ⟨go8, (x4_1 : Int).toNat, none⟩ (.bool true))) ?hg ?ho ?hn ?hr ?_; (case ho => rfl); (case hg => rfl); (case hn => rfl); (case hr => first | (go_simp; done) | (go_simp; rfl)); intro w10 hw; have hg : wr.grownBy w10 (some go8) := (by rw [hw]; exact HP9.2); have hp_ : Kd.R Kd.bool 4 w10 w.heap.size (fun _ => True) (.slice (some ⟨go8, 0, none⟩) x3_1.length co8) y185 := (by rw [hw, Ny185.out]; exact HP9.1); clear HP9; have n0_ := Aside0.mk (hp_); have n1_ := Aside0.mk ((by rw [hw]; exact below_set (HB.out) GB8.out : Below w.heap.size w w10)); clear HO_3; clear HB; have HO_3 := n0_; have HB := n1_; clear n0_ n1_; clear hg hw hp_)); try go_wp2_with (first | ((with_reducible refine gate_store (t := 4) (p := 21) rfl ?_); (try (rw [drewN_self wr]; generalize hq_ : World.drewN wr _ = wr; have n0_ := Aside0.mk (Kd.R_at hq_ HO_3.out); have n1_ := Aside0.mk (below_at hq_ HB.out); clear hq_ HO_3 HB; have HO_3 := n0_; have HB := n1_; clear n0_ n1_; (try (have HP9 := Kd.R_putg HO_3.out (x4_1 : Int) true)))); refine store_event (t := 4) (p := 21) (v := ?vo_w10) (w1 := (wr.setCell ⟨go8, (x4_1 : Int).toNat, none⟩ (.bool true))) ?hg ?ho ?hn ?hr ?_; (case ho => rfl); (case hg => rfl); (case hn => rfl); (case hr => first | (go_simp; done) | (go_simp; rfl)); intro w10 hw; have hg : wr.grownBy w10 (some go8) := (by rw [hw]; exact HP9.2); have hp_ : Kd.R Kd.bool 4 w10 w.heap.size (fun _ => True) (.slice (some ⟨go8, 0, none⟩) x3_1.length co8) y185 := (by rw [hw, Ny185.out]; exact HP9.1); clear HP9; have n0_ := Aside0.mk (hp_); have n1_ := Aside0.mk ((by rw [hw]; exact below_set (HB.out) GB8.out : Below w.heap.size w w10)); clear HO_3; clear HB; have HO_3 := n0_; have HB := n1_; clear n0_ n1_; clear hg hw hp_)))
              go_roundg k1
              case measure => have := HK1.out; omega
              case rel => exact ⟨(y185), (wrap64 (x4_1 + 1)), (by first | rfl | (simp; done) | (simp [*]; done) | (simp; omega) | (congr 1; omega)), H', ⟨by have := HK1.out; omega⟩, ⟨by (with_reducible repeat (first | apply Kd.R_alloc | apply Kd.R_drewN | apply Kd.R_drew)); exact HO_3.out⟩, ⟨by repeat (first | (with_reducible first | exact HB.out | apply below_alloc | apply pw_below_drewN | apply below_drew1) | exact HB.out)⟩⟩
            · rw [if_neg c7] at H
              exact absurd H (by simp)
          · rw [if_neg c6] at H
            exact absurd H (by simp)
        · rw [if_neg c5] at H
          have c5b0 : decide (x4_1 < 32) = false := decide_eq_false c5
          clear c5
          replace H := Option.bind_eq_some_iff.mp H
          obtain ⟨t186, A110, H⟩ := H
          replace H : (chicaneref03_Sum.l1 k1 x3_1 t186 0) = some r := H
          have A11 := Aside0.mk A110
          clear A110
          have H' := Aside0.mk H
          clear H
          go_wp2_with (first | (go_at_call 65; (with_reducible refine (chicaneref03_Bits.calls k1 a0 t186 _ A11.out).mono ?_); rintro e w12 ⟨v187, rfl, ho0, hb⟩; have n0_ := Aside0.mk (Kd.R_elder' (by (with_reducible repeat (first | apply Kd.R_alloc | apply Kd.R_drewN | apply Kd.R_drew)); exact HO_3.out) (Kd.R_base ho0) hb); have n1_ := Aside0.mk (Kd.R_lower (Kd.R_new' ho0 (Kd.R_lt (by (with_reducible repeat (first | apply Kd.R_alloc | apply Kd.R_drewN | apply Kd.R_drew)); exact HO_3.out))) (below_size (by repeat (first | (with_reducible first | exact HB.out | apply below_alloc | apply pw_below_drewN | apply below_drew1) | exact HB.out)))); have n2_ := Aside0.mk (below_step (by repeat (first | (with_reducible first | exact HB.out | apply below_alloc | apply pw_below_drewN | apply below_drew1) | exact HB.out)) hb); clear HO_3; clear HB; have HO_3 := n0_; have HO188 := n1_; have HB := n2_; clear n0_ n1_ n2_; (try clear hb); (try clear hb2); (try clear hk); (try clear hi); (try clear ho0)))
          repeat (go_quiet (first | (go_at_call 65; (with_reducible refine (chicaneref03_Bits.calls k1 a0 t186 _ A11.out).mono ?_); rintro e w12 ⟨v187, rfl, ho0, hb⟩; have n0_ := Aside0.mk (Kd.R_elder' (by (with_reducible repeat (first | apply Kd.R_alloc | apply Kd.R_drewN | apply Kd.R_drew)); exact HO_3.out) (Kd.R_base ho0) hb); have n1_ := Aside0.mk (Kd.R_lower (Kd.R_new' ho0 (Kd.R_lt (by (with_reducible repeat (first | apply Kd.R_alloc | apply Kd.R_drewN | apply Kd.R_drew)); exact HO_3.out))) (below_size (by repeat (first | (with_reducible first | exact HB.out | apply below_alloc | apply pw_below_drewN | apply below_drew1) | exact HB.out)))); have n2_ := Aside0.mk (below_step (by repeat (first | (with_reducible first | exact HB.out | apply below_alloc | apply pw_below_drewN | apply below_drew1) | exact HB.out)) hb); clear HO_3; clear HB; have HO_3 := n0_; have HO188 := n1_; have HB := n2_; clear n0_ n1_ n2_; (try clear hb); (try clear hb2); (try clear hk); (try clear hi); (try clear ho0))); try go_wp2_with (first | (go_at_call 65; (with_reducible refine (chicaneref03_Bits.calls k1 a0 t186 _ A11.out).mono ?_); rintro e w12 ⟨v187, rfl, ho0, hb⟩; have n0_ := Aside0.mk (Kd.R_elder' (by (with_reducible repeat (first | apply Kd.R_alloc | apply Kd.R_drewN | apply Kd.R_drew)); exact HO_3.out) (Kd.R_base ho0) hb); have n1_ := Aside0.mk (Kd.R_lower (Kd.R_new' ho0 (Kd.R_lt (by (with_reducible repeat (first | apply Kd.R_alloc | apply Kd.R_drewN | apply Kd.R_drew)); exact HO_3.out))) (below_size (by repeat (first | (with_reducible first | exact HB.out | apply below_alloc | apply pw_below_drewN | apply below_drew1) | exact HB.out)))); have n2_ := Aside0.mk (below_step (by repeat (first | (with_reducible first | exact HB.out | apply below_alloc | apply pw_below_drewN | apply below_drew1) | exact HB.out)) hb); clear HO_3; clear HB; have HO_3 := n0_; have HO188 := n1_; have HB := n2_; clear n0_ n1_ n2_; (try clear hb); (try clear hb2); (try clear hk); (try clear hi); (try clear ho0))))
          go_loopg [3, 6] k1 (fun kq v3 v6 w' => ∃ (x3_2 : List Bool) (x5_2 : List Bool) (x6_2 : Int), v6 = .int .i64 x6_2 ∧ Aside0 (chicaneref03_Sum.l1 kq x3_2 x5_2 x6_2 = some r) ∧ Aside0 (kq ≤ k1) ∧ Aside0 (Kd.R Kd.bool 4 w' w.heap.size (fun k_ => some k_ ≠ (v187 : Value).ownBlock) v3 x3_2) ∧ Aside0 (Kd.R Kd.bool 4 w' w.heap.size (fun k_ => some k_ ≠ (v3 : Value).ownBlock) v187 x5_2) ∧ Aside0 (Below w.heap.size w w'))
          case atStart => exact ⟨(x3_1), (t186), (0), (by first | rfl | (simp; done) | (simp [*]; done) | (simp; omega) | (congr 1; omega)), H', ⟨Nat.le_refl _⟩, ⟨by (with_reducible repeat (first | apply Kd.R_alloc | apply Kd.R_drewN | apply Kd.R_drew)); exact Kd.R_mono HO_3.out (fun _ hk => hk.2)⟩, ⟨by (with_reducible repeat (first | apply Kd.R_alloc | apply Kd.R_drewN | apply Kd.R_drew)); exact Kd.R_mono HO188.out (fun _ hk => hk.2)⟩, ⟨by repeat (first | (with_reducible first | exact HB.out | apply below_alloc | apply pw_below_drewN | apply below_drew1) | exact HB.out)⟩⟩
          case round =>
            clear H'
            try clear c2
            try clear c2b0
            try clear c2b1
            try clear p2
            try clear c5
            try clear c5b0
            try clear c6
            try clear c6b0
            try clear p6
            try clear c7
            try clear c7b0
            try clear p8
            try clear q8
            try clear hx8
            try clear hf8
            try clear hx8_0
            try clear p2
            try clear p8
            try clear q8
            obtain ⟨x3_2, x5_2, x6_2, rfl, HA, HK2, HO_3, HO_5, HB⟩ := hrel
            cases gk with
            | zero => exact absurd HA.out (by simp [chicaneref03_Sum.l1])
            | succ k2 =>
              have H := HA.out
              clear HA
              simp only [chicaneref03_Sum.l1] at H
              by_cases c13 : x6_2 < (x5_2.length : Int)
              · rw [if_pos c13] at H
                have c13b0 : decide (x6_2 < (x5_2.length : Int)) = true := decide_eq_true c13
                clear c13
                by_cases c14 : 0 < (x3_2.length : Int)
                · rw [if_pos c14] at H
                  have c14b0 : decide (0 < (x3_2.length : Int)) = true := decide_eq_true c14
                  have c14b1 : decide (0 < x3_2.length) = true := decide_eq_true (by omega)
                  clear c14
                  by_cases c15 : 0 ≤ x6_2
                  · rw [if_pos c15] at H
                    have c15b0 : decide (0 ≤ x6_2) = true := decide_eq_true c15
                    clear c15
                    by_cases c16 : 32 ≤ 281474976710656
                    · rw [if_pos c16] at H
                      have c16b0 := eq_true c16
                      have c16b1 : decide (32 ≤ 281474976710656) = true := decide_eq_true c16
                      clear c16
                      obtain ⟨y191, hy191⟩ : ∃ y_ : List Bool, y_ = (List.replicate 32 false) := ⟨_, rfl⟩
                      replace H : (chicaneref03_Sum.l2 k2 x3_2 x5_2 x6_2 ((rdOf false x3_2 0) != (rdOf false x5_2 x6_2)) y191 0) = some r := by first | (rw [hy191]; with_reducible exact H) | (have H2_ := (Option.bind_some _ _).symm.trans H; rw [hy191]; with_reducible exact H2_) | (have H2_ := (Option.bind_some _ _).symm.trans H; with_reducible exact H2_) | with_reducible exact H | (rw [hy191]; exact H) | exact H
                      have Ny191 := Aside0.mk hy191
                      clear hy191
                      have H' := Aside0.mk H
                      clear H
                      obtain ⟨Ao17, co17, eo17⟩ := Kd.R_slice HO_5.out
                      subst eo17
                      obtain ⟨Ao18, co18, eo18⟩ := Kd.R_slice HO_3.out
                      subst eo18
                      have p189 : 0 ≤ (0 : Int) := (by omega)
                      have q189 : 0 < (x3_2.length : Int) := of_decide_eq_true (by first | (with_reducible assumption) | assumption)
                      obtain ⟨ad189, e189, hx189_0⟩ := Kd.at_bool (Kd.R_reads' HO_3.out).2.2 0 p189 q189
                      cases e189
                      have qi189 : (0 < x3_2.length) = True := eq_true (by omega)
                      (try rw [show ((0 : Int)).toNat = 0 from rfl] at hx189_0)
                      (try rw [Addr.add_zero'] at hx189_0)
                      replace p189 := eq_true p189
                      replace q189 := eq_true q189
                      have p190 : 0 ≤ (x6_2 : Int) := of_decide_eq_true (by first | (with_reducible assumption) | assumption)
                      have q190 : x6_2 < (x5_2.length : Int) := of_decide_eq_true (by first | (with_reducible assumption) | assumption)
                      obtain ⟨ad190, e190, hx190_0⟩ := Kd.at_bool (Kd.R_reads' HO_5.out).2.2 x6_2 p190 q190
                      cases e190
                      replace p190 := eq_true p190
                      replace q190 := eq_true q190
                      go_wp2_with (first | ((with_reducible refine gate_dst (N := 38) rfl ?_); refine Kd.R_make Kd.bool _ 4 rfl (N := 38) rfl 97 _ _ rfl 32 rfl rfl Try.underlying97 (.bool false) 1 info4 rfl (by decide) (by omega) false (ok := fun _ => True) (okp := fun _ => True) rfl (fun _ hk => hk) trivial (by omega) (by omega) (Below.refl _ _) (Nat.le_refl _) ?_; intro v192 w19 ho20 hb hg_ hnew_; clear hg_ hnew_; (first | rw [← Ny191.out] at ho20 | (simp only [Int.reduceToNat] at ho20; rw [← Ny191.out] at ho20)); have n0_ := Aside0.mk (Kd.R_elder' (by (with_reducible repeat (first | apply Kd.R_alloc | apply Kd.R_drewN | apply Kd.R_drew)); exact HO_3.out) (Kd.R_base ho20) hb); have n1_ := Aside0.mk (Kd.R_elder' (by (with_reducible repeat (first | apply Kd.R_alloc | apply Kd.R_drewN | apply Kd.R_drew)); exact HO_5.out) (Kd.R_base ho20) hb); have n2_ := Aside0.mk (Kd.R_lower (Kd.R_new' (Kd.R_new' ho20 (Kd.R_lt (by (with_reducible repeat (first | apply Kd.R_alloc | apply Kd.R_drewN | apply Kd.R_drew)); exact HO_3.out))) (Kd.R_lt (by (with_reducible repeat (first | apply Kd.R_alloc | apply Kd.R_drewN | apply Kd.R_drew)); exact HO_5.out))) (below_size (by repeat (first | (with_reducible first | exact HB.out | apply below_alloc | apply pw_below_drewN | apply below_drew1) | exact HB.out)))); have n3_ := Aside0.mk (below_step (by repeat (first | (with_reducible first | exact HB.out | apply below_alloc | apply pw_below_drewN | apply below_drew1) | exact HB.out)) hb); clear HO_3; clear HO_5; clear HB; have HO_3 := n0_; have HO_5 := n1_; have HO193 := n2_; have HB := n3_; clear n0_ n1_ n2_ n3_; clear hb ho20))
                      repeat (go_quiet (first | ((with_reducible refine gate_dst (N := 38) rfl ?_); refine Kd.R_make Kd.bool _ 4 rfl (N := 38) rfl 97 _ _ rfl 32 rfl rfl Try.underlying97 (.bool false) 1 info4 rfl (by decide) (by omega) false (ok := fun _ => True) (okp := fun _ => True) rfl (fun _ hk => hk) trivial (by omega) (by omega) (Below.refl _ _) (Nat.le_refl _) ?_; intro v192 w19 ho20 hb hg_ hnew_; clear hg_ hnew_; (first | rw [← Ny191.out] at ho20 | (simp only [Int.reduceToNat] at ho20; rw [← Ny191.out] at ho20)); have n0_ := Aside0.mk (Kd.R_elder' (by (with_reducible repeat (first | apply Kd.R_alloc | apply Kd.R_drewN | apply Kd.R_drew)); exact HO_3.out) (Kd.R_base ho20) hb); have n1_ := Aside0.mk (Kd.R_elder' (by (with_reducible repeat (first | apply Kd.R_alloc | apply Kd.R_drewN | apply Kd.R_drew)); exact HO_5.out) (Kd.R_base ho20) hb); have n2_ := Aside0.mk (Kd.R_lower (Kd.R_new' (Kd.R_new' ho20 (Kd.R_lt (by (with_reducible repeat (first | apply Kd.R_alloc | apply Kd.R_drewN | apply Kd.R_drew)); exact HO_3.out))) (Kd.R_lt (by (with_reducible repeat (first | apply Kd.R_alloc | apply Kd.R_drewN | apply Kd.R_drew)); exact HO_5.out))) (below_size (by repeat (first | (with_reducible first | exact HB.out | apply below_alloc | apply pw_below_drewN | apply below_drew1) | exact HB.out)))); have n3_ := Aside0.mk (below_step (by repeat (first | (with_reducible first | exact HB.out | apply below_alloc | apply pw_below_drewN | apply below_drew1) | exact HB.out)) hb); clear HO_3; clear HO_5; clear HB; have HO_3 := n0_; have HO_5 := n1_; have HO193 := n2_; have HB := n3_; clear n0_ n1_ n2_ n3_; clear hb ho20)); try go_wp2_with (first | ((with_reducible refine gate_dst (N := 38) rfl ?_); refine Kd.R_make Kd.bool _ 4 rfl (N := 38) rfl 97 _ _ rfl 32 rfl rfl Try.underlying97 (.bool false) 1 info4 rfl (by decide) (by omega) false (ok := fun _ => True) (okp := fun _ => True) rfl (fun _ hk => hk) trivial (by omega) (by omega) (Below.refl _ _) (Nat.le_refl _) ?_; intro v192 w19 ho20 hb hg_ hnew_; clear hg_ hnew_; (first | rw [← Ny191.out] at ho20 | (simp only [Int.reduceToNat] at ho20; rw [← Ny191.out] at ho20)); have n0_ := Aside0.mk (Kd.R_elder' (by (with_reducible repeat (first | apply Kd.R_alloc | apply Kd.R_drewN | apply Kd.R_drew)); exact HO_3.out) (Kd.R_base ho20) hb); have n1_ := Aside0.mk (Kd.R_elder' (by (with_reducible repeat (first | apply Kd.R_alloc | apply Kd.R_drewN | apply Kd.R_drew)); exact HO_5.out) (Kd.R_base ho20) hb); have n2_ := Aside0.mk (Kd.R_lower (Kd.R_new' (Kd.R_new' ho20 (Kd.R_lt (by (with_reducible repeat (first | apply Kd.R_alloc | apply Kd.R_drewN | apply Kd.R_drew)); exact HO_3.out))) (Kd.R_lt (by (with_reducible repeat (first | apply Kd.R_alloc | apply Kd.R_drewN | apply Kd.R_drew)); exact HO_5.out))) (below_size (by repeat (first | (with_reducible first | exact HB.out | apply below_alloc | apply pw_below_drewN | apply below_drew1) | exact HB.out)))); have n3_ := Aside0.mk (below_step (by repeat (first | (with_reducible first | exact HB.out | apply below_alloc | apply pw_below_drewN | apply below_drew1) | exact HB.out)) hb); clear HO_3; clear HO_5; clear HB; have HO_3 := n0_; have HO_5 := n1_; have HO193 := n2_; have HB := n3_; clear n0_ n1_ n2_ n3_; clear hb ho20)))
                      go_loopg [9] k2 (fun kq v9 w' => ∃ (x8_3 : List Bool) (x9_3 : Int), v9 = .int .i64 x9_3 ∧ Aside0 (chicaneref03_Sum.l2 kq x3_2 x5_2 x6_2 ((rdOf false x3_2 0) != (rdOf false x5_2 x6_2)) x8_3 x9_3 = some r) ∧ Aside0 (kq ≤ k2) ∧ Aside0 (Kd.R Kd.bool 4 w' w.heap.size (fun k_ => some k_ ≠ ((.slice (some ad190) x5_2.length co17) : Value).ownBlock ∧ some k_ ≠ (v192 : Value).ownBlock) (.slice (some ad189) x3_2.length co18) x3_2) ∧ Aside0 (Kd.R Kd.bool 4 w' w.heap.size (fun k_ => some k_ ≠ ((.slice (some ad189) x3_2.length co18) : Value).ownBlock ∧ some k_ ≠ (v192 : Value).ownBlock) (.slice (some ad190) x5_2.length co17) x5_2) ∧ Aside0 (Kd.R Kd.bool 4 w' w.heap.size (fun k_ => some k_ ≠ ((.slice (some ad189) x3_2.length co18) : Value).ownBlock ∧ some k_ ≠ ((.slice (some ad190) x5_2.length co17) : Value).ownBlock) v192 x8_3) ∧ Aside0 (Below w.heap.size w w'))
                      case atStart => exact ⟨(y191), (0), (by first | rfl | (simp; done) | (simp [*]; done) | (simp; omega) | (congr 1; omega)), H', ⟨Nat.le_refl _⟩, ⟨by (with_reducible repeat (first | apply Kd.R_alloc | apply Kd.R_drewN | apply Kd.R_drew)); exact HO_3.out⟩, ⟨by (with_reducible repeat (first | apply Kd.R_alloc | apply Kd.R_drewN | apply Kd.R_drew)); exact HO_5.out⟩, ⟨by (with_reducible repeat (first | apply Kd.R_alloc | apply Kd.R_drewN | apply Kd.R_drew)); exact Kd.R_mono HO193.out (fun _ hk => ⟨hk.1.2, hk.2⟩)⟩, ⟨by repeat (first | (with_reducible first | exact HB.out | apply below_alloc | apply pw_below_drewN | apply below_drew1) | exact HB.out)⟩⟩
                      case round =>
                        clear H'
                        try clear c1
                        try clear p1
                        try clear q1
                        try clear hx1
                        try clear qi1
                        try clear c2
                        try clear c2b0
                        try clear c2b1
                        try clear p2
                        try clear c5
                        try clear c5b0
                        try clear c6
                        try clear c6b0
                        try clear p6
                        try clear c7
                        try clear c7b0
                        try clear p8
                        try clear q8
                        try clear hx8
                        try clear hf8
                        try clear c13
                        try clear c13b0
                        try clear c14
                        try clear c14b0
                        try clear c14b1
                        try clear c15
                        try clear c15b0
                        try clear c16
                        try clear c16b0
                        try clear c16b1
                        try clear p18
                        try clear q18
                        try clear hx18
                        try clear qi18
                        try clear p19
                        try clear q19
                        try clear hx19
                        try clear hx189_0
                        try clear hx190_0
                        try clear hx8_0
                        try clear p189
                        try clear p190
                        try clear p2
                        try clear p6
                        try clear p8
                        try clear q189
                        try clear q190
                        try clear q8
                        obtain ⟨x8_3, x9_3, rfl, HA, HK3, HO_3, HO_5, HO_8, HB⟩ := hrel
                        cases gk with
                        | zero => exact absurd HA.out (by simp [chicaneref03_Sum.l2])
                        | succ k3 =>
                          have H := HA.out
                          clear HA
                          simp only [chicaneref03_Sum.l2] at H
                          by_cases c21 : x9_3 < 31
                          · rw [if_pos c21] at H
                            have c21b0 : decide (x9_3 < 31) = true := decide_eq_true c21
                            clear c21
                            obtain ⟨ji22, hji22⟩ : ∃ j_ : Int, (wrap64 (x9_3 + 1)) = j_ := ⟨_, rfl⟩
                            replace H : (if 0 ≤ (ji22) then (if (ji22) < (x3_2.length : Int) then (if 0 ≤ x9_3 then (if x9_3 < (x8_3.length : Int) then (chicaneref03_Sum.l2 k3 x3_2 x5_2 x6_2 ((rdOf false x3_2 0) != (rdOf false x5_2 x6_2)) (x8_3.set (x9_3 : Int).toNat (rdOf false x3_2 (ji22))) ji22) else (none)) else (none)) else (none)) else (none)) = some r := by first | (rw [hji22] at H; exact H) | (simp only [hji22] at H ⊢; exact H)
                            have hji22w : (IntKind.i64.wrap (x9_3 + 1)) = ji22 := (i64_w _).trans hji22
                            by_cases c23 : 0 ≤ (ji22)
                            · rw [if_pos c23] at H
                              have c23b0 : decide (0 ≤ (ji22)) = true := decide_eq_true c23
                              clear c23
                              by_cases c24 : (ji22) < (x3_2.length : Int)
                              · rw [if_pos c24] at H
                                have c24b0 : decide ((ji22) < (x3_2.length : Int)) = true := decide_eq_true c24
                                clear c24
                                by_cases c25 : 0 ≤ x9_3
                                · rw [if_pos c25] at H
                                  have c25b0 : decide (0 ≤ x9_3) = true := decide_eq_true c25
                                  clear c25
                                  by_cases c26 : x9_3 < (x8_3.length : Int)
                                  · rw [if_pos c26] at H
                                    have c26b0 : decide (x9_3 < (x8_3.length : Int)) = true := decide_eq_true c26
                                    clear c26
                                    obtain ⟨y195, hy195⟩ : ∃ y_ : List Bool, y_ = (x8_3.set (x9_3 : Int).toNat (rdOf false x3_2 (ji22))) := ⟨_, rfl⟩
                                    replace H : (chicaneref03_Sum.l2 k3 x3_2 x5_2 x6_2 ((rdOf false x3_2 0) != (rdOf false x5_2 x6_2)) y195 ji22) = some r := by first | (rw [hy195]; with_reducible exact H) | (have H2_ := (Option.bind_some _ _).symm.trans H; rw [hy195]; with_reducible exact H2_) | (have H2_ := (Option.bind_some _ _).symm.trans H; with_reducible exact H2_) | with_reducible exact H | (rw [hy195]; exact H) | exact H
                                    have Ny195 := Aside0.mk hy195
                                    clear hy195
                                    have H' := Aside0.mk H
                                    clear H
                                    have p194 : 0 ≤ ((ji22) : Int) := of_decide_eq_true (by first | (with_reducible assumption) | assumption)
                                    have q194 : (ji22) < (x3_2.length : Int) := of_decide_eq_true (by first | (with_reducible assumption) | assumption)
                                    obtain ⟨ad194, e194, hx194_0⟩ := Kd.at_bool (Kd.R_reads' HO_3.out).2.2 (ji22) p194 q194
                                    obtain rfl : ad189 = ad194 := (by injection e194)
                                    replace p194 := eq_true p194
                                    replace q194 := eq_true q194
                                    have p27 : 0 ≤ (x9_3 : Int) := of_decide_eq_true (by first | (with_reducible assumption) | assumption)
                                    have q27 : (x9_3 : Int) < ((x8_3.length : Int) : Int) := of_decide_eq_true (by first | (with_reducible assumption) | assumption)
                                    obtain ⟨go27, co27, eo27, gb27, gl27, cl27, HG27⟩ := Kd.R_form HO_8.out (by omega)
                                    (first | cases eo27 | (injection eo27 with ea_ en_ ec_; (first | subst ea_ | (injection ea_ with ea_; subst ea_)); subst ec_; clear en_))
                                    have GB27 := Aside0.mk gb27
                                    have GG27 := Aside0.mk HG27
                                    clear gb27 gl27 HG27
                                    obtain ⟨hx27_0, hf27_0⟩ := Kd.R_celln false HO_8.out (x9_3 : Int) p27 q27
                                    replace p27 := eq_true p27
                                    replace q27 := eq_true q27
                                    have HP28 := Kd.R_putg HO_8.out (x9_3 : Int) (rdOf false x3_2 (ji22))
                                    go_wp2_with (first | ((with_reducible refine gate_store (t := 4) (p := 50) rfl ?_); (try (rw [drewN_self wr]; generalize hq_ : World.drewN wr _ = wr; have n0_ := Aside0.mk (Kd.R_at hq_ HO_3.out); have n1_ := Aside0.mk (Kd.R_at hq_ HO_5.out); have n2_ := Aside0.mk (Kd.R_at hq_ HO_8.out); have n3_ := Aside0.mk (below_at hq_ HB.out); clear hq_ HO_3 HO_5 HO_8 HB; have HO_3 := n0_; have HO_5 := n1_; have HO_8 := n2_; have HB := n3_; clear n0_ n1_ n2_ n3_; (try (have HP28 := Kd.R_putg HO_8.out (x9_3 : Int) (rdOf false x3_2 (ji22)))))); refine store_event (t := 4) (p := 50) (v := ?vo_w29) (w1 := (wr.setCell ⟨go27, (x9_3 : Int).toNat, none⟩ (.bool (rdOf false x3_2 (ji22))))) ?hg ?ho ?hn ?hr ?_; (case ho => rfl); (case hg => rfl); (case hn => rfl); (case hr => first | (go_simp; done) | (go_simp; rfl)); intro w29 hw; have hg : wr.grownBy w29 (some go27) := (by rw [hw]; exact HP28.2); have hp_ : Kd.R Kd.bool 4 w29 w.heap.size (fun k_ => some k_ ≠ (.slice (some ad189) x3_2.length co18 : Value).ownBlock ∧ some k_ ≠ (.slice (some ad190) x5_2.length co17 : Value).ownBlock) (.slice (some ⟨go27, 0, none⟩) x8_3.length co27) y195 := (by rw [hw, Ny195.out]; exact HP28.1); clear HP28; have n0_ := Aside0.mk (Kd.R_after (v := (.slice (some ⟨go27, 0, none⟩) x8_3.length co27)) (v1 := (.slice (some ⟨go27, 0, none⟩) x8_3.length co27)) (ok := (fun k_ => some k_ ≠ (.slice (some ad190) x5_2.length co17 : Value).ownBlock)) (by (with_reducible repeat (first | apply Kd.R_alloc | apply Kd.R_drewN | apply Kd.R_drew)); exact HO_3.out) hg (.inl rfl)); have n1_ := Aside0.mk (Kd.R_after (v := (.slice (some ⟨go27, 0, none⟩) x8_3.length co27)) (v1 := (.slice (some ⟨go27, 0, none⟩) x8_3.length co27)) (ok := (fun k_ => some k_ ≠ (.slice (some ad189) x3_2.length co18 : Value).ownBlock)) (by (with_reducible repeat (first | apply Kd.R_alloc | apply Kd.R_drewN | apply Kd.R_drew)); exact HO_5.out) hg (.inl rfl)); have n2_ := Aside0.mk (hp_); have n3_ := Aside0.mk ((by rw [hw]; exact below_set (HB.out) GB27.out : Below w.heap.size w w29)); clear HO_3; clear HO_5; clear HO_8; clear HB; have HO_3 := n0_; have HO_5 := n1_; have HO_8 := n2_; have HB := n3_; clear n0_ n1_ n2_ n3_; clear hg hw hp_))
                                    repeat (go_quiet (first | ((with_reducible refine gate_store (t := 4) (p := 50) rfl ?_); (try (rw [drewN_self wr]; generalize hq_ : World.drewN wr _ = wr; have n0_ := Aside0.mk (Kd.R_at hq_ HO_3.out); have n1_ := Aside0.mk (Kd.R_at hq_ HO_5.out); have n2_ := Aside0.mk (Kd.R_at hq_ HO_8.out); have n3_ := Aside0.mk (below_at hq_ HB.out); clear hq_ HO_3 HO_5 HO_8 HB; have HO_3 := n0_; have HO_5 := n1_; have HO_8 := n2_; have HB := n3_; clear n0_ n1_ n2_ n3_; (try (have HP28 := Kd.R_putg HO_8.out (x9_3 : Int) (rdOf false x3_2 (ji22)))))); refine store_event (t := 4) (p := 50) (v := ?vo_w29) (w1 := (wr.setCell ⟨go27, (x9_3 : Int).toNat, none⟩ (.bool (rdOf false x3_2 (ji22))))) ?hg ?ho ?hn ?hr ?_; (case ho => rfl); (case hg => rfl); (case hn => rfl); (case hr => first | (go_simp; done) | (go_simp; rfl)); intro w29 hw; have hg : wr.grownBy w29 (some go27) := (by rw [hw]; exact HP28.2); have hp_ : Kd.R Kd.bool 4 w29 w.heap.size (fun k_ => some k_ ≠ (.slice (some ad189) x3_2.length co18 : Value).ownBlock ∧ some k_ ≠ (.slice (some ad190) x5_2.length co17 : Value).ownBlock) (.slice (some ⟨go27, 0, none⟩) x8_3.length co27) y195 := (by rw [hw, Ny195.out]; exact HP28.1); clear HP28; have n0_ := Aside0.mk (Kd.R_after (v := (.slice (some ⟨go27, 0, none⟩) x8_3.length co27)) (v1 := (.slice (some ⟨go27, 0, none⟩) x8_3.length co27)) (ok := (fun k_ => some k_ ≠ (.slice (some ad190) x5_2.length co17 : Value).ownBlock)) (by (with_reducible repeat (first | apply Kd.R_alloc | apply Kd.R_drewN | apply Kd.R_drew)); exact HO_3.out) hg (.inl rfl)); have n1_ := Aside0.mk (Kd.R_after (v := (.slice (some ⟨go27, 0, none⟩) x8_3.length co27)) (v1 := (.slice (some ⟨go27, 0, none⟩) x8_3.length co27)) (ok := (fun k_ => some k_ ≠ (.slice (some ad189) x3_2.length co18 : Value).ownBlock)) (by (with_reducible repeat (first | apply Kd.R_alloc | apply Kd.R_drewN | apply Kd.R_drew)); exact HO_5.out) hg (.inl rfl)); have n2_ := Aside0.mk (hp_); have n3_ := Aside0.mk ((by rw [hw]; exact below_set (HB.out) GB27.out : Below w.heap.size w w29)); clear HO_3; clear HO_5; clear HO_8; clear HB; have HO_3 := n0_; have HO_5 := n1_; have HO_8 := n2_; have HB := n3_; clear n0_ n1_ n2_ n3_; clear hg hw hp_)); try go_wp2_with (first | ((with_reducible refine gate_store (t := 4) (p := 50) rfl ?_); (try (rw [drewN_self wr]; generalize hq_ : World.drewN wr _ = wr; have n0_ := Aside0.mk (Kd.R_at hq_ HO_3.out); have n1_ := Aside0.mk (Kd.R_at hq_ HO_5.out); have n2_ := Aside0.mk (Kd.R_at hq_ HO_8.out); have n3_ := Aside0.mk (below_at hq_ HB.out); clear hq_ HO_3 HO_5 HO_8 HB; have HO_3 := n0_; have HO_5 := n1_; have HO_8 := n2_; have HB := n3_; clear n0_ n1_ n2_ n3_; (try (have HP28 := Kd.R_putg HO_8.out (x9_3 : Int) (rdOf false x3_2 (ji22)))))); refine store_event (t := 4) (p := 50) (v := ?vo_w29) (w1 := (wr.setCell ⟨go27, (x9_3 : Int).toNat, none⟩ (.bool (rdOf false x3_2 (ji22))))) ?hg ?ho ?hn ?hr ?_; (case ho => rfl); (case hg => rfl); (case hn => rfl); (case hr => first | (go_simp; done) | (go_simp; rfl)); intro w29 hw; have hg : wr.grownBy w29 (some go27) := (by rw [hw]; exact HP28.2); have hp_ : Kd.R Kd.bool 4 w29 w.heap.size (fun k_ => some k_ ≠ (.slice (some ad189) x3_2.length co18 : Value).ownBlock ∧ some k_ ≠ (.slice (some ad190) x5_2.length co17 : Value).ownBlock) (.slice (some ⟨go27, 0, none⟩) x8_3.length co27) y195 := (by rw [hw, Ny195.out]; exact HP28.1); clear HP28; have n0_ := Aside0.mk (Kd.R_after (v := (.slice (some ⟨go27, 0, none⟩) x8_3.length co27)) (v1 := (.slice (some ⟨go27, 0, none⟩) x8_3.length co27)) (ok := (fun k_ => some k_ ≠ (.slice (some ad190) x5_2.length co17 : Value).ownBlock)) (by (with_reducible repeat (first | apply Kd.R_alloc | apply Kd.R_drewN | apply Kd.R_drew)); exact HO_3.out) hg (.inl rfl)); have n1_ := Aside0.mk (Kd.R_after (v := (.slice (some ⟨go27, 0, none⟩) x8_3.length co27)) (v1 := (.slice (some ⟨go27, 0, none⟩) x8_3.length co27)) (ok := (fun k_ => some k_ ≠ (.slice (some ad189) x3_2.length co18 : Value).ownBlock)) (by (with_reducible repeat (first | apply Kd.R_alloc | apply Kd.R_drewN | apply Kd.R_drew)); exact HO_5.out) hg (.inl rfl)); have n2_ := Aside0.mk (hp_); have n3_ := Aside0.mk ((by rw [hw]; exact below_set (HB.out) GB27.out : Below w.heap.size w w29)); clear HO_3; clear HO_5; clear HO_8; clear HB; have HO_3 := n0_; have HO_5 := n1_; have HO_8 := n2_; have HB := n3_; clear n0_ n1_ n2_ n3_; clear hg hw hp_)))
                                    go_roundg k3
                                    case measure => have := HK1.out; have := HK2.out; have := HK3.out; omega
                                    case rel => exact ⟨(y195), (ji22), (by first | rfl | (simp; done) | (simp only [← hji22] <;> (first | rfl | simp)) | (simp [*]; done)), H', ⟨by have := HK1.out; have := HK2.out; have := HK3.out; omega⟩, ⟨by (with_reducible repeat (first | apply Kd.R_alloc | apply Kd.R_drewN | apply Kd.R_drew)); exact HO_3.out⟩, ⟨by (with_reducible repeat (first | apply Kd.R_alloc | apply Kd.R_drewN | apply Kd.R_drew)); exact HO_5.out⟩, ⟨by (with_reducible repeat (first | apply Kd.R_alloc | apply Kd.R_drewN | apply Kd.R_drew)); exact HO_8.out⟩, ⟨by repeat (first | (with_reducible first | exact HB.out | apply below_alloc | apply pw_below_drewN | apply below_drew1) | exact HB.out)⟩⟩
                                  · rw [if_neg c26] at H
                                    exact absurd H (by simp)
                                · rw [if_neg c25] at H
                                  exact absurd H (by simp)
                              · rw [if_neg c24] at H
                                exact absurd H (by simp)
                            · rw [if_neg c23] at H
                              exact absurd H (by simp)
                          · rw [if_neg c21] at H
                            have c21b0 : decide (x9_3 < 31) = false := decide_eq_false c21
                            clear c21
                            by_cases c30 : ((rdOf false x3_2 0) != (rdOf false x5_2 x6_2)) = true
                            · rw [if_pos c30] at H
                              have c30b0 : ((rdOf false x3_2 0) != (rdOf false x5_2 x6_2)) = true := c30
                              have c30bz : (!((rdOf false x3_2 0) == (rdOf false x5_2 x6_2))) = true := c30b0
                              try rw [c30bz]
                              (try (have c30b1 : decide ((rdOf false x3_2 0) = (rdOf false x5_2 x6_2)) = false := by simpa using c30))
                              (try (have c30b2 : ((rdOf false x3_2 0) == (rdOf false x5_2 x6_2)) = false := by simpa using c30))
                              (try (have c30b3 : ¬ ((rdOf false x3_2 0) = (rdOf false x5_2 x6_2)) := by simpa using c30))
                              clear c30
                              have H' := Aside0.mk H
                              clear H
                              go_wp2
                              repeat (go_quiet (fail); try go_wp2)
                              go_loopg [10, 11] k3 (fun kq v10 v11 w' => ∃ (x8_4 : List Bool) (x10_4 : Int) (x11_4 : Int), v10 = .int .u32 x10_4 ∧ v11 = .int .i64 x11_4 ∧ Aside0 (chicaneref03_Sum.l3 kq x5_2 x6_2 x8_4 x10_4 x11_4 = some r) ∧ Aside0 (kq ≤ k3) ∧ Aside0 (Kd.R Kd.bool 4 w' w.heap.size (fun k_ => some k_ ≠ (v192 : Value).ownBlock) (.slice (some ad190) x5_2.length co17) x5_2) ∧ Aside0 (Kd.R Kd.bool 4 w' w.heap.size (fun k_ => some k_ ≠ ((.slice (some ad190) x5_2.length co17) : Value).ownBlock) v192 x8_4) ∧ Aside0 (Below w.heap.size w w'))
                              case atStart => exact ⟨(x8_3), (3988292384), (0), (by first | rfl | (simp; done) | (simp [*]; done) | (simp; omega) | (congr 1; omega)), (by first | rfl | (simp; done) | (simp [*]; done) | (simp; omega) | (congr 1; omega)), H', ⟨Nat.le_refl _⟩, ⟨by (with_reducible repeat (first | apply Kd.R_alloc | apply Kd.R_drewN | apply Kd.R_drew)); exact Kd.R_mono HO_5.out (fun _ hk => hk.2)⟩, ⟨by (with_reducible repeat (first | apply Kd.R_alloc | apply Kd.R_drewN | apply Kd.R_drew)); exact Kd.R_mono HO_8.out (fun _ hk => hk.2)⟩, ⟨by repeat (first | (with_reducible first | exact HB.out | apply below_alloc | apply pw_below_drewN | apply below_drew1) | exact HB.out)⟩⟩
                              case round =>
                                clear H'
                                try clear c1
                                try clear p1
                                try clear q1
                                try clear hx1
                                try clear qi1
                                try clear c2
                                try clear c2b0
                                try clear c2b1
                                try clear p2
                                try clear q2
                                try clear hx2
                                try clear hf2
                                try clear c3
                                try clear c5
                                try clear c5b0
                                try clear c6
                                try clear c6b0
                                try clear p6
                                try clear c7
                                try clear c7b0
                                try clear p8
                                try clear q8
                                try clear hx8
                                try clear hf8
                                try clear c13
                                try clear c13b0
                                try clear c14
                                try clear c14b0
                                try clear c14b1
                                try clear c15
                                try clear c15b0
                                try clear c16
                                try clear c16b0
                                try clear c16b1
                                try clear p18
                                try clear q18
                                try clear hx18
                                try clear qi18
                                try clear p19
                                try clear q19
                                try clear hx19
                                try clear c21
                                try clear c21b0
                                try clear c23
                                try clear c23b0
                                try clear c24
                                try clear c24b0
                                try clear c25
                                try clear c25b0
                                try clear c26
                                try clear c26b0
                                try clear p27
                                try clear q27
                                try clear hx27
                                try clear hf27
                                try clear c30
                                try clear c30b0
                                try clear c30b1
                                try clear c30b2
                                try clear hx189_0
                                try clear hx190_0
                                try clear hx194_0
                                try clear hx27_0
                                try clear hx8_0
                                try clear p1
                                try clear p18
                                try clear p189
                                try clear p19
                                try clear p190
                                try clear p194
                                try clear p2
                                try clear p27
                                try clear p6
                                try clear p8
                                try clear q1
                                try clear q18
                                try clear q189
                                try clear q19
                                try clear q190
                                try clear q194
                                try clear q27
                                try clear q8
                                obtain ⟨x8_4, x10_4, x11_4, rfl, rfl, HA, HK4, HO_5, HO_8, HB⟩ := hrel
                                cases gk with
                                | zero => exact absurd HA.out (by simp [chicaneref03_Sum.l3])
                                | succ k4 =>
                                  have H := HA.out
                                  clear HA
                                  simp only [chicaneref03_Sum.l3] at H
                                  by_cases c31 : x11_4 < 32
                                  · rw [if_pos c31] at H
                                    have c31b0 : decide (x11_4 < 32) = true := decide_eq_true c31
                                    clear c31
                                    by_cases c32 : 0 ≤ x11_4
                                    · rw [if_pos c32] at H
                                      have c32b0 : decide (0 ≤ x11_4) = true := decide_eq_true c32
                                      clear c32
                                      by_cases c33 : x11_4 < (x8_4.length : Int)
                                      · rw [if_pos c33] at H
                                        have c33b0 : decide (x11_4 < (x8_4.length : Int)) = true := decide_eq_true c33
                                        clear c33
                                        obtain ⟨y197, hy197⟩ : ∃ y_ : List Bool, y_ = (x8_4.set (x11_4 : Int).toNat ((rdOf false x8_4 x11_4) != ((Int.tmod x10_4 2) == 1))) := ⟨_, rfl⟩
                                        replace H : (chicaneref03_Sum.l3 k4 x5_2 x6_2 y197 ((Int.tdiv x10_4 2) % 4294967296) (wrap64 (x11_4 + 1))) = some r := by first | (rw [hy197]; with_reducible exact H) | (have H2_ := (Option.bind_some _ _).symm.trans H; rw [hy197]; with_reducible exact H2_) | (have H2_ := (Option.bind_some _ _).symm.trans H; with_reducible exact H2_) | with_reducible exact H | (rw [hy197]; exact H) | exact H
                                        have Ny197 := Aside0.mk hy197
                                        clear hy197
                                        have H' := Aside0.mk H
                                        clear H
                                        obtain ⟨Ao35, co35, eo35⟩ := Kd.R_slice HO_8.out
                                        subst eo35
                                        have p196 : 0 ≤ (x11_4 : Int) := of_decide_eq_true (by first | (with_reducible assumption) | assumption)
                                        have q196 : x11_4 < (x8_4.length : Int) := of_decide_eq_true (by first | (with_reducible assumption) | assumption)
                                        obtain ⟨ad196, e196, hx196_0⟩ := Kd.at_bool (Kd.R_reads' HO_8.out).2.2 x11_4 p196 q196
                                        cases e196
                                        replace p196 := eq_true p196
                                        replace q196 := eq_true q196
                                        have p34 : 0 ≤ (x11_4 : Int) := of_decide_eq_true (by first | (with_reducible assumption) | assumption)
                                        have q34 : (x11_4 : Int) < ((x8_4.length : Int) : Int) := of_decide_eq_true (by first | (with_reducible assumption) | assumption)
                                        obtain ⟨go34, co34, eo34, gb34, gl34, cl34, HG34⟩ := Kd.R_form HO_8.out (by omega)
                                        (first | cases eo34 | (injection eo34 with ea_ en_ ec_; (first | subst ea_ | (injection ea_ with ea_; subst ea_)); subst ec_; clear en_))
                                        have GB34 := Aside0.mk gb34
                                        have GG34 := Aside0.mk HG34
                                        clear gb34 gl34 HG34
                                        (first | simp only [add_plain] at hx196_0 | skip)
                                        obtain ⟨hx34_0, hf34_0⟩ := Kd.R_celln false HO_8.out (x11_4 : Int) p34 q34
                                        replace p34 := eq_true p34
                                        replace q34 := eq_true q34
                                        have HP36 := Kd.R_putg HO_8.out (x11_4 : Int) ((rdOf false x8_4 x11_4) != ((Int.tmod x10_4 2) == 1))
                                        go_wp2_with (first | ((with_reducible refine gate_store (t := 4) (p := 66) rfl ?_); (try (rw [drewN_self wr]; generalize hq_ : World.drewN wr _ = wr; have n0_ := Aside0.mk (Kd.R_at hq_ HO_5.out); have n1_ := Aside0.mk (Kd.R_at hq_ HO_8.out); have n2_ := Aside0.mk (below_at hq_ HB.out); clear hq_ HO_5 HO_8 HB; have HO_5 := n0_; have HO_8 := n1_; have HB := n2_; clear n0_ n1_ n2_; (try (have HP36 := Kd.R_putg HO_8.out (x11_4 : Int) ((rdOf false x8_4 x11_4) != ((Int.tmod x10_4 2) == 1)))))); refine store_event (t := 4) (p := 66) (v := ?vo_w37) (w1 := (wr.setCell ⟨go34, (x11_4 : Int).toNat, none⟩ (.bool ((rdOf false x8_4 x11_4) != ((Int.tmod x10_4 2) == 1))))) ?hg ?ho ?hn ?hr ?_; (case ho => rfl); (case hg => rfl); (case hn => rfl); (case hr => first | (go_simp; done) | (go_simp; rfl)); intro w37 hw; have hg : wr.grownBy w37 (some go34) := (by rw [hw]; exact HP36.2); have hp_ : Kd.R Kd.bool 4 w37 w.heap.size (fun k_ => some k_ ≠ (.slice (some ad190) x5_2.length co17 : Value).ownBlock) (.slice (some ⟨go34, 0, none⟩) x8_4.length co35) y197 := (by rw [hw, Ny197.out]; exact HP36.1); clear HP36; have n0_ := Aside0.mk (Kd.R_after (v := (.slice (some ⟨go34, 0, none⟩) x8_4.length co35)) (v1 := (.slice (some ⟨go34, 0, none⟩) x8_4.length co35)) (ok := (fun _ => True)) (by (with_reducible repeat (first | apply Kd.R_alloc | apply Kd.R_drewN | apply Kd.R_drew)); exact Kd.R_mono HO_5.out (fun _ hk => ⟨trivial, hk⟩)) hg (.inl rfl)); have n1_ := Aside0.mk (hp_); have n2_ := Aside0.mk ((by rw [hw]; exact below_set (HB.out) GB34.out : Below w.heap.size w w37)); clear HO_5; clear HO_8; clear HB; have HO_5 := n0_; have HO_8 := n1_; have HB := n2_; clear n0_ n1_ n2_; clear hg hw hp_))
                                        repeat (go_quiet (first | ((with_reducible refine gate_store (t := 4) (p := 66) rfl ?_); (try (rw [drewN_self wr]; generalize hq_ : World.drewN wr _ = wr; have n0_ := Aside0.mk (Kd.R_at hq_ HO_5.out); have n1_ := Aside0.mk (Kd.R_at hq_ HO_8.out); have n2_ := Aside0.mk (below_at hq_ HB.out); clear hq_ HO_5 HO_8 HB; have HO_5 := n0_; have HO_8 := n1_; have HB := n2_; clear n0_ n1_ n2_; (try (have HP36 := Kd.R_putg HO_8.out (x11_4 : Int) ((rdOf false x8_4 x11_4) != ((Int.tmod x10_4 2) == 1)))))); refine store_event (t := 4) (p := 66) (v := ?vo_w37) (w1 := (wr.setCell ⟨go34, (x11_4 : Int).toNat, none⟩ (.bool ((rdOf false x8_4 x11_4) != ((Int.tmod x10_4 2) == 1))))) ?hg ?ho ?hn ?hr ?_; (case ho => rfl); (case hg => rfl); (case hn => rfl); (case hr => first | (go_simp; done) | (go_simp; rfl)); intro w37 hw; have hg : wr.grownBy w37 (some go34) := (by rw [hw]; exact HP36.2); have hp_ : Kd.R Kd.bool 4 w37 w.heap.size (fun k_ => some k_ ≠ (.slice (some ad190) x5_2.length co17 : Value).ownBlock) (.slice (some ⟨go34, 0, none⟩) x8_4.length co35) y197 := (by rw [hw, Ny197.out]; exact HP36.1); clear HP36; have n0_ := Aside0.mk (Kd.R_after (v := (.slice (some ⟨go34, 0, none⟩) x8_4.length co35)) (v1 := (.slice (some ⟨go34, 0, none⟩) x8_4.length co35)) (ok := (fun _ => True)) (by (with_reducible repeat (first | apply Kd.R_alloc | apply Kd.R_drewN | apply Kd.R_drew)); exact Kd.R_mono HO_5.out (fun _ hk => ⟨trivial, hk⟩)) hg (.inl rfl)); have n1_ := Aside0.mk (hp_); have n2_ := Aside0.mk ((by rw [hw]; exact below_set (HB.out) GB34.out : Below w.heap.size w w37)); clear HO_5; clear HO_8; clear HB; have HO_5 := n0_; have HO_8 := n1_; have HB := n2_; clear n0_ n1_ n2_; clear hg hw hp_)); try go_wp2_with (first | ((with_reducible refine gate_store (t := 4) (p := 66) rfl ?_); (try (rw [drewN_self wr]; generalize hq_ : World.drewN wr _ = wr; have n0_ := Aside0.mk (Kd.R_at hq_ HO_5.out); have n1_ := Aside0.mk (Kd.R_at hq_ HO_8.out); have n2_ := Aside0.mk (below_at hq_ HB.out); clear hq_ HO_5 HO_8 HB; have HO_5 := n0_; have HO_8 := n1_; have HB := n2_; clear n0_ n1_ n2_; (try (have HP36 := Kd.R_putg HO_8.out (x11_4 : Int) ((rdOf false x8_4 x11_4) != ((Int.tmod x10_4 2) == 1)))))); refine store_event (t := 4) (p := 66) (v := ?vo_w37) (w1 := (wr.setCell ⟨go34, (x11_4 : Int).toNat, none⟩ (.bool ((rdOf false x8_4 x11_4) != ((Int.tmod x10_4 2) == 1))))) ?hg ?ho ?hn ?hr ?_; (case ho => rfl); (case hg => rfl); (case hn => rfl); (case hr => first | (go_simp; done) | (go_simp; rfl)); intro w37 hw; have hg : wr.grownBy w37 (some go34) := (by rw [hw]; exact HP36.2); have hp_ : Kd.R Kd.bool 4 w37 w.heap.size (fun k_ => some k_ ≠ (.slice (some ad190) x5_2.length co17 : Value).ownBlock) (.slice (some ⟨go34, 0, none⟩) x8_4.length co35) y197 := (by rw [hw, Ny197.out]; exact HP36.1); clear HP36; have n0_ := Aside0.mk (Kd.R_after (v := (.slice (some ⟨go34, 0, none⟩) x8_4.length co35)) (v1 := (.slice (some ⟨go34, 0, none⟩) x8_4.length co35)) (ok := (fun _ => True)) (by (with_reducible repeat (first | apply Kd.R_alloc | apply Kd.R_drewN | apply Kd.R_drew)); exact Kd.R_mono HO_5.out (fun _ hk => ⟨trivial, hk⟩)) hg (.inl rfl)); have n1_ := Aside0.mk (hp_); have n2_ := Aside0.mk ((by rw [hw]; exact below_set (HB.out) GB34.out : Below w.heap.size w w37)); clear HO_5; clear HO_8; clear HB; have HO_5 := n0_; have HO_8 := n1_; have HB := n2_; clear n0_ n1_ n2_; clear hg hw hp_)))
                                        go_roundg k4
                                        case measure => have := HK1.out; have := HK2.out; have := HK3.out; have := HK4.out; omega
                                        case rel => exact ⟨(y197), ((Int.tdiv x10_4 2) % 4294967296), (wrap64 (x11_4 + 1)), (by first | rfl | (simp; done) | (simp [*]; done) | (simp; omega) | (congr 1; omega)), (by first | rfl | (simp; done) | (simp [*]; done) | (simp; omega) | (congr 1; omega)), H', ⟨by have := HK1.out; have := HK2.out; have := HK3.out; have := HK4.out; omega⟩, ⟨by (with_reducible repeat (first | apply Kd.R_alloc | apply Kd.R_drewN | apply Kd.R_drew)); exact Kd.R_mono HO_5.out (fun _ hk => hk.2)⟩, ⟨by (with_reducible repeat (first | apply Kd.R_alloc | apply Kd.R_drewN | apply Kd.R_drew)); exact HO_8.out⟩, ⟨by repeat (first | (with_reducible first | exact HB.out | apply below_alloc | apply pw_below_drewN | apply below_drew1) | exact HB.out)⟩⟩
                                      · rw [if_neg c33] at H
                                        exact absurd H (by simp)
                                    · rw [if_neg c32] at H
                                      exact absurd H (by simp)
                                  · rw [if_neg c31] at H
                                    have c31b0 : decide (x11_4 < 32) = false := decide_eq_false c31
                                    clear c31
                                    have H' := Aside0.mk H
                                    clear H
                                    go_wp2
                                    repeat (go_quiet (fail); try go_wp2)
                                    go_roundg k4
                                    case measure => have := HK1.out; have := HK2.out; have := HK3.out; have := HK4.out; omega
                                    case rel => exact ⟨(x8_4), (x5_2), (wrap64 (x6_2 + 1)), (by first | rfl | (simp; done) | (simp [*]; done) | (simp; omega) | (congr 1; omega)), H', ⟨by have := HK1.out; have := HK2.out; have := HK3.out; have := HK4.out; omega⟩, ⟨by (with_reducible repeat (first | apply Kd.R_alloc | apply Kd.R_drewN | apply Kd.R_drew)); exact HO_8.out⟩, ⟨by (with_reducible repeat (first | apply Kd.R_alloc | apply Kd.R_drewN | apply Kd.R_drew)); exact HO_5.out⟩, ⟨by repeat (first | (with_reducible first | exact HB.out | apply below_alloc | apply pw_below_drewN | apply below_drew1) | exact HB.out)⟩⟩
                            · rw [if_neg c30] at H
                              have c30b0 : ((rdOf false x3_2 0) != (rdOf false x5_2 x6_2)) = false := by simpa using c30
                              have c30bz : (!((rdOf false x3_2 0) == (rdOf false x5_2 x6_2))) = false := c30b0
                              try rw [c30bz]
                              (try (have c30b1 : decide ((rdOf false x3_2 0) = (rdOf false x5_2 x6_2)) = true := by simpa using c30))
                              (try (have c30b2 : ((rdOf false x3_2 0) == (rdOf false x5_2 x6_2)) = true := by simpa using c30))
                              clear c30
                              have H' := Aside0.mk H
                              clear H
                              go_wp2
                              repeat (go_quiet (fail); try go_wp2)
                              go_roundg k3
                              case measure => have := HK1.out; have := HK2.out; have := HK3.out; omega
                              case rel => exact ⟨(x8_3), (x5_2), (wrap64 (x6_2 + 1)), (by first | rfl | (simp; done) | (simp [*]; done) | (simp; omega) | (congr 1; omega)), H', ⟨by have := HK1.out; have := HK2.out; have := HK3.out; omega⟩, ⟨by (with_reducible repeat (first | apply Kd.R_alloc | apply Kd.R_drewN | apply Kd.R_drew)); exact Kd.R_mono HO_8.out (fun _ hk => hk.2)⟩, ⟨by (with_reducible repeat (first | apply Kd.R_alloc | apply Kd.R_drewN | apply Kd.R_drew)); exact Kd.R_mono HO_5.out (fun _ hk => hk.2)⟩, ⟨by repeat (first | (with_reducible first | exact HB.out | apply below_alloc | apply pw_below_drewN | apply below_drew1) | exact HB.out)⟩⟩
                    · rw [if_neg c16] at H
                      exact absurd H (by simp)
                  · rw [if_neg c15] at H
                    exact absurd H (by simp)
                · rw [if_neg c14] at H
                  exact absurd H (by simp)
              · rw [if_neg c13] at H
                have c13b0 : decide (x6_2 < (x5_2.length : Int)) = false := decide_eq_false c13
                clear c13
                have H' := Aside0.mk H
                clear H
                obtain ⟨Ao38, co38, eo38⟩ := Kd.R_slice HO_5.out
                subst eo38
                go_wp2
                repeat (go_quiet (fail); try go_wp2)
                go_loopg [12, 13] k2 (fun kq v12 v13 w' => ∃ (x12_3 : Int) (x13_3 : Int), v12 = .int .u32 x12_3 ∧ v13 = .int .i64 x13_3 ∧ Aside0 (chicaneref03_Sum.l4 kq x3_2 x12_3 x13_3 = some r) ∧ Aside0 (kq ≤ k2) ∧ Aside0 (Kd.R Kd.bool 4 w' w.heap.size (fun _ => True) u3 x3_2) ∧ Aside0 (Below w.heap.size w w'))
                case atStart => exact ⟨(0), (31), (by first | rfl | (simp; done) | (simp [*]; done) | (simp; omega) | (congr 1; omega)), (by first | rfl | (simp; done) | (simp [*]; done) | (simp; omega) | (congr 1; omega)), H', ⟨Nat.le_refl _⟩, ⟨by (with_reducible repeat (first | apply Kd.R_alloc | apply Kd.R_drewN | apply Kd.R_drew)); exact Kd.R_mono HO_3.out (fun _ hk => trivial)⟩, ⟨by repeat (first | (with_reducible first | exact HB.out | apply below_alloc | apply pw_below_drewN | apply below_drew1) | exact HB.out)⟩⟩
                case round =>
                  clear H'
                  try clear c1
                  try clear p1
                  try clear q1
                  try clear hx1
                  try clear qi1
                  try clear c2
                  try clear c2b0
                  try clear c2b1
                  try clear p2
                  try clear q2
                  try clear hx2
                  try clear hf2
                  try clear c3
                  try clear p3
                  try clear q3
                  try clear hx3
                  try clear hf3
                  try clear c5
                  try clear c5b0
                  try clear c6
                  try clear c6b0
                  try clear p6
                  try clear c7
                  try clear c7b0
                  try clear p8
                  try clear q8
                  try clear hx8
                  try clear hf8
                  try clear c13
                  try clear c13b0
                  try clear c14
                  try clear c14b0
                  try clear c14b1
                  try clear c15
                  try clear c15b0
                  try clear c16
                  try clear c16b0
                  try clear c16b1
                  try clear p18
                  try clear q18
                  try clear hx18
                  try clear qi18
                  try clear p19
                  try clear q19
                  try clear hx19
                  try clear c21
                  try clear c21b0
                  try clear c23
                  try clear c23b0
                  try clear c24
                  try clear c24b0
                  try clear c25
                  try clear c25b0
                  try clear c26
                  try clear c26b0
                  try clear p27
                  try clear q27
                  try clear hx27
                  try clear hf27
                  try clear c30
                  try clear c30b0
                  try clear c30b1
                  try clear c30b2
                  try clear c31
                  try clear c31b0
                  try clear c32
                  try clear c32b0
                  try clear c33
                  try clear c33b0
                  try clear p34
                  try clear q34
                  try clear hx34
                  try clear hf34
                  try clear hx189_0
                  try clear hx190_0
                  try clear hx194_0
                  try clear hx196_0
                  try clear hx27_0
                  try clear hx34_0
                  try clear hx8_0
                  try clear p1
                  try clear p18
                  try clear p189
                  try clear p19
                  try clear p190
                  try clear p194
                  try clear p196
                  try clear p2
                  try clear p27
                  try clear p34
                  try clear p6
                  try clear p8
                  try clear q1
                  try clear q18
                  try clear q189
                  try clear q19
                  try clear q190
                  try clear q194
                  try clear q196
                  try clear q2
                  try clear q27
                  try clear q34
                  try clear q8
                  obtain ⟨x12_3, x13_3, rfl, rfl, HA, HK3, HO_3, HB⟩ := hrel
                  cases gk with
                  | zero => exact absurd HA.out (by simp [chicaneref03_Sum.l4])
                  | succ k3 =>
                    have H := HA.out
                    clear HA
                    simp only [chicaneref03_Sum.l4] at H
                    by_cases c39 : x13_3 ≥ 0
                    · rw [if_pos c39] at H
                      have c39b0 : decide (0 ≤ x13_3) = true := decide_eq_true c39
                      clear c39
                      by_cases c40 : 0 ≤ x13_3
                      · rw [if_pos c40] at H
                        have c40b0 : decide (0 ≤ x13_3) = true := decide_eq_true c40
                        clear c40
                        by_cases c41 : x13_3 < (x3_2.length : Int)
                        · rw [if_pos c41] at H
                          have c41b0 : decide (x13_3 < (x3_2.length : Int)) = true := decide_eq_true c41
                          clear c41
                          obtain ⟨bq42, hbq42⟩ : ∃ b_ : Bool, b_ = (rdOf false x3_2 x13_3) := ⟨_, rfl⟩
                          replace H : (if bq42 = true then (chicaneref03_Sum.l4 k3 x3_2 ((x12_3 * 2) % 4294967296) (wrap64 (x13_3 - 1))) else (chicaneref03_Sum.l4 k3 x3_2 ((((x12_3 * 2) % 4294967296) + 1) % 4294967296) (wrap64 (x13_3 - 1)))) = some r := by rw [← hbq42] at H; exact H
                          have Nbq42 := Aside0.mk hbq42
                          clear hbq42
                          by_cases c43 : bq42 = true
                          · subst c43
                            have H1 : (chicaneref03_Sum.l4 k3 x3_2 ((x12_3 * 2) % 4294967296) (wrap64 (x13_3 - 1))) = some r := by rw [if_pos rfl] at H; exact H
                            clear H
                            have H := H1
                            clear H1
                            have H' := Aside0.mk H
                            clear H
                            obtain ⟨Ao44, co44, eo44⟩ := Kd.R_slice HO_3.out
                            subst eo44
                            have p198 : 0 ≤ (x13_3 : Int) := of_decide_eq_true (by first | (with_reducible assumption) | assumption)
                            have q198 : x13_3 < (x3_2.length : Int) := of_decide_eq_true (by first | (with_reducible assumption) | assumption)
                            obtain ⟨ad198, e198, hx198_0⟩ := Kd.at_bool (Kd.R_reads' HO_3.out).2.2 x13_3 p198 q198
                            (try rw [← Nbq42.out] at hx198_0)
                            cases e198
                            replace p198 := eq_true p198
                            replace q198 := eq_true q198
                            go_wp2
                            repeat (go_quiet (fail); try go_wp2)
                            go_roundg k3
                            case measure => have := HK1.out; have := HK2.out; have := HK3.out; omega
                            case rel => exact ⟨((x12_3 * 2) % 4294967296), (wrap64 (x13_3 - 1)), (by first | rfl | (simp; done) | (simp [*]; done) | (simp; omega) | (congr 1; omega)), (by first | rfl | (simp; done) | (simp [*]; done) | (simp; omega) | (congr 1; omega)), H', ⟨by have := HK1.out; have := HK2.out; have := HK3.out; omega⟩, ⟨by (with_reducible repeat (first | apply Kd.R_alloc | apply Kd.R_drewN | apply Kd.R_drew)); exact HO_3.out⟩, ⟨by repeat (first | (with_reducible first | exact HB.out | apply below_alloc | apply pw_below_drewN | apply below_drew1) | exact HB.out)⟩⟩
                          · replace c43 := Bool.eq_false_iff.mpr c43
                            subst c43
                            have H1 : (chicaneref03_Sum.l4 k3 x3_2 ((((x12_3 * 2) % 4294967296) + 1) % 4294967296) (wrap64 (x13_3 - 1))) = some r := by rw [if_neg (show ¬ (false = true) by decide)] at H; exact H
                            clear H
                            have H := H1
                            clear H1
                            have H' := Aside0.mk H
                            clear H
                            obtain ⟨Ao45, co45, eo45⟩ := Kd.R_slice HO_3.out
                            subst eo45
                            have p198 : 0 ≤ (x13_3 : Int) := of_decide_eq_true (by first | (with_reducible assumption) | assumption)
                            have q198 : x13_3 < (x3_2.length : Int) := of_decide_eq_true (by first | (with_reducible assumption) | assumption)
                            obtain ⟨ad198, e198, hx198_0⟩ := Kd.at_bool (Kd.R_reads' HO_3.out).2.2 x13_3 p198 q198
                            (try rw [← Nbq42.out] at hx198_0)
                            cases e198
                            replace p198 := eq_true p198
                            replace q198 := eq_true q198
                            go_wp2
                            repeat (go_quiet (fail); try go_wp2)
                            go_roundg k3
                            case measure => have := HK1.out; have := HK2.out; have := HK3.out; omega
                            case rel => exact ⟨((((x12_3 * 2) % 4294967296) + 1) % 4294967296), (wrap64 (x13_3 - 1)), (by first | rfl | (simp; done) | (simp [*]; done) | (simp; omega) | (congr 1; omega)), (by first | rfl | (simp; done) | (simp [*]; done) | (simp; omega) | (congr 1; omega)), H', ⟨by have := HK1.out; have := HK2.out; have := HK3.out; omega⟩, ⟨by (with_reducible repeat (first | apply Kd.R_alloc | apply Kd.R_drewN | apply Kd.R_drew)); exact HO_3.out⟩, ⟨by repeat (first | (with_reducible first | exact HB.out | apply below_alloc | apply pw_below_drewN | apply below_drew1) | exact HB.out)⟩⟩
                        · rw [if_neg c41] at H
                          exact absurd H (by simp)
                      · rw [if_neg c40] at H
                        exact absurd H (by simp)
                    · rw [if_neg c39] at H
                      have c39b0 : decide (0 ≤ x13_3) = false := decide_eq_false c39
                      clear c39
                      obtain rfl := Option.some.inj H
                      go_wp2
                      repeat (go_quiet (fail); try go_wp2)
                      go_ret
                      exact ⟨by first | rfl | (simp [errW_none, errW_some] <;> rfl) | (simp [*, errW_none, errW_some] <;> rfl), by repeat (first | (with_reducible first | exact HB.out | apply below_alloc | apply pw_below_drewN | apply below_drew1) | exact HB.out)⟩
  · rw [if_neg c2] at H
    exact absurd H (by simp)

/-! ### chicaneref03_Seal: function 40 -/
def chicaneref03_Seal.f (k : Nat) (a0 : ByteArray) : Option (ByteArray) := (chicaneref03_Sum.f k a0).bind fun t199 => ((chicaneref03_Tail.f t199).bind fun t200 => (if a0.size + t200.size ≤ 9223372036854775807 then (some (a0 ++ t200)) else (none)))
theorem chicaneref03_Seal.mono : ∀ a0 k, LeO (chicaneref03_Seal.f k a0) (chicaneref03_Seal.f (k + 1) a0) := by
  intro a0 k
  unfold chicaneref03_Seal.f
  repeat' first
      | (with_reducible exact chicaneref03_Sum.mono _ _)
      | (with_reducible exact LeO.refl _)
      | (with_reducible exact LeO.none _)
      | (with_reducible refine LeO.ite ?_ ?_)
      | (with_reducible refine LeO.bind ?_ (fun _ => ?_))
      | exact chicaneref03_Sum.mono _ _
      | exact LeO.none _
      | refine LeO.ite ?_ ?_
      | refine LeO.bind ?_ (fun _ => ?_)
set_option maxHeartbeats 8000000 in
set_option maxRecDepth 100000 in
theorem chicaneref03_Seal.calls (k : Nat) (a0 : ByteArray) (r : ByteArray) (w : World) (h : chicaneref03_Seal.f k a0 = some r) :
    Calls Try.prog 40 #[.string a0] w fun e w' => e = .returned (.string r) ∧ Below w.heap.size w w' := by
  have HB := Aside0.mk (Below.refl w.heap.size w)
  have H : ((chicaneref03_Sum.f k a0).bind fun t199 => ((chicaneref03_Tail.f t199).bind fun t200 => (if a0.size + t200.size ≤ 9223372036854775807 then (some (a0 ++ t200)) else (none)))) = some r := h
  clear h
  replace H := Option.bind_eq_some_iff.mp H
  obtain ⟨t199, A20, H⟩ := H
  replace H : ((chicaneref03_Tail.f t199).bind fun t200 => (if a0.size + t200.size ≤ 9223372036854775807 then (some (a0 ++ t200)) else (none))) = some r := H
  have A2 := Aside0.mk A20
  clear A20
  replace H := Option.bind_eq_some_iff.mp H
  obtain ⟨t200, A30, H⟩ := H
  replace H : (if a0.size + t200.size ≤ 9223372036854775807 then (some (a0 ++ t200)) else (none)) = some r := H
  have A3 := Aside0.mk A30
  clear A30
  by_cases c4 : a0.size + t200.size ≤ 9223372036854775807
  · rw [if_pos c4] at H
    have c4b0 := eq_true c4
    have c4b1 : decide (a0.size + t200.size ≤ 9223372036854775807) = true := decide_eq_true c4
    try have c4b2 : (9223372036854775807 < a0.size + t200.size) = False := eq_false (Nat.not_lt.2 c4)
    (try (have c4b3 := c4b2; simp only [ByteArray.size_append] at c4b3))
    obtain rfl := Option.some.inj H
    go_enter Try.func40, Try.ntmps40
    go_wp2_with (first | ((with_reducible refine gate_callee (f := 54) rfl ?_); refine goesL_ (some 5) rfl rfl Try.func54 (by kernel_rfl) rfl #[.string a0] rfl (by (try simp only [List.map_toArray, List.map_cons, List.map_nil]); first | done | rfl | (simp only [List.length_drop, List.length_take]; rfl)) ?_; (with_reducible refine (chicaneref03_Sum.calls k a0 t199 _ A2.out).mono ?_); rintro e w5 ⟨rfl, hb⟩; refine ⟨_, rfl, ?_⟩; have n0_ := Aside0.mk (below_step (by repeat (first | (with_reducible first | exact HB.out | apply below_alloc | apply pw_below_drewN | apply below_drew1) | exact HB.out)) hb); clear HB; have HB := n0_; clear n0_; (try clear hb); (try clear hb2); (try clear hk); (try clear hi)) | ((with_reducible refine gate_callee (f := 53) rfl ?_); refine goesL_ (some 6) rfl rfl Try.func53 (by kernel_rfl) rfl #[.int .u32 t199] rfl (by (try simp only [List.map_toArray, List.map_cons, List.map_nil]); first | done | rfl | (simp only [List.length_drop, List.length_take]; rfl)) ?_; (with_reducible refine (chicaneref03_Tail.calls t199 t200 _ A3.out).mono ?_); rintro e w6 ⟨rfl, hb⟩; refine ⟨_, rfl, ?_⟩; have n0_ := Aside0.mk (below_step (by repeat (first | (with_reducible first | exact HB.out | apply below_alloc | apply pw_below_drewN | apply below_drew1) | exact HB.out)) hb); clear HB; have HB := n0_; clear n0_; (try clear hb); (try clear hb2); (try clear hk); (try clear hi)))
    go_ret
    exact ⟨by first | rfl | (simp [errW_none, errW_some] <;> rfl) | (simp [*, errW_none, errW_some] <;> rfl), by repeat (first | (with_reducible first | exact HB.out | apply below_alloc | apply pw_below_drewN | apply below_drew1) | exact HB.out)⟩
  · rw [if_neg c4] at H
    exact absurd H (by simp)

end Go.Proofs.Ytmklmpajcomimaa.PTraceWrites
