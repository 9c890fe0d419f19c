/- The law's walk. -/
import Derived.Test.YtdpfmemcpipbkaaGreatDoorZLives
section
namespace Go.Proofs.YtdpfmemcpipbkaaGreatDoor.Hand
open Go.RowKit
set_option linter.unusedVariables false
set_option linter.unusedSimpArgs false
set_option maxHeartbeats 32000000 in
set_option maxRecDepth 100000 in
theorem law_calls (A : Option Addr) (c : Nat) (l : List (Int × Int)) (w : World) (hG : Glob w) (hA : ArgAt w A l) : Calls Tryz.prog 3 #[.slice A l.length c] w fun e w' => e = .returned (.bool true) ∧ Below w.heap.size w w' := by
  have HN := Lib.hid (mach_new w)
  have HG := Lib.hid hG
  have HA := Lib.hid hA
  clear hG hA
  go_enter Tryz.func3, Tryz.ntmps3
  go_wp2_with fail
  refine HN.out.mono ?_
  rintro e w1 ⟨mp, hp, dk, mb, rfl, g1, g2, g3, g4, g5, hm, hh, hb1⟩
  have m0 := blk_cell hm 0
  simp only [List.getElem?_toArray, List.getElem?_cons_zero, List.getElem?_cons_succ] at m0
  have hM := Lib.hid (mach_hub mp hp w1 m0)
  have H1 := Lib.hid (And.intro g1 (And.intro g2 (And.intro g3 (And.intro g4 (And.intro g5 (And.intro hm (And.intro hh hb1)))))))
  clear g1 g2 g3 g4 g5 hm hh hb1 m0 HN
  go_wp2_with fail
  refine hM.out.mono ?_
  rintro e w2 ⟨rfl, rfl⟩
  by_cases h40 : (l.length : Int) > 40
  · have h41 : decide ((l.length : Int) > 40) = true := decide_eq_true h40
    have h42 : decide ((40 : Int) < (l.length : Int)) = true := decide_eq_true h40
    have HL := Lib.hid (lives_calls w1 (HG.out.below H1.out.2.2.2.2.2.2.2))
    go_wp2_with fail
    refine HL.out.mono ?_
    rintro e w2 ⟨rfl, hb2⟩
    go_wp2_with fail
    go_ret
    exact ⟨rfl, below_step H1.out.2.2.2.2.2.2.2 hb2⟩
  · have h41 : decide ((l.length : Int) > 40) = false := decide_eq_false h40
    have h42 : decide ((40 : Int) < (l.length : Int)) = false := decide_eq_false h40
    clear h41 h42
    go_wp2_with fail
    obtain ⟨W0, hW0⟩ : ∃ W0, W0 = ((w1.alloc (.cells #[.bool false, .bool false, .bool false, .bool false] 34)).alloc (.cells #[.bool false, .bool false, .bool false, .bool false] 34)).alloc (.cells #[.string ⟨#[97]⟩, .string ⟨#[98]⟩, .string ⟨#[98, 45, 49]⟩, .string ⟨#[99]⟩] 35) := ⟨_, rfl⟩
    rw [← hW0]
    have hb0 : Below w1.heap.size w1 W0 := by rw [hW0]; exact below_alloc (below_alloc (below_alloc (Below.refl _ w1) _ (Nat.le_refl _)) _ (Nat.le_refl _)) _ (Nat.le_refl _)
    have t0 : Blk W0 w1.heap.size (thereC fun _ => none) 34 := by rw [hW0]; exact heap_old _ (heap_old _ (heap_alloc_new w1 _))
    have o0 : Blk W0 (w1.heap.size + 1) (onC fun _ => none) 34 := by
      rw [hW0]
      have := heap_alloc_new (w1.alloc (.cells #[.bool false, .bool false, .bool false, .bool false] 34)) (.cells #[.bool false, .bool false, .bool false, .bool false] 34)
      rw [World.size_alloc] at this
      exact heap_old _ this
    have n0 : Blk W0 (w1.heap.size + 1 + 1) nmC 35 := by
      rw [hW0]
      have := heap_alloc_new ((w1.alloc (.cells #[.bool false, .bool false, .bool false, .bool false] 34)).alloc (.cells #[.bool false, .bool false, .bool false, .bool false] 34)) (.cells #[.string ⟨#[97]⟩, .string ⟨#[98]⟩, .string ⟨#[98, 45, 49]⟩, .string ⟨#[99]⟩] 35)
      rw [World.size_alloc, World.size_alloc] at this
      exact this
    obtain ⟨g1, g2, g3, g4, g5, hm, hh, hb1⟩ := H1.out
    have hI0 : LawI W0 W0 hp dk mb w1.heap.size (w1.heap.size + 1) (fun _ => none) := ⟨t0, o0, hh.below hb0, Fr.refl _ _⟩
    have hw0 : Below w.heap.size w W0 := below_step hb1 hb0
    have hbW : ∀ {wr : World}, Fr (fun b => b = dk ∨ b = w1.heap.size ∨ b = w1.heap.size + 1) W0 wr → Below w.heap.size w wr := fun f => hw0.trans (f.below hw0.size (fun r e => by have := hb1.size; omega))
    have hm0 : Blk W0 mp #[.pointer (some ⟨hp, 0, none⟩)] 44 := (show Blk w1 mp _ _ from hm).lay (AsLay.of_below hb0)
    have H0 := Lib.hid (And.intro n0 (And.intro hm0 (And.intro hI0 @hbW)))
    have HMF := Lib.hid (show ∀ V, Fr (fun b => b = dk ∨ b = w1.heap.size ∨ b = w1.heap.size + 1) W0 V → Blk V mp #[.pointer (some ⟨hp, 0, none⟩)] 44 from fun V f => hm0.fr f (by
      rintro (e | e | e)
      · exact hI0.2.2.1.desk.ne hm0 (by decide) e
      · exact Blk.ne hm0 hI0.1 (by decide) e
      · exact Blk.ne hm0 hI0.2.1 (by decide) e))
    have HD3 : Hid (3 ≤ dk) := by have := HG.out.sz; exact Lib.hid (by omega)
    clear g1 g2 g3 g4 g5 hm hh hb1 hW0 hb0 t0 o0 n0 hI0 hw0 hm0 hbW H1
    go_loopw [49] (fun i wr => ∃ (k : Nat) (st : Nat → Option Bool), k ≤ l.length ∧ i = .int .i64 k ∧ LawI W0 wr hp dk mb w1.heap.size (w1.heap.size + 1) st) (fun i _ => l.length - (intOf i).toNat)
    case atStart => exact ⟨0, _, Nat.zero_le _, rfl, H0.out.2.2.1⟩
    case round =>
      obtain ⟨k, st, hk, rfl, hI⟩ := hrel
      have HI := Lib.hid hI
      clear hI
      by_cases hlt : k < l.length
      · obtain ⟨a, rfl, c0, c1⟩ := (HA.out.below ((H0.out.2.2.2 HI.out.2.2.2).mono (Nat.le_refl _))) k hlt
        obtain ⟨⟨x, y⟩, hxy⟩ : ∃ p, p = l[k]'hlt := ⟨_, rfl⟩
        rw [← hxy] at c0 c1
        rw [add_next] at c1
        simp only at c0 c1
        clear hxy
        by_cases hin : 0 ≤ x ∧ x ≤ 3 ∧ 0 ≤ y ∧ y ≤ 3
        · obtain ⟨x0, x3, y0, y3⟩ := hin
          obtain ⟨κ, rfl⟩ := Int.eq_ofNat_of_zero_le x0
          obtain ⟨ι, rfl⟩ := Int.eq_ofNat_of_zero_le y0
          go_wp2_with fail
          have hκ : κ < 4 := by omega
          have hι : ι < 4 := by omega
          have hι4 : (ι : Int) < 4 := by omega
          have hz : (nm ι).size ≤ 3 := by rcases four ι hι with rfl | rfl | rfl | rfl <;> decide
          have z10 : ¬ 9223372036854775807 < 10 + (nm ι).size := by omega
          have z12 : ¬ 9223372036854775807 < 10 + (nm ι).size + 2 := by omega
          have z11 : ¬ 9223372036854775807 < 11 + (nm ι).size := by omega
          have z3 : ¬ 9223372036854775807 < 3 + (nm ι).size := by omega
          have z4 : ¬ 9223372036854775807 < 4 + (nm ι).size := by omega
          obtain ⟨W2, hW2⟩ : ∃ W2, W2 = wr.alloc (.cells #[.int .i64 κ, .int .i64 ι] 37) := ⟨_, rfl⟩
          rw [← hW2]
          have hb2 : Below wr.heap.size wr W2 := by rw [hW2]; exact below_alloc (Below.refl _ wr) _ (Nat.le_refl _)
          have pb : Blk W2 wr.heap.size #[.int .i64 κ, .int .i64 ι] 37 := by rw [hW2]; exact heap_alloc_new wr _
          have hI2 := HI.out.below hb2
          have hn2 : Blk W2 (w1.heap.size + 1 + 1) nmC 35 := H0.out.1.fr hI2.2.2.2 (by
            rintro (e | e | e)
            · exact Blk.ne H0.out.1 H0.out.2.2.1.2.2.1.desk.choose_spec.choose_spec.choose_spec.choose_spec.choose_spec.blk (by decide) e
            · omega
            · omega)
          have p0 := blk_cell pb 0
          have p1 := blk_cell pb 1
          have n0 := (blk_cell hn2 ι).trans (nmC_get ι hι)
          simp only [List.getElem?_toArray, List.getElem?_cons_zero, List.getElem?_cons_succ] at p0 p1
          have H2 := Lib.hid (And.intro hI2 (And.intro pb (And.intro hn2 hb2)))
          have hix : ∀ W, (Instr.index 35 (.agg #[.string ((⟨#[112, 114, 111, 120, 121, 32, 97, 100, 100, 32]⟩ ++ nm ι) ++ ⟨#[32, 51]⟩), .string (⟨#[112, 114, 111, 120, 121, 32, 100, 114, 111, 112, 32]⟩ ++ nm ι), .string (⟨#[111, 110, 32]⟩ ++ nm ι), .string (⟨#[111, 102, 102, 32]⟩ ++ nm ι)]) (.int .i64 κ)).run Tryz.prog W = .ok (.string (lineTxt κ ι)) W := by
            intro W
            rcases four κ hκ with rfl | rfl | rfl | rfl <;> kernel_rfl
          clear hI2 pb hn2 hb2 hW2 c0 c1 x0 x3 y0 y3
          refine start_n (S := fun W => W.cell? ⟨wr.heap.size, 0, none⟩ = some (.int .i64 κ) ∧ W.cell? ⟨wr.heap.size, 1, none⟩ = some (.int .i64 ι) ∧ W.cell? ⟨w1.heap.size + 1 + 1, ι, none⟩ = some (.string (nm ι))) 26 #[false, false, false, false, false, false, false, false, false, false, false, false, false, false, false, false, false, false, false, false, false, false, false, false, false, false] (by kernel_rfl) rfl rfl ?_ (fun hHeld => ?_)
          · (try dsimp only)
            exact ⟨p0, p1, n0⟩
          refine take_n 0 (some 71) #[true, false, false, false, false, false, false, false, false, false, false, false, false, false, false, false, false, false, false, false, false, false, false, false, false, false] (v := ?_) (a' := ?_) rfl rfl rfl (by kernel_rfl) (by kernel_rfl) (by kernel_rfl) (fun _ _ _ _ h => h) (Or.inl ⟨by rfl, ?_⟩) hHeld ?_ ?_
          rotate_left 2
          · intro w hSw
            (try dsimp only at hSw)
            go_simp
            all_goals (with_reducible rfl)
          · simp only [Act.put, List.setIfInBounds_toArray, List.set_cons_zero, List.set_cons_succ]
            rfl
          refine take_n 1 (some 72) #[true, true, false, false, false, false, false, false, false, false, false, false, false, false, false, false, false, false, false, false, false, false, false, false, false, false] (v := ?_) (a' := ?_) rfl rfl rfl (by kernel_rfl) (by kernel_rfl) (by kernel_rfl) (fun _ _ _ _ h => h) (Or.inl ⟨by rfl, ?_⟩) hHeld ?_ ?_
          rotate_left 2
          · intro w hSw
            (try dsimp only at hSw)
            go_simp
            all_goals (with_reducible rfl)
          · simp only [Act.put, List.setIfInBounds_toArray, List.set_cons_zero, List.set_cons_succ]
            rfl
          refine take_n 2 (some 73) #[true, true, true, false, false, false, false, false, false, false, false, false, false, false, false, false, false, false, false, false, false, false, false, false, false, false] (v := ?_) (a' := ?_) rfl rfl rfl (by kernel_rfl) (by kernel_rfl) (by kernel_rfl) (fun _ _ _ _ h => h) (Or.inl ⟨by rfl, ?_⟩) hHeld ?_ ?_
          rotate_left 2
          · intro w hSw
            (try dsimp only at hSw)
            go_simp
            all_goals (with_reducible rfl)
          · simp only [Act.put, List.setIfInBounds_toArray, List.set_cons_zero, List.set_cons_succ]
            rfl
          refine take_n 3 (some 74) #[true, true, true, true, false, false, false, false, false, false, false, false, false, false, false, false, false, false, false, false, false, false, false, false, false, false] (v := ?_) (a' := ?_) rfl rfl rfl (by kernel_rfl) (by kernel_rfl) (by kernel_rfl) (fun _ _ _ _ h => h) (Or.inl ⟨by rfl, ?_⟩) hHeld ?_ ?_
          rotate_left 2
          · intro w hSw
            (try dsimp only at hSw)
            go_simp
            all_goals (with_reducible rfl)
          · simp only [Act.put, List.setIfInBounds_toArray, List.set_cons_zero, List.set_cons_succ]
            rfl
          refine take_n 4 (some 75) #[true, true, true, true, true, false, false, false, false, false, false, false, false, false, false, false, false, false, false, false, false, false, false, false, false, false] (v := ?_) (a' := ?_) rfl rfl rfl (by kernel_rfl) (by kernel_rfl) (by kernel_rfl) (fun _ _ _ _ h => h) (Or.inl ⟨by rfl, ?_⟩) hHeld ?_ ?_
          rotate_left 2
          · intro w hSw
            (try dsimp only at hSw)
            go_simp
            all_goals (with_reducible rfl)
          · simp only [Act.put, List.setIfInBounds_toArray, List.set_cons_zero, List.set_cons_succ]
            rfl
          refine take_n 5 (some 76) #[true, true, true, true, true, true, false, false, false, false, false, false, false, false, false, false, false, false, false, false, false, false, false, false, false, false] (v := ?_) (a' := ?_) rfl rfl rfl (by kernel_rfl) (by kernel_rfl) (by kernel_rfl) (fun _ _ _ _ h => h) (Or.inl ⟨by rfl, ?_⟩) hHeld ?_ ?_
          rotate_left 2
          · intro w hSw
            (try dsimp only at hSw)
            go_simp
            all_goals (with_reducible rfl)
          · simp only [Act.put, List.setIfInBounds_toArray, List.set_cons_zero, List.set_cons_succ]
            rfl
          refine take_n 6 (some 77) #[true, true, true, true, true, true, true, false, false, false, false, false, false, false, false, false, false, false, false, false, false, false, false, false, false, false] (v := ?_) (a' := ?_) rfl rfl rfl (by kernel_rfl) (by kernel_rfl) (by kernel_rfl) (fun _ _ _ _ h => h) (Or.inl ⟨by rfl, ?_⟩) hHeld ?_ ?_
          rotate_left 2
          · intro w hSw
            (try dsimp only at hSw)
            go_simp
            all_goals (with_reducible rfl)
          · simp only [Act.put, List.setIfInBounds_toArray, List.set_cons_zero, List.set_cons_succ]
            rfl
          refine take_n 7 (some 78) #[true, true, true, true, true, true, true, true, false, false, false, false, false, false, false, false, false, false, false, false, false, false, false, false, false, false] (v := ?_) (a' := ?_) rfl rfl rfl (by kernel_rfl) (by kernel_rfl) (by kernel_rfl) (fun _ _ _ _ h => h) (Or.inl ⟨by rfl, ?_⟩) hHeld ?_ ?_
          rotate_left 2
          · intro w hSw
            (try dsimp only at hSw)
            go_simp
            all_goals (with_reducible rfl)
          · simp only [Act.put, List.setIfInBounds_toArray, List.set_cons_zero, List.set_cons_succ]
            rfl
          refine take_n 8 (some 79) #[true, true, true, true, true, true, true, true, true, false, false, false, false, false, false, false, false, false, false, false, false, false, false, false, false, false] (v := ?_) (a' := ?_) rfl rfl rfl (by kernel_rfl) (by kernel_rfl) (by kernel_rfl) (fun _ _ _ _ h => h) (Or.inl ⟨by rfl, ?_⟩) hHeld ?_ ?_
          rotate_left 2
          · intro w hSw
            (try dsimp only at hSw)
            go_simp
            all_goals (with_reducible rfl)
          · simp only [Act.put, List.setIfInBounds_toArray, List.set_cons_zero, List.set_cons_succ]
            rfl
          refine take_n 9 (some 80) #[true, true, true, true, true, true, true, true, true, true, false, false, false, false, false, false, false, false, false, false, false, false, false, false, false, false] (v := ?_) (a' := ?_) rfl rfl rfl (by kernel_rfl) (by kernel_rfl) (by kernel_rfl) (fun _ _ _ _ h => h) (Or.inl ⟨by rfl, ?_⟩) hHeld ?_ ?_
          rotate_left 2
          · intro w hSw
            (try dsimp only at hSw)
            go_simp
            all_goals (with_reducible rfl)
          · simp only [Act.put, List.setIfInBounds_toArray, List.set_cons_zero, List.set_cons_succ]
            rfl
          refine take_n 10 (some 81) #[true, true, true, true, true, true, true, true, true, true, true, false, false, false, false, false, false, false, false, false, false, false, false, false, false, false] (v := ?_) (a' := ?_) rfl rfl rfl (by kernel_rfl) (by kernel_rfl) (by kernel_rfl) (fun _ _ _ _ h => h) (Or.inl ⟨by rfl, ?_⟩) hHeld ?_ ?_
          rotate_left 2
          · intro w hSw
            (try dsimp only at hSw)
            go_simp
            all_goals (with_reducible rfl)
          · simp only [Act.put, List.setIfInBounds_toArray, List.set_cons_zero, List.set_cons_succ]
            rfl
          refine take_n 11 (some 82) #[true, true, true, true, true, true, true, true, true, true, true, true, false, false, false, false, false, false, false, false, false, false, false, false, false, false] (v := ?_) (a' := ?_) rfl rfl rfl (by kernel_rfl) (by kernel_rfl) (by kernel_rfl) (fun _ _ _ _ h => h) (Or.inl ⟨by rfl, ?_⟩) hHeld ?_ ?_
          rotate_left 2
          · intro w hSw
            (try dsimp only at hSw)
            go_simp
            all_goals (with_reducible rfl)
          · simp only [Act.put, List.setIfInBounds_toArray, List.set_cons_zero, List.set_cons_succ]
            rfl
          refine take_n 12 (some 83) #[true, true, true, true, true, true, true, true, true, true, true, true, true, false, false, false, false, false, false, false, false, false, false, false, false, false] (v := ?_) (a' := ?_) rfl rfl rfl (by kernel_rfl) (by kernel_rfl) (by kernel_rfl) (fun _ _ _ _ h => h) (Or.inl ⟨by rfl, ?_⟩) hHeld ?_ ?_
          rotate_left 2
          · intro w hSw
            (try dsimp only at hSw)
            go_simp
            all_goals (with_reducible rfl)
          · simp only [Act.put, List.setIfInBounds_toArray, List.set_cons_zero, List.set_cons_succ]
            rfl
          refine take_n 13 (some 84) #[true, true, true, true, true, true, true, true, true, true, true, true, true, true, false, false, false, false, false, false, false, false, false, false, false, false] (v := ?_) (a' := ?_) rfl rfl rfl (by kernel_rfl) (by kernel_rfl) (by kernel_rfl) (fun _ _ _ _ h => h) (Or.inl ⟨by rfl, ?_⟩) hHeld ?_ ?_
          rotate_left 2
          · intro w hSw
            (try dsimp only at hSw)
            go_simp
            all_goals (with_reducible rfl)
          · simp only [Act.put, List.setIfInBounds_toArray, List.set_cons_zero, List.set_cons_succ]
            rfl
          refine take_n 14 (some 85) #[true, true, true, true, true, true, true, true, true, true, true, true, true, true, true, false, false, false, false, false, false, false, false, false, false, false] (v := ?_) (a' := ?_) rfl rfl rfl (by kernel_rfl) (by kernel_rfl) (by kernel_rfl) (fun _ _ _ _ h => h) (Or.inl ⟨by rfl, ?_⟩) hHeld ?_ ?_
          rotate_left 2
          · intro w hSw
            (try dsimp only at hSw)
            go_simp
            all_goals (with_reducible rfl)
          · simp only [Act.put, List.setIfInBounds_toArray, List.set_cons_zero, List.set_cons_succ]
            rfl
          refine take_n 15 (some 86) #[true, true, true, true, true, true, true, true, true, true, true, true, true, true, true, true, false, false, false, false, false, false, false, false, false, false] (v := ?_) (a' := ?_) rfl rfl rfl (by kernel_rfl) (by kernel_rfl) (by kernel_rfl) (fun _ _ _ _ h => h) (Or.inl ⟨by rfl, ?_⟩) hHeld ?_ ?_
          rotate_left 2
          · intro w hSw
            (try dsimp only at hSw)
            go_simp
            all_goals (with_reducible rfl)
          · simp only [Act.put, List.setIfInBounds_toArray, List.set_cons_zero, List.set_cons_succ]
            rfl
          refine take_n 16 (some 87) #[true, true, true, true, true, true, true, true, true, true, true, true, true, true, true, true, true, false, false, false, false, false, false, false, false, false] (v := ?_) (a' := ?_) rfl rfl rfl (by kernel_rfl) (by kernel_rfl) (by kernel_rfl) (fun _ _ _ _ h => h) (Or.inl ⟨by rfl, ?_⟩) hHeld ?_ ?_
          rotate_left 2
          · intro w hSw
            (try dsimp only at hSw)
            go_simp
            all_goals (with_reducible rfl)
          · simp only [Act.put, List.setIfInBounds_toArray, List.set_cons_zero, List.set_cons_succ]
            rfl
          refine take_n 17 (some 88) #[true, true, true, true, true, true, true, true, true, true, true, true, true, true, true, true, true, true, false, false, false, false, false, false, false, false] (v := ?_) (a' := ?_) rfl rfl rfl (by kernel_rfl) (by kernel_rfl) (by kernel_rfl) (fun _ _ _ _ h => h) (Or.inl ⟨by rfl, ?_⟩) hHeld ?_ ?_
          rotate_left 2
          · intro w hSw
            (try dsimp only at hSw)
            go_simp
            all_goals (with_reducible rfl)
          · simp only [Act.put, List.setIfInBounds_toArray, List.set_cons_zero, List.set_cons_succ]
            rfl
          refine take_n 18 (some 89) #[true, true, true, true, true, true, true, true, true, true, true, true, true, true, true, true, true, true, true, false, false, false, false, false, false, false] (v := ?_) (a' := ?_) rfl rfl rfl (by kernel_rfl) (by kernel_rfl) (by kernel_rfl) (fun _ _ _ _ h => h) (Or.inl ⟨by rfl, ?_⟩) hHeld ?_ ?_
          rotate_left 2
          · intro w hSw
            (try dsimp only at hSw)
            go_simp
            all_goals (with_reducible rfl)
          · simp only [Act.put, List.setIfInBounds_toArray, List.set_cons_zero, List.set_cons_succ]
            rfl
          refine take_n 19 (some 90) #[true, true, true, true, true, true, true, true, true, true, true, true, true, true, true, true, true, true, true, true, false, false, false, false, false, false] (v := ?_) (a' := ?_) rfl rfl rfl (by kernel_rfl) (by kernel_rfl) (by kernel_rfl) (fun _ _ _ _ h => h) (Or.inl ⟨by rfl, ?_⟩) hHeld ?_ ?_
          rotate_left 2
          · intro w hSw
            (try dsimp only at hSw)
            go_simp
            all_goals (with_reducible rfl)
          · simp only [Act.put, List.setIfInBounds_toArray, List.set_cons_zero, List.set_cons_succ]
            rfl
          refine take_n 20 (some 91) #[true, true, true, true, true, true, true, true, true, true, true, true, true, true, true, true, true, true, true, true, true, false, false, false, false, false] (v := ?_) (a' := ?_) rfl rfl rfl (by kernel_rfl) (by kernel_rfl) (by kernel_rfl) (fun _ _ _ _ h => h) (Or.inl ⟨by rfl, ?_⟩) hHeld ?_ ?_
          rotate_left 2
          · intro w hSw
            (try dsimp only at hSw)
            go_simp
            all_goals (with_reducible rfl)
          · simp only [Act.put, List.setIfInBounds_toArray, List.set_cons_zero, List.set_cons_succ]
            rfl
          refine take_n 21 (some 92) #[true, true, true, true, true, true, true, true, true, true, true, true, true, true, true, true, true, true, true, true, true, true, false, false, false, false] (v := ?_) (a' := ?_) rfl rfl rfl (by kernel_rfl) (by kernel_rfl) (by kernel_rfl) (fun _ _ _ _ h => h) (Or.inl ⟨by rfl, ?_⟩) hHeld ?_ ?_
          rotate_left 2
          · intro w hSw
            (try dsimp only at hSw)
            go_simp
            all_goals (with_reducible rfl)
          · simp only [Act.put, List.setIfInBounds_toArray, List.set_cons_zero, List.set_cons_succ]
            rfl
          refine take_n 22 (some 93) #[true, true, true, true, true, true, true, true, true, true, true, true, true, true, true, true, true, true, true, true, true, true, true, false, false, false] (v := ?_) (a' := ?_) rfl rfl rfl (by kernel_rfl) (by kernel_rfl) (by kernel_rfl) (fun _ _ _ _ h => h) (Or.inl ⟨by rfl, ?_⟩) hHeld ?_ ?_
          rotate_left 2
          · intro w hSw
            (try dsimp only at hSw)
            go_simp
            all_goals (with_reducible rfl)
          · simp only [Act.put, List.setIfInBounds_toArray, List.set_cons_zero, List.set_cons_succ]
            rfl
          refine take_n 23 (some 94) #[true, true, true, true, true, true, true, true, true, true, true, true, true, true, true, true, true, true, true, true, true, true, true, true, false, false] (v := ?_) (a' := ?_) rfl rfl rfl (by kernel_rfl) (by kernel_rfl) (by kernel_rfl) (fun _ _ _ _ h => h) (Or.inl ⟨by rfl, ?_⟩) hHeld ?_ ?_
          rotate_left 2
          · intro w hSw
            (try dsimp only at hSw)
            go_simp
            all_goals (with_reducible rfl)
          · simp only [Act.put, List.setIfInBounds_toArray, List.set_cons_zero, List.set_cons_succ]
            rfl
          refine take_n 24 (some 95) #[true, true, true, true, true, true, true, true, true, true, true, true, true, true, true, true, true, true, true, true, true, true, true, true, true, false] (v := ?_) (a' := ?_) rfl rfl rfl (by kernel_rfl) (by kernel_rfl) (by kernel_rfl) (fun _ _ _ _ h => h) (Or.inl ⟨by rfl, ?_⟩) hHeld ?_ ?_
          rotate_left 2
          · intro w hSw
            (try dsimp only at hSw)
            go_simp
            all_goals (with_reducible rfl)
          · simp only [Act.put, List.setIfInBounds_toArray, List.set_cons_zero, List.set_cons_succ]
            rfl
          refine take_n 25 (some 10) #[true, true, true, true, true, true, true, true, true, true, true, true, true, true, true, true, true, true, true, true, true, true, true, true, true, true] (v := ?_) (a' := ?_) rfl rfl rfl (by kernel_rfl) (by kernel_rfl) (by kernel_rfl) (fun _ _ _ _ h => h) (Or.inl ⟨by rfl, ?_⟩) hHeld ?_ ?_
          rotate_left 2
          · intro w hSw
            (try dsimp only at hSw)
            go_simp
            all_goals (with_reducible rfl)
          · simp only [Act.put, List.setIfInBounds_toArray, List.set_cons_zero, List.set_cons_succ]
            rfl
          refine wpAnyH_done (by kernel_rfl) ?_ _
          clear hHeld hix n0 p0 p1 z10 z12 z11 z3 z4 hz
          have hb3 : Below W2.heap.size W2 W2.drew := (Below.refl _ W2).drew
          have hI3 := H2.out.1.below hb3
          have pb3 := H2.out.2.1.lay (AsLay.of_below hb3)
          obtain ⟨W3, hW3⟩ : ∃ W3, W3 = W2.drew := ⟨_, rfl⟩
          rw [← hW3] at hI3 pb3 ⊢
          have p0 := blk_cell pb3 0
          have p1 := blk_cell pb3 1
          have y0 := (blk_cell hI3.1 ι).trans (thereC_get st ι hι)
          simp only [List.getElem?_toArray, List.getElem?_cons_zero, List.getElem?_cons_succ] at p0 p1
          have q0 := (blk_cell hI3.2.1 ι).trans (onC_get st ι hι)
          have yf := blk_frozen hI3.1 ι
          have qf := blk_frozen hI3.2.1 ι
          have yz := blk_lt hI3.1
          have qz := blk_lt hI3.2.1
          have hne1 : wr.heap.size ≠ w1.heap.size := by have := HI.out.1; have := blk_lt this; omega
          have hne2 : wr.heap.size ≠ w1.heap.size + 1 := by have := HI.out.2.1; have := blk_lt this; omega
          have H3 := Lib.hid (And.intro hI3 pb3)
          clear hb3 hI3 pb3 hW3 H2
          rcases hst : st ι with _ | b
          · rw [hst] at y0
            have HST := Lib.hid hst
            clear hst
            unfold isB at y0
            by_cases hκ0 : κ = 0
            · subst hκ0
              go_wp2_with fail
              refine start_n (S := fun W => W.cell? ⟨wr.heap.size, 0, none⟩ = some (.int .i64 0) ∧ W.cell? ⟨wr.heap.size, 1, none⟩ = some (.int .i64 ι)) 19 #[false, false, false, false, false, false, false, false, false, false, false, false, false, false, false, false, false, false, false] (by kernel_rfl) rfl rfl ?_ (fun hHeld => ?_)
              · (try dsimp only)
                exact ⟨p0, p1⟩
              refine take_n 0 (some 96) #[true, false, false, false, false, false, false, false, false, false, false, false, false, false, false, false, false, false, false] (v := ?_) (a' := ?_) rfl rfl rfl (by kernel_rfl) (by kernel_rfl) (by kernel_rfl) (fun _ _ _ _ h => h) (Or.inl ⟨by rfl, ?_⟩) hHeld ?_ ?_
              rotate_left 2
              · intro w hSw
                (try dsimp only at hSw)
                go_simp
                all_goals (with_reducible rfl)
              · simp only [Act.put, List.setIfInBounds_toArray, List.set_cons_zero, List.set_cons_succ]
                rfl
              refine take_n 1 (some 97) #[true, true, false, false, false, false, false, false, false, false, false, false, false, false, false, false, false, false, false] (v := ?_) (a' := ?_) rfl rfl rfl (by kernel_rfl) (by kernel_rfl) (by kernel_rfl) (fun _ _ _ _ h => h) (Or.inl ⟨by rfl, ?_⟩) hHeld ?_ ?_
              rotate_left 2
              · intro w hSw
                (try dsimp only at hSw)
                go_simp
                all_goals (with_reducible rfl)
              · simp only [Act.put, List.setIfInBounds_toArray, List.set_cons_zero, List.set_cons_succ]
                rfl
              refine take_n 2 (some 98) #[true, true, true, false, false, false, false, false, false, false, false, false, false, false, false, false, false, false, false] (v := ?_) (a' := ?_) rfl rfl rfl (by kernel_rfl) (by kernel_rfl) (by kernel_rfl) (fun _ _ _ _ h => h) (Or.inl ⟨by rfl, ?_⟩) hHeld ?_ ?_
              rotate_left 2
              · intro w hSw
                (try dsimp only at hSw)
                go_simp
                all_goals (with_reducible rfl)
              · simp only [Act.put, List.setIfInBounds_toArray, List.set_cons_zero, List.set_cons_succ]
                rfl
              refine take_n 3 (some 99) #[true, true, true, true, false, false, false, false, false, false, false, false, false, false, false, false, false, false, false] (v := ?_) (a' := ?_) rfl rfl rfl (by kernel_rfl) (by kernel_rfl) (by kernel_rfl) (fun _ _ _ _ h => h) (Or.inl ⟨by rfl, ?_⟩) hHeld ?_ ?_
              rotate_left 2
              · intro w hSw
                (try dsimp only at hSw)
                go_simp
                all_goals (with_reducible rfl)
              · simp only [Act.put, List.setIfInBounds_toArray, List.set_cons_zero, List.set_cons_succ]
                rfl
              refine take_n 4 (some 100) #[true, true, true, true, true, false, false, false, false, false, false, false, false, false, false, false, false, false, false] (v := ?_) (a' := ?_) rfl rfl rfl (by kernel_rfl) (by kernel_rfl) (by kernel_rfl) (fun _ _ _ _ h => h) (Or.inl ⟨by rfl, ?_⟩) hHeld ?_ ?_
              rotate_left 2
              · intro w hSw
                (try dsimp only at hSw)
                go_simp
                all_goals (with_reducible rfl)
              · simp only [Act.put, List.setIfInBounds_toArray, List.set_cons_zero, List.set_cons_succ]
                rfl
              refine take_n 5 (some 101) #[true, true, true, true, true, true, false, false, false, false, false, false, false, false, false, false, false, false, false] (v := ?_) (a' := ?_) rfl rfl rfl (by kernel_rfl) (by kernel_rfl) (by kernel_rfl) (fun _ _ _ _ h => h) (Or.inl ⟨by rfl, ?_⟩) hHeld ?_ ?_
              rotate_left 2
              · intro w hSw
                (try dsimp only at hSw)
                go_simp
                all_goals (with_reducible rfl)
              · simp only [Act.put, List.setIfInBounds_toArray, List.set_cons_zero, List.set_cons_succ]
                rfl
              refine take_n 6 (some 102) #[true, true, true, true, true, true, true, false, false, false, false, false, false, false, false, false, false, false, false] (v := ?_) (a' := ?_) rfl rfl rfl (by kernel_rfl) (by kernel_rfl) (by kernel_rfl) (fun _ _ _ _ h => h) (Or.inl ⟨by rfl, ?_⟩) hHeld ?_ ?_
              rotate_left 2
              · intro w hSw
                (try dsimp only at hSw)
                go_simp
                all_goals (with_reducible rfl)
              · simp only [Act.put, List.setIfInBounds_toArray, List.set_cons_zero, List.set_cons_succ]
                rfl
              refine take_n 7 (some 103) #[true, true, true, true, true, true, true, true, false, false, false, false, false, false, false, false, false, false, false] (v := ?_) (a' := ?_) rfl rfl rfl (by kernel_rfl) (by kernel_rfl) (by kernel_rfl) (fun _ _ _ _ h => h) (Or.inl ⟨by rfl, ?_⟩) hHeld ?_ ?_
              rotate_left 2
              · intro w hSw
                (try dsimp only at hSw)
                go_simp
                all_goals (with_reducible rfl)
              · simp only [Act.put, List.setIfInBounds_toArray, List.set_cons_zero, List.set_cons_succ]
                rfl
              refine take_n 8 (some 104) #[true, true, true, true, true, true, true, true, true, false, false, false, false, false, false, false, false, false, false] (v := ?_) (a' := ?_) rfl rfl rfl (by kernel_rfl) (by kernel_rfl) (by kernel_rfl) (fun _ _ _ _ h => h) (Or.inl ⟨by rfl, ?_⟩) hHeld ?_ ?_
              rotate_left 2
              · intro w hSw
                (try dsimp only at hSw)
                go_simp
                all_goals (with_reducible rfl)
              · simp only [Act.put, List.setIfInBounds_toArray, List.set_cons_zero, List.set_cons_succ]
                rfl
              refine take_n 9 (some 105) #[true, true, true, true, true, true, true, true, true, true, false, false, false, false, false, false, false, false, false] (v := ?_) (a' := ?_) rfl rfl rfl (by kernel_rfl) (by kernel_rfl) (by kernel_rfl) (fun _ _ _ _ h => h) (Or.inl ⟨by rfl, ?_⟩) hHeld ?_ ?_
              rotate_left 2
              · intro w hSw
                (try dsimp only at hSw)
                go_simp
                all_goals (with_reducible rfl)
              · simp only [Act.put, List.setIfInBounds_toArray, List.set_cons_zero, List.set_cons_succ]
                rfl
              refine take_n 10 (some 106) #[true, true, true, true, true, true, true, true, true, true, true, false, false, false, false, false, false, false, false] (v := ?_) (a' := ?_) rfl rfl rfl (by kernel_rfl) (by kernel_rfl) (by kernel_rfl) (fun _ _ _ _ h => h) (Or.inl ⟨by rfl, ?_⟩) hHeld ?_ ?_
              rotate_left 2
              · intro w hSw
                (try dsimp only at hSw)
                go_simp
                all_goals (with_reducible rfl)
              · simp only [Act.put, List.setIfInBounds_toArray, List.set_cons_zero, List.set_cons_succ]
                rfl
              refine take_n 11 (some 107) #[true, true, true, true, true, true, true, true, true, true, true, true, false, false, false, false, false, false, false] (v := undef) (a' := ?_) rfl rfl rfl (by kernel_rfl) (by kernel_rfl) (by kernel_rfl) (fun _ _ _ _ h => h) (Or.inr ⟨by rfl, rfl⟩) hHeld ?_ ?_
              rotate_left
              · simp only [Act.put, List.setIfInBounds_toArray, List.set_cons_zero, List.set_cons_succ]
                rfl
              refine take_n 12 (some 108) #[true, true, true, true, true, true, true, true, true, true, true, true, true, false, false, false, false, false, false] (v := undef) (a' := ?_) rfl rfl rfl (by kernel_rfl) (by kernel_rfl) (by kernel_rfl) (fun _ _ _ _ h => h) (Or.inr ⟨by rfl, rfl⟩) hHeld ?_ ?_
              rotate_left
              · simp only [Act.put, List.setIfInBounds_toArray, List.set_cons_zero, List.set_cons_succ]
                rfl
              refine take_n 13 (some 109) #[true, true, true, true, true, true, true, true, true, true, true, true, true, true, false, false, false, false, false] (v := undef) (a' := ?_) rfl rfl rfl (by kernel_rfl) (by kernel_rfl) (by kernel_rfl) (fun _ _ _ _ h => h) (Or.inr ⟨by rfl, rfl⟩) hHeld ?_ ?_
              rotate_left
              · simp only [Act.put, List.setIfInBounds_toArray, List.set_cons_zero, List.set_cons_succ]
                rfl
              refine take_n 14 (some 110) #[true, true, true, true, true, true, true, true, true, true, true, true, true, true, true, false, false, false, false] (v := ?_) (a' := ?_) rfl rfl rfl (by kernel_rfl) (by kernel_rfl) (by kernel_rfl) (fun _ _ _ _ h => h) (Or.inl ⟨by rfl, ?_⟩) hHeld ?_ ?_
              rotate_left 2
              · intro w hSw
                (try dsimp only at hSw)
                go_simp
                all_goals (with_reducible rfl)
              · simp only [Act.put, List.setIfInBounds_toArray, List.set_cons_zero, List.set_cons_succ]
                rfl
              refine take_n 15 (some 111) #[true, true, true, true, true, true, true, true, true, true, true, true, true, true, true, true, false, false, false] (v := ?_) (a' := ?_) rfl rfl rfl (by kernel_rfl) (by kernel_rfl) (by kernel_rfl) (fun _ _ _ _ h => h) (Or.inl ⟨by rfl, ?_⟩) hHeld ?_ ?_
              rotate_left 2
              · intro w hSw
                (try dsimp only at hSw)
                go_simp
                all_goals (with_reducible rfl)
              · simp only [Act.put, List.setIfInBounds_toArray, List.set_cons_zero, List.set_cons_succ]
                rfl
              refine one_n 16 #[true, true, true, true, true, true, true, true, true, true, true, true, true, true, true, true, true, false, false] rfl rfl (by kernel_rfl) (fun K hK => ?_)
              go_simp
              refine hK.out _ ?_ _ ?_ ?_ (fun hHeld => ?_)
              rotate_left
              · (try simp only [Act.put, List.setIfInBounds_toArray, List.set_cons_zero, List.set_cons_succ])
                rfl
              · (try dsimp only)
                exact ⟨(World.cell?_setCell_other _ _ _ _ (by intro e; injection e; omega)).trans hHeld.1, (World.cell?_setCell_other _ _ _ _ (by intro e; injection e; omega)).trans hHeld.2⟩
              clear hK K
              refine take_n 17 (some 112) #[true, true, true, true, true, true, true, true, true, true, true, true, true, true, true, true, true, true, false] (v := ?_) (a' := ?_) rfl rfl rfl (by kernel_rfl) (by kernel_rfl) (by kernel_rfl) (fun _ _ _ _ h => h) (Or.inl ⟨by rfl, ?_⟩) hHeld ?_ ?_
              rotate_left 2
              · intro w hSw
                (try dsimp only at hSw)
                go_simp
                all_goals (with_reducible rfl)
              · simp only [Act.put, List.setIfInBounds_toArray, List.set_cons_zero, List.set_cons_succ]
                rfl
              refine one_n 18 #[true, true, true, true, true, true, true, true, true, true, true, true, true, true, true, true, true, true, true] rfl rfl (by kernel_rfl) (fun K hK => ?_)
              go_simp
              refine hK.out _ ?_ _ ?_ ?_ (fun hHeld => ?_)
              rotate_left
              · (try simp only [Act.put, List.setIfInBounds_toArray, List.set_cons_zero, List.set_cons_succ])
                rfl
              · (try dsimp only)
                exact ⟨(World.cell?_setCell_other _ _ _ _ (by intro e; injection e; omega)).trans hHeld.1, (World.cell?_setCell_other _ _ _ _ (by intro e; injection e; omega)).trans hHeld.2⟩
              clear hK K
              refine wpAnyH_done (by kernel_rfl) ?_ _
              clear hHeld
              have hput := H3.out.1.put ι hι (nextOf 0 (st ι)) true true (by rw [HST.out]; exact rfl) (by rw [HST.out]; exact rfl) (by omega)
              obtain ⟨V, hV⟩ : ∃ V, V = ((W3.setCell ⟨w1.heap.size, ι, none⟩ (.bool true)).setCell ⟨w1.heap.size + 1, ι, none⟩ (.bool true)).drew := ⟨_, rfl⟩
              have hbV : Below ((W3.setCell ⟨w1.heap.size, ι, none⟩ (.bool true)).setCell ⟨w1.heap.size + 1, ι, none⟩ (.bool true)).heap.size ((W3.setCell ⟨w1.heap.size, ι, none⟩ (.bool true)).setCell ⟨w1.heap.size + 1, ι, none⟩ (.bool true)) V := by rw [hV]; exact (Below.refl _ _).drew
              rw [← hV]
              have hV1 := hput.1.lay (AsLay.of_below hbV)
              have hV2 := hput.2.1.lay (AsLay.of_below hbV)
              have hV3 := hput.2.2.1.below hbV
              have hV4 := hput.2.2.2.then_below hbV
              clear hput hbV hV
              have hmc := blk_cell (HMF.out V hV4) 0
              simp only [List.getElem?_toArray, List.getElem?_cons_zero, List.getElem?_cons_succ] at hmc
              have HM4 := Lib.hid (mach_hub mp hp V hmc)
              have HL4 := Lib.hid (line_step 0 ι hκ hι st hp dk mb 0 1 5 0 HD3.out V (HG.out.below (H0.out.2.2.2 hV4)) hV3)
              have H4 := Lib.hid (And.intro hV1 (And.intro hV2 (And.intro hV3 hV4)))
              clear hmc hV1 hV2 hV3 hV4 p0 p1 y0 q0 yf qf yz qz
              go_wp2_with fail
              refine HM4.out.mono ?_
              rintro e w5 ⟨rfl, rfl⟩
              go_wp2_with fail
              refine HL4.out.mono ?_
              rintro e w6 ⟨u, rfl, hs6, hh6, hf6⟩
              obtain ⟨gl, cl, curl, rfl, hgl, hbl, hxl⟩ := says_one hs6
              have e6 := (blk_cell hbl 0).trans hxl
              rw [HST.out, (show toldOf 0 none = okB from rfl)] at e6
              unfold okB at e6
              have H6 := Lib.hid (LawI.line H4.out.1 H4.out.2.1 H4.out.2.2.1 H4.out.2.2.2 hh6 hf6)
              clear hs6 hh6 hf6 hgl hbl hxl HL4 HM4
              go_wp2_with fail
              exact ⟨⟨k + 1, _, by omega, by go_num, H6.out⟩, by simp [intOf]; omega⟩
            · have hκ1 : ((κ : Int) == 0) = false := beq_false_of_ne (by omega)
              have hκ2 : (0 : Int) < κ := by omega
              go_wp2_with fail
              have hs' : upd st ι (nextOf κ (st ι)) = st := st_upd_self st ι _ (by rw [HST.out]; exact (nextOf_none κ hκ hκ0).symm)
              obtain ⟨V, hV⟩ : ∃ V, V = W3 := ⟨_, rfl⟩
              rw [← hV]
              have hV1 : Blk V w1.heap.size (thereC (upd st ι (nextOf κ (st ι)))) 34 := by rw [hs', hV]; exact H3.out.1.1
              have hV2 : Blk V (w1.heap.size + 1) (onC (upd st ι (nextOf κ (st ι)))) 34 := by rw [hs', hV]; exact H3.out.1.2.1
              have hV3 : HubAt V hp dk 1 5 0 mb 0 (reg st) := by rw [hV]; exact H3.out.1.2.2.1
              have hV4 : Fr (fun b => b = dk ∨ b = w1.heap.size ∨ b = w1.heap.size + 1) W0 V := by rw [hV]; exact H3.out.1.2.2.2
              clear hs' hV
              have hmc := blk_cell (HMF.out V hV4) 0
              simp only [List.getElem?_toArray, List.getElem?_cons_zero, List.getElem?_cons_succ] at hmc
              have HM4 := Lib.hid (mach_hub mp hp V hmc)
              have HL4 := Lib.hid (line_step κ ι hκ hι st hp dk mb 0 1 5 0 HD3.out V (HG.out.below (H0.out.2.2.2 hV4)) hV3)
              have H4 := Lib.hid (And.intro hV1 (And.intro hV2 (And.intro hV3 hV4)))
              clear hmc hV1 hV2 hV3 hV4 p0 p1 y0 q0 yf qf yz qz
              go_wp2_with fail
              refine HM4.out.mono ?_
              rintro e w5 ⟨rfl, rfl⟩
              go_wp2_with fail
              refine HL4.out.mono ?_
              rintro e w6 ⟨u, rfl, hs6, hh6, hf6⟩
              obtain ⟨gl, cl, curl, rfl, hgl, hbl, hxl⟩ := says_one hs6
              have e6 := (blk_cell hbl 0).trans hxl
              rw [HST.out, told_none κ hκ hκ0] at e6
              unfold e142 at e6
              have H6 := Lib.hid (LawI.line H4.out.1 H4.out.2.1 H4.out.2.2.1 H4.out.2.2.2 hh6 hf6)
              clear hs6 hh6 hf6 hgl hbl hxl HL4 HM4
              go_wp2_with fail
              exact ⟨⟨k + 1, _, by omega, by go_num, H6.out⟩, by simp [intOf]; omega⟩
          · rw [hst] at y0
            have HST := Lib.hid hst
            clear hst
            unfold isB at y0
            by_cases hκ0 : κ = 0
            · subst hκ0
              go_wp2_with fail
              have hs' : upd st ι (nextOf 0 (st ι)) = st := st_upd_self st ι _ (by rw [HST.out]; exact rfl)
              obtain ⟨V, hV⟩ : ∃ V, V = W3 := ⟨_, rfl⟩
              rw [← hV]
              have hV1 : Blk V w1.heap.size (thereC (upd st ι (nextOf 0 (st ι)))) 34 := by rw [hs', hV]; exact H3.out.1.1
              have hV2 : Blk V (w1.heap.size + 1) (onC (upd st ι (nextOf 0 (st ι)))) 34 := by rw [hs', hV]; exact H3.out.1.2.1
              have hV3 : HubAt V hp dk 1 5 0 mb 0 (reg st) := by rw [hV]; exact H3.out.1.2.2.1
              have hV4 : Fr (fun b => b = dk ∨ b = w1.heap.size ∨ b = w1.heap.size + 1) W0 V := by rw [hV]; exact H3.out.1.2.2.2
              clear hs' hV
              have hmc := blk_cell (HMF.out V hV4) 0
              simp only [List.getElem?_toArray, List.getElem?_cons_zero, List.getElem?_cons_succ] at hmc
              have HM4 := Lib.hid (mach_hub mp hp V hmc)
              have HL4 := Lib.hid (line_step 0 ι hκ hι st hp dk mb 0 1 5 0 HD3.out V (HG.out.below (H0.out.2.2.2 hV4)) hV3)
              have H4 := Lib.hid (And.intro hV1 (And.intro hV2 (And.intro hV3 hV4)))
              clear hmc hV1 hV2 hV3 hV4 p0 p1 y0 q0 yf qf yz qz
              go_wp2_with fail
              refine HM4.out.mono ?_
              rintro e w5 ⟨rfl, rfl⟩
              go_wp2_with fail
              refine HL4.out.mono ?_
              rintro e w6 ⟨u, rfl, hs6, hh6, hf6⟩
              obtain ⟨gl, cl, curl, rfl, hgl, hbl, hxl⟩ := says_one hs6
              have e6 := (blk_cell hbl 0).trans hxl
              rw [HST.out, (show toldOf 0 (some b) = e141 from rfl)] at e6
              unfold e141 at e6
              have H6 := Lib.hid (LawI.line H4.out.1 H4.out.2.1 H4.out.2.2.1 H4.out.2.2.2 hh6 hf6)
              clear hs6 hh6 hf6 hgl hbl hxl HL4 HM4
              go_wp2_with fail
              exact ⟨⟨k + 1, _, by omega, by go_num, H6.out⟩, by simp [intOf]; omega⟩
            · have hκ1 : ((κ : Int) == 0) = false := beq_false_of_ne (by omega)
              have hκ2 : (0 : Int) < κ := by omega
              go_wp2_with fail
              refine start_n (S := fun W => W.cell? ⟨wr.heap.size, 0, none⟩ = some (.int .i64 κ) ∧ W.cell? ⟨wr.heap.size, 1, none⟩ = some (.int .i64 ι)) 19 #[false, false, false, false, false, false, false, false, false, false, false, false, false, false, false, false, false, false, false] (by kernel_rfl) rfl rfl ?_ (fun hHeld => ?_)
              · (try dsimp only)
                exact ⟨p0, p1⟩
              refine take_n 0 (some 96) #[true, false, false, false, false, false, false, false, false, false, false, false, false, false, false, false, false, false, false] (v := ?_) (a' := ?_) rfl rfl rfl (by kernel_rfl) (by kernel_rfl) (by kernel_rfl) (fun _ _ _ _ h => h) (Or.inl ⟨by rfl, ?_⟩) hHeld ?_ ?_
              rotate_left 2
              · intro w hSw
                (try dsimp only at hSw)
                go_simp
                all_goals (with_reducible rfl)
              · simp only [Act.put, List.setIfInBounds_toArray, List.set_cons_zero, List.set_cons_succ]
                rfl
              refine take_n 1 (some 97) #[true, true, false, false, false, false, false, false, false, false, false, false, false, false, false, false, false, false, false] (v := ?_) (a' := ?_) rfl rfl rfl (by kernel_rfl) (by kernel_rfl) (by kernel_rfl) (fun _ _ _ _ h => h) (Or.inl ⟨by rfl, ?_⟩) hHeld ?_ ?_
              rotate_left 2
              · intro w hSw
                (try dsimp only at hSw)
                go_simp
                all_goals (with_reducible rfl)
              · simp only [Act.put, List.setIfInBounds_toArray, List.set_cons_zero, List.set_cons_succ]
                rfl
              refine take_n 2 (some 98) #[true, true, true, false, false, false, false, false, false, false, false, false, false, false, false, false, false, false, false] (v := ?_) (a' := ?_) rfl rfl rfl (by kernel_rfl) (by kernel_rfl) (by kernel_rfl) (fun _ _ _ _ h => h) (Or.inl ⟨by rfl, ?_⟩) hHeld ?_ ?_
              rotate_left 2
              · intro w hSw
                (try dsimp only at hSw)
                go_simp
                all_goals (with_reducible rfl)
              · simp only [Act.put, List.setIfInBounds_toArray, List.set_cons_zero, List.set_cons_succ]
                rfl
              refine take_n 3 (some 99) #[true, true, true, true, false, false, false, false, false, false, false, false, false, false, false, false, false, false, false] (v := ?_) (a' := ?_) rfl rfl rfl (by kernel_rfl) (by kernel_rfl) (by kernel_rfl) (fun _ _ _ _ h => h) (Or.inl ⟨by rfl, ?_⟩) hHeld ?_ ?_
              rotate_left 2
              · intro w hSw
                (try dsimp only at hSw)
                go_simp
                all_goals (with_reducible rfl)
              · simp only [Act.put, List.setIfInBounds_toArray, List.set_cons_zero, List.set_cons_succ]
                rfl
              refine take_n 4 (some 100) #[true, true, true, true, true, false, false, false, false, false, false, false, false, false, false, false, false, false, false] (v := ?_) (a' := ?_) rfl rfl rfl (by kernel_rfl) (by kernel_rfl) (by kernel_rfl) (fun _ _ _ _ h => h) (Or.inl ⟨by rfl, ?_⟩) hHeld ?_ ?_
              rotate_left 2
              · intro w hSw
                (try dsimp only at hSw)
                go_simp
                all_goals (with_reducible rfl)
              · simp only [Act.put, List.setIfInBounds_toArray, List.set_cons_zero, List.set_cons_succ]
                rfl
              refine take_n 5 (some 101) #[true, true, true, true, true, true, false, false, false, false, false, false, false, false, false, false, false, false, false] (v := ?_) (a' := ?_) rfl rfl rfl (by kernel_rfl) (by kernel_rfl) (by kernel_rfl) (fun _ _ _ _ h => h) (Or.inl ⟨by rfl, ?_⟩) hHeld ?_ ?_
              rotate_left 2
              · intro w hSw
                (try dsimp only at hSw)
                go_simp
                all_goals (with_reducible rfl)
              · simp only [Act.put, List.setIfInBounds_toArray, List.set_cons_zero, List.set_cons_succ]
                rfl
              refine take_n 6 (some 102) #[true, true, true, true, true, true, true, false, false, false, false, false, false, false, false, false, false, false, false] (v := ?_) (a' := ?_) rfl rfl rfl (by kernel_rfl) (by kernel_rfl) (by kernel_rfl) (fun _ _ _ _ h => h) (Or.inl ⟨by rfl, ?_⟩) hHeld ?_ ?_
              rotate_left 2
              · intro w hSw
                (try dsimp only at hSw)
                go_simp
                all_goals (with_reducible rfl)
              · simp only [Act.put, List.setIfInBounds_toArray, List.set_cons_zero, List.set_cons_succ]
                rfl
              refine take_n 7 (some 103) #[true, true, true, true, true, true, true, true, false, false, false, false, false, false, false, false, false, false, false] (v := ?_) (a' := ?_) rfl rfl rfl (by kernel_rfl) (by kernel_rfl) (by kernel_rfl) (fun _ _ _ _ h => h) (Or.inl ⟨by rfl, ?_⟩) hHeld ?_ ?_
              rotate_left 2
              · intro w hSw
                (try dsimp only at hSw)
                go_simp
                all_goals (with_reducible rfl)
              · simp only [Act.put, List.setIfInBounds_toArray, List.set_cons_zero, List.set_cons_succ]
                rfl
              refine take_n 8 (some 104) #[true, true, true, true, true, true, true, true, true, false, false, false, false, false, false, false, false, false, false] (v := ?_) (a' := ?_) rfl rfl rfl (by kernel_rfl) (by kernel_rfl) (by kernel_rfl) (fun _ _ _ _ h => h) (Or.inl ⟨by rfl, ?_⟩) hHeld ?_ ?_
              rotate_left 2
              · intro w hSw
                (try dsimp only at hSw)
                go_simp
                all_goals (with_reducible rfl)
              · simp only [Act.put, List.setIfInBounds_toArray, List.set_cons_zero, List.set_cons_succ]
                rfl
              refine take_n 9 (some 105) #[true, true, true, true, true, true, true, true, true, true, false, false, false, false, false, false, false, false, false] (v := ?_) (a' := ?_) rfl rfl rfl (by kernel_rfl) (by kernel_rfl) (by kernel_rfl) (fun _ _ _ _ h => h) (Or.inl ⟨by rfl, ?_⟩) hHeld ?_ ?_
              rotate_left 2
              · intro w hSw
                (try dsimp only at hSw)
                go_simp
                all_goals (with_reducible rfl)
              · simp only [Act.put, List.setIfInBounds_toArray, List.set_cons_zero, List.set_cons_succ]
                rfl
              refine take_n 10 (some 106) #[true, true, true, true, true, true, true, true, true, true, true, false, false, false, false, false, false, false, false] (v := ?_) (a' := ?_) rfl rfl rfl (by kernel_rfl) (by kernel_rfl) (by kernel_rfl) (fun _ _ _ _ h => h) (Or.inl ⟨by rfl, ?_⟩) hHeld ?_ ?_
              rotate_left 2
              · intro w hSw
                (try dsimp only at hSw)
                go_simp
                all_goals (with_reducible rfl)
              · simp only [Act.put, List.setIfInBounds_toArray, List.set_cons_zero, List.set_cons_succ]
                rfl
              refine take_n 11 (some 107) #[true, true, true, true, true, true, true, true, true, true, true, true, false, false, false, false, false, false, false] (v := ?_) (a' := ?_) rfl rfl rfl (by kernel_rfl) (by kernel_rfl) (by kernel_rfl) (fun _ _ _ _ h => h) (Or.inl ⟨by rfl, ?_⟩) hHeld ?_ ?_
              rotate_left 2
              · intro w hSw
                (try dsimp only at hSw)
                go_simp
                all_goals (with_reducible rfl)
              · simp only [Act.put, List.setIfInBounds_toArray, List.set_cons_zero, List.set_cons_succ]
                rfl
              refine take_n 12 (some 108) #[true, true, true, true, true, true, true, true, true, true, true, true, true, false, false, false, false, false, false] (v := ?_) (a' := ?_) rfl rfl rfl (by kernel_rfl) (by kernel_rfl) (by kernel_rfl) (fun _ _ _ _ h => h) (Or.inl ⟨by rfl, ?_⟩) hHeld ?_ ?_
              rotate_left 2
              · intro w hSw
                (try dsimp only at hSw)
                go_simp
                all_goals (with_reducible rfl)
              · simp only [Act.put, List.setIfInBounds_toArray, List.set_cons_zero, List.set_cons_succ]
                rfl
              refine take_n 13 (some 109) #[true, true, true, true, true, true, true, true, true, true, true, true, true, true, false, false, false, false, false] (v := ?_) (a' := ?_) rfl rfl rfl (by kernel_rfl) (by kernel_rfl) (by kernel_rfl) (fun _ _ _ _ h => h) (Or.inl ⟨by rfl, ?_⟩) hHeld ?_ ?_
              rotate_left 2
              · intro w hSw
                (try dsimp only at hSw)
                go_simp
                all_goals (with_reducible rfl)
              · simp only [Act.put, List.setIfInBounds_toArray, List.set_cons_zero, List.set_cons_succ]
                rfl
              refine take_n 14 (some 110) #[true, true, true, true, true, true, true, true, true, true, true, true, true, true, true, false, false, false, false] (v := ?_) (a' := ?_) rfl rfl rfl (by kernel_rfl) (by kernel_rfl) (by kernel_rfl) (fun _ _ _ _ h => h) (Or.inl ⟨by rfl, ?_⟩) hHeld ?_ ?_
              rotate_left 2
              · intro w hSw
                (try dsimp only at hSw)
                go_simp
                all_goals (with_reducible rfl)
              · simp only [Act.put, List.setIfInBounds_toArray, List.set_cons_zero, List.set_cons_succ]
                rfl
              refine take_n 15 (some 111) #[true, true, true, true, true, true, true, true, true, true, true, true, true, true, true, true, false, false, false] (v := ?_) (a' := ?_) rfl rfl rfl (by kernel_rfl) (by kernel_rfl) (by kernel_rfl) (fun _ _ _ _ h => h) (Or.inl ⟨by rfl, ?_⟩) hHeld ?_ ?_
              rotate_left 2
              · intro w hSw
                (try dsimp only at hSw)
                go_simp
                all_goals (with_reducible rfl)
              · simp only [Act.put, List.setIfInBounds_toArray, List.set_cons_zero, List.set_cons_succ]
                rfl
              refine one_n 16 #[true, true, true, true, true, true, true, true, true, true, true, true, true, true, true, true, true, false, false] rfl rfl (by kernel_rfl) (fun K hK => ?_)
              go_simp
              refine hK.out _ ?_ _ ?_ ?_ (fun hHeld => ?_)
              rotate_left
              · (try simp only [Act.put, List.setIfInBounds_toArray, List.set_cons_zero, List.set_cons_succ])
                rfl
              · (try dsimp only)
                exact ⟨(World.cell?_setCell_other _ _ _ _ (by intro e; injection e; omega)).trans hHeld.1, (World.cell?_setCell_other _ _ _ _ (by intro e; injection e; omega)).trans hHeld.2⟩
              clear hK K
              refine take_n 17 (some 112) #[true, true, true, true, true, true, true, true, true, true, true, true, true, true, true, true, true, true, false] (v := ?_) (a' := ?_) rfl rfl rfl (by kernel_rfl) (by kernel_rfl) (by kernel_rfl) (fun _ _ _ _ h => h) (Or.inl ⟨by rfl, ?_⟩) hHeld ?_ ?_
              rotate_left 2
              · intro w hSw
                (try dsimp only at hSw)
                go_simp
                all_goals (with_reducible rfl)
              · simp only [Act.put, List.setIfInBounds_toArray, List.set_cons_zero, List.set_cons_succ]
                rfl
              refine one_n 18 #[true, true, true, true, true, true, true, true, true, true, true, true, true, true, true, true, true, true, true] rfl rfl (by kernel_rfl) (fun K hK => ?_)
              go_simp
              refine hK.out _ ?_ _ ?_ ?_ (fun hHeld => ?_)
              rotate_left
              · (try simp only [Act.put, List.setIfInBounds_toArray, List.set_cons_zero, List.set_cons_succ])
                rfl
              · (try dsimp only)
                exact ⟨(World.cell?_setCell_other _ _ _ _ (by intro e; injection e; omega)).trans hHeld.1, (World.cell?_setCell_other _ _ _ _ (by intro e; injection e; omega)).trans hHeld.2⟩
              clear hK K
              refine wpAnyH_done (by kernel_rfl) ?_ _
              clear hHeld
              have hput := H3.out.1.put ι hι (nextOf κ (st ι)) ((κ : Int) != 1) ((κ : Int) == 2) (by rw [HST.out]; exact (next_some κ hκ hκ0 b).1) (by rw [HST.out]; exact (next_some κ hκ hκ0 b).2) (by omega)
              obtain ⟨V, hV⟩ : ∃ V, V = ((W3.setCell ⟨w1.heap.size, ι, none⟩ (.bool ((κ : Int) != 1))).setCell ⟨w1.heap.size + 1, ι, none⟩ (.bool ((κ : Int) == 2))).drew := ⟨_, rfl⟩
              have hbV : Below ((W3.setCell ⟨w1.heap.size, ι, none⟩ (.bool ((κ : Int) != 1))).setCell ⟨w1.heap.size + 1, ι, none⟩ (.bool ((κ : Int) == 2))).heap.size ((W3.setCell ⟨w1.heap.size, ι, none⟩ (.bool ((κ : Int) != 1))).setCell ⟨w1.heap.size + 1, ι, none⟩ (.bool ((κ : Int) == 2))) V := by rw [hV]; exact (Below.refl _ _).drew
              rw [← hV]
              have hV1 := hput.1.lay (AsLay.of_below hbV)
              have hV2 := hput.2.1.lay (AsLay.of_below hbV)
              have hV3 := hput.2.2.1.below hbV
              have hV4 := hput.2.2.2.then_below hbV
              clear hput hbV hV
              have hmc := blk_cell (HMF.out V hV4) 0
              simp only [List.getElem?_toArray, List.getElem?_cons_zero, List.getElem?_cons_succ] at hmc
              have HM4 := Lib.hid (mach_hub mp hp V hmc)
              have HL4 := Lib.hid (line_step κ ι hκ hι st hp dk mb 0 1 5 0 HD3.out V (HG.out.below (H0.out.2.2.2 hV4)) hV3)
              have H4 := Lib.hid (And.intro hV1 (And.intro hV2 (And.intro hV3 hV4)))
              clear hmc hV1 hV2 hV3 hV4 p0 p1 y0 q0 yf qf yz qz
              go_wp2_with fail
              refine HM4.out.mono ?_
              rintro e w5 ⟨rfl, rfl⟩
              go_wp2_with fail
              refine HL4.out.mono ?_
              rintro e w6 ⟨u, rfl, hs6, hh6, hf6⟩
              obtain ⟨gl, cl, curl, rfl, hgl, hbl, hxl⟩ := says_one hs6
              have e6 := (blk_cell hbl 0).trans hxl
              rw [HST.out, told_some κ hκ hκ0 b] at e6
              unfold okB at e6
              have H6 := Lib.hid (LawI.line H4.out.1 H4.out.2.1 H4.out.2.2.1 H4.out.2.2.2 hh6 hf6)
              clear hs6 hh6 hf6 hgl hbl hxl HL4 HM4
              go_wp2_with fail
              exact ⟨⟨k + 1, _, by omega, by go_num, H6.out⟩, by simp [intOf]; omega⟩
        · have HL := HI.out.below (below_alloc (Below.refl _ wr) (.cells #[.int .i64 x, .int .i64 y] 37) (Nat.le_refl _))
          have HL := Lib.hid HL
          go_wp2_with fail
          all_goals first | (exfalso; omega) | exact ⟨⟨k + 1, st, by omega, by go_num, HL.out⟩, by simp [intOf]; omega⟩
      · obtain rfl : k = l.length := by omega
        clear hk hlt
        have hI := HI.out
        have hn := H0.out.1.fr hI.2.2.2 (by
          rintro (e | e | e)
          · exact H0.out.2.2.1.2.2.1.desk.ne H0.out.1 (by decide) e
          · exact Blk.ne H0.out.1 H0.out.2.2.1.1 (by decide) e
          · exact Blk.ne H0.out.1 H0.out.2.2.1.2.1 (by decide) e)
        unfold nmC nm at hn
        have n0 := blk_cell hn 0
        have n1 := blk_cell hn 1
        have n2 := blk_cell hn 2
        have n3 := blk_cell hn 3
        simp only [List.getElem?_toArray, List.getElem?_cons_zero, List.getElem?_cons_succ] at n0 n1 n2 n3
        clear hI hn
        go_wp2_with fail
        obtain ⟨WR, rfl⟩ : ∃ WR, WR = wr := ⟨_, rfl⟩
        obtain ⟨is_, his, hs0, hs1, hs2⟩ := info_parts infoStr
        have kw1 : IntKind.i64.wrap 1 = 1 := rfl
        clear n0 n1 n2 n3
        go_loopw [13, 150] (fun u i wr2 => ∃ j : Nat, j ≤ 4 ∧ i = .int .i64 j ∧ Below WR.heap.size WR wr2 ∧ wr2.ownsRow WR.heap.size 9 1 u (wantL st j).length ((wantL st j).map Value.string)) (fun _ i _ => 4 - (intOf i).toNat)
        case atStart => exact ⟨0, Nat.zero_le _, rfl, Below.refl _ _, World.ownsRow_nil _ _ _ _⟩
        case round =>
          obtain ⟨j, hj, rfl, hb, hown⟩ := hrel
          have HOWN := Lib.hid hown
          have hB := Lib.hid hb
          obtain ⟨ua, uc, rfl⟩ := row_slice hown
          clear hown hb
          have hln := want_len st j
          have hsz : WR.heap.size ≤ wr.heap.size := hB.out.size
          by_cases hj4 : j < 4
          · have hji : (j : Int) < 4 := by omega
            have hix : ∀ W, (Instr.index 35 (.agg #[.string ⟨#[97]⟩, .string ⟨#[98]⟩, .string ⟨#[98, 45, 49]⟩, .string ⟨#[99]⟩]) (.int .i64 j)).run Tryz.prog W = .ok (.string (nm j)) W := by
              intro W
              rcases four j hj4 with rfl | rfl | rfl | rfl <;> kernel_rfl
            have hzj : (nm j).size ≤ 3 := by rcases four j hj4 with rfl | rfl | rfl | rfl <;> decide
            have y0 := (blk_cell (HI.out.1.lay (AsLay.of_below hB.out)) j).trans (thereC_get st j hj4)
            have q0 := (blk_cell (HI.out.2.1.lay (AsLay.of_below hB.out)) j).trans (onC_get st j hj4)
            rcases hst : st j with _ | _ | _
            · rw [hst] at y0 q0
              have HST := Lib.hid hst
              clear hst
              simp only [isB] at y0
              simp only [onB] at q0
              go_wp2_with fail
              go_roundw
              case rel =>
                have hwl : wantL st (j + 1) = wantL st j := by rw [wantL, HST.out]; simp [lnOf]
                exact ⟨j + 1, by omega, by go_num, hB.out, by rw [hwl]; exact HOWN.out⟩
              case measure => simp [intOf]; omega
            · rw [hst] at y0 q0
              have HST := Lib.hid hst
              clear hst
              simp only [isB] at y0
              simp only [onB] at q0
              have z7 : ¬ 9223372036854775807 < (nm j).size + 8 := by omega
              go_wp2_with (at_builtin; refine wpList_append_own _ rfl (.tmp 160) (.tmp 164) 38 rfl WR.heap.size 9 is_ _ 1 16 Tryz.underlying38 his hs0 hs1 hs2 rfl (by omega) _ _ _ rfl (HOWN.out.alloc _) ⟨wr.heap.size, 0, none⟩ 1 1 [.string (nm j ++ ⟨#[32, 111, 102, 102, 32, 51, 32, 48]⟩)] rfl rfl ?qc2 ?qc3 ?qc4 ?qc5 ?qc6 ?_)
              case qc2 =>
                intro i u hi
                rw [Addr.add_lit, Nat.zero_add]
                exact (blk_cell (heap_alloc_new wr _) i).trans (by rw [← hi]; simp)
              case qc3 => simp [Value.oneCell']
              case qc4 => simp only [maxLen]; omega
              case qc5 => omega
              case qc6 => simp; omega
              intro v5 w5 hown5 hgrow5 hnil5
              have hgr : Below WR.heap.size WR w5 := (hB.out.alloc hB.out.size _).grown hgrow5 (by simp; omega) (fun i hi => (HOWN.out.lt i hi).1)
              have HGR := Lib.hid hgr
              have hwl : wantL st (j + 1) = wantL st j ++ [nm j ++ ⟨#[32, 111, 102, 102, 32, 51, 32, 48]⟩] := by rw [wantL, HST.out]; rfl
              have HO5 : Hid (w5.ownsRow WR.heap.size 9 1 v5 (wantL st (j + 1)).length ((wantL st (j + 1)).map Value.string)) := by rw [hwl, List.length_append, List.map_append]; exact hown5
              clear hown5 hgrow5 hnil5 hgr hwl
              go_wp2_with fail
              go_roundw
              case rel => exact ⟨j + 1, by omega, by go_num, HGR.out, HO5.out⟩
              case measure => simp [intOf]; omega
            · rw [hst] at y0 q0
              have HST := Lib.hid hst
              clear hst
              simp only [isB] at y0
              simp only [onB] at q0
              have z7 : ¬ 9223372036854775807 < (nm j).size + 7 := by omega
              go_wp2_with (at_builtin; refine wpList_append_own _ rfl (.tmp 160) (.tmp 164) 38 rfl WR.heap.size 9 is_ _ 1 16 Tryz.underlying38 his hs0 hs1 hs2 rfl (by omega) _ _ _ rfl (HOWN.out.alloc _) ⟨wr.heap.size, 0, none⟩ 1 1 [.string (nm j ++ ⟨#[32, 111, 110, 32, 51, 32, 48]⟩)] rfl rfl ?qc2 ?qc3 ?qc4 ?qc5 ?qc6 ?_)
              case qc2 =>
                intro i u hi
                rw [Addr.add_lit, Nat.zero_add]
                exact (blk_cell (heap_alloc_new wr _) i).trans (by rw [← hi]; simp)
              case qc3 => simp [Value.oneCell']
              case qc4 => simp only [maxLen]; omega
              case qc5 => omega
              case qc6 => simp; omega
              intro v5 w5 hown5 hgrow5 hnil5
              have hgr : Below WR.heap.size WR w5 := (hB.out.alloc hB.out.size _).grown hgrow5 (by simp; omega) (fun i hi => (HOWN.out.lt i hi).1)
              have HGR := Lib.hid hgr
              have hwl : wantL st (j + 1) = wantL st j ++ [nm j ++ ⟨#[32, 111, 110, 32, 51, 32, 48]⟩] := by rw [wantL, HST.out]; rfl
              have HO5 : Hid (w5.ownsRow WR.heap.size 9 1 v5 (wantL st (j + 1)).length ((wantL st (j + 1)).map Value.string)) := by rw [hwl, List.length_append, List.map_append]; exact hown5
              clear hown5 hgrow5 hnil5 hgr hwl
              go_wp2_with fail
              go_roundw
              case rel => exact ⟨j + 1, by omega, by go_num, HGR.out, HO5.out⟩
              case measure => simp [intOf]; omega
          · have hj5 : j = 4 := by omega
            subst hj5
            have hGW := HG.out.below (H0.out.2.2.2 HI.out.2.2.2)
            have hmw := blk_cell ((HMF.out WR HI.out.2.2.2).lay (AsLay.of_below hB.out)) 0
            simp only [List.getElem?_toArray, List.getElem?_cons_zero, List.getElem?_cons_succ] at hmw
            have HM5 := Lib.hid (mach_hub mp hp wr hmw)
            have HLL := Lib.hid (line_list (reg st) (reg_good st) (reg_few st) hp dk mb 0 1 5 0 HD3.out wr (hGW.below hB.out) (HI.out.2.2.1.below hB.out))
            rw [← want_reg] at HLL
            obtain ⟨L, hL⟩ : ∃ L, L = wantL st 4 := ⟨_, rfl⟩
            rw [← hL] at HLL HOWN hln ⊢
            obtain ⟨m, hm⟩ : ∃ m, m = L.length := ⟨_, rfl⟩
            rw [← hm] at HOWN hln ⊢
            have HLM := Lib.hid (And.intro hm hGW)
            clear hmw hGW hL hm
            go_wp2_with fail
            refine HM5.out.mono ?_
            rintro e w6 ⟨rfl, rfl⟩
            go_wp2_with fail
            refine HLL.out.mono ?_
            rintro e w7 ⟨u, rfl, hs7, hh7, hf7⟩
            unfold Says at hs7
            rw [List.length_append, List.length_singleton, ← HLM.out.1] at hs7
            obtain ⟨ga, gc, rfl⟩ := row_slice hs7
            have hdk : dk < WR.heap.size := HI.out.2.2.1.desk.lt
            have how7 := own_fr HOWN.out hf7 (fun g hg e => by omega)
            have H7 := Lib.hid (And.intro hs7 (And.intro how7 hf7))
            clear hs7 how7 hf7 hh7 hdk
            have kwm : IntKind.i64.wrap ((m : Int) + 1) = (m : Int) + 1 := by
              have : m = 0 ∨ m = 1 ∨ m = 2 ∨ m = 3 ∨ m = 4 := by omega
              rcases this with rfl | rfl | rfl | rfl | rfl <;> rfl
            have hcast : ((m + 1 : Nat) : Int) = (m : Int) + 1 := by omega
            go_wp2_with fail
            obtain ⟨W2, rfl⟩ : ∃ W2, W2 = wr := ⟨_, rfl⟩
            clear hsz
            go_loopw [178] (fun i wr3 => ∃ j : Nat, j ≤ m ∧ i = .int .i64 j ∧ wr3 = w7) (fun i _ => m - (intOf i).toNat)
            case atStart => exact ⟨0, Nat.zero_le _, rfl, rfl⟩
            case round =>
              obtain ⟨j, hj, rfl, hwe⟩ := hrel
              subst hwe
              by_cases hjm : j < m
              · have hjL : j < L.length := by rw [← HLM.out.1]; exact hjm
                obtain ⟨gw, rfl, cw⟩ := own_at H7.out.2.1 j hjm hjL
                obtain ⟨gg, rfl, cg⟩ := own_at H7.out.1 j (by omega) (by rw [List.length_append]; omega)
                rw [List.getElem_append_left hjL] at cg
                have hji : (j : Int) < m := by omega
                have hjg : (j : Int) < (m : Int) + 1 := by omega
                go_wp2_with fail
                exact ⟨⟨j + 1, by omega, by go_num, trivial⟩, by simp [intOf]; omega⟩
              · obtain rfl : j = m := by omega
                have hbl := H0.out.2.2.2 ((HI.out.2.2.2.then_below hB.out).trans H7.out.2.2 (fun _ e => e) (fun _ _ e => .inl e))
                have HLV := Lib.hid (lives_calls wr (HG.out.below hbl))
                have HBL := Lib.hid hbl
                clear hbl hj
                go_wp2_with fail
                refine HLV.out.mono ?_
                rintro e w9 ⟨rfl, hb9⟩
                go_wp2_with fail
                go_ret
                exact ⟨rfl, below_step HBL.out hb9⟩
end Go.Proofs.YtdpfmemcpipbkaaGreatDoor.Hand
end
