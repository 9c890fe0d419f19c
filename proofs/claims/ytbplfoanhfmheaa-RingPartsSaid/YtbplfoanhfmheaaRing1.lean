/- The small calls on a ring: Len, Room, Free, Drop. -/
import Derived.Test.YtbplfoanhfmheaaRing0
import Derived.Deep.QuietTactic
import Derived.BigQuiet
import Derived.RegionTactic
import Derived.BigRegion
import Derived.ChangeAlike
import Derived.Outline
namespace Go.Proofs.Ytbplfoanhfmheaa.Hand
open Go.RowKit Go.Proofs.YtbplfoanhfmheaaW.PrintWords Go.Proofs.YtbplfoanhfmheaaW.PrintLast Go.Proofs.YtbplfoanhfmheaaW.PrintMore
attribute [local go_sem] max2_int min2_int max_two min_two
set_option linter.unusedVariables false
set_option linter.unusedSimpArgs false
section
variable {w : World} {g b at_ many n : Nat} {room : Int} {cs : List Int}
theorem len_calls (h : RingAt w g b at_ many n room cs) : Calls Try.prog 16 #[.pointer (some ⟨g, 0, none⟩)] w fun e w' => e = .returned (.int .i64 many) ∧ w = w' := by
  have c2 := h.c2
  clear h
  go_enter Try.func16, Try.ntmps16
  go_wp2
  go_ret
  exact ⟨rfl, rfl⟩
theorem room_calls (h : RingAt w g b at_ many n room cs) : Calls Try.prog 23 #[.pointer (some ⟨g, 0, none⟩)] w fun e w' => e = .returned (.int .i64 room) ∧ w = w' := by
  have c3 := h.c3
  clear h
  go_enter Try.func23, Try.ntmps23
  go_wp2
  go_ret
  exact ⟨rfl, rfl⟩
theorem free_calls (h : RingAt w g b at_ many n room cs) (h0 : 0 ≤ room) (h1 : room ≤ 1000000) (f : Int) (hf : (if room - (many : Int) < 0 then 0 else room - (many : Int)) = f) : Calls Try.prog 19 #[.pointer (some ⟨g, 0, none⟩)] w fun e w' => e = .returned (.int .i64 f) ∧ Drawn0 w w' := by
  have c2 := h.c2
  have c3 := h.c3
  have hm := h.hm
  have hn := h.hn
  clear h
  go_enter Try.func19, Try.ntmps19
  go_wp2
  go_quiet (fail)
  go_wp2
  go_ret
  exact ⟨rfl, ⟨_, rfl⟩⟩
/-- The struct's cells, two of them changed. -/
theorem RingAt.set2 (h : RingAt w g b at_ many n room cs) (m' : Nat) (hm : m' ≤ n) : RingAt (w.setCell ⟨g, 2, none⟩ (.int .i64 m')) g b at_ m' n room cs :=
  ⟨by rw [blk_set h.hg]; rfl, (blk_far h.hb (fun e => h.ne e.symm) _), h.len, h.ne, hm, h.hn⟩
theorem RingAt.set1 (h : RingAt w g b at_ many n room cs) (a' : Nat) : RingAt (w.setCell ⟨g, 1, none⟩ (.int .i64 a')) g b a' many n room cs :=
  ⟨by rw [blk_set h.hg]; rfl, (blk_far h.hb (fun e => h.ne e.symm) _), h.len, h.ne, h.hm, h.hn⟩
theorem RingAt.drew (h : RingAt w g b at_ many n room cs) : RingAt w.drew g b at_ many n room cs := ⟨h.hg, h.hb, h.len, h.ne, h.hm, h.hn⟩
theorem RingAt.drewN (h : RingAt w g b at_ many n room cs) (k : Nat) : RingAt (w.drewN k) g b at_ many n room cs := ⟨h.hg, h.hb, h.len, h.ne, h.hm, h.hn⟩
theorem drop_low (h : RingAt w g b at_ many n room cs) (x : Int) (d : Nat) (hc : (x < 0 ∧ d = 0) ∨ (∃ p : Nat, x = p ∧ many < p ∧ d = many) ∨ (∃ p : Nat, x = p ∧ p ≤ many ∧ d = p)) (hlt : at_ + d < n) :
    Calls Try.prog 18 #[.pointer (some ⟨g, 0, none⟩), .int .i64 x] w fun e w' => e = .returned (.int .i64 d) ∧ RingAt w' g b (at_ + d) (many - d) n room cs ∧ Fr (fun i => i = g) w w' := by
  have hm := h.hm
  have hn := h.hn
  have c0 := h.c0
  have c1 := h.c1
  have c2 := h.c2
  have f1 := h.fr 1
  have f2 := h.fr 2
  have hfin : ∀ u v : Int, u = ((many - d : Nat) : Int) → v = ((at_ + d : Nat) : Int) → RingAt ((w.setCell ⟨g, 2, none⟩ (.int .i64 u)).setCell ⟨g, 1, none⟩ (.int .i64 v)) g b (at_ + d) (many - d) n room cs := by
    rintro u v rfl rfl
    exact (h.set2 (many - d) (by omega)).set1 (at_ + d)
  have HF := Lib.hid hfin
  clear h hfin
  rcases hc with ⟨hx, rfl⟩ | ⟨p, rfl, hx, rfl⟩ | ⟨p, rfl, hx, rfl⟩
  all_goals
    go_enter Try.func18, Try.ntmps18
    go_wp2
    go_quiet (fail)
    go_wp2
    go_ret
    refine ⟨?_, RingAt.drewN (HF.out _ _ (by omega) (by omega)) _, ?_⟩
    · first | rfl | exact congrArg (fun z => Ending.returned (.int .i64 z)) (by omega)
    · refine Fr.drewN (Fr.set (Fr.set (Fr.refl _ _) ?_ _) ?_ _) _ <;> rfl
theorem drop_high (h : RingAt w g b at_ many n room cs) (ha : at_ ≤ n) (x : Int) (d : Nat) (hc : (x < 0 ∧ d = 0) ∨ (∃ p : Nat, x = p ∧ many < p ∧ d = many) ∨ (∃ p : Nat, x = p ∧ p ≤ many ∧ d = p)) (hlt : n ≤ at_ + d) :
    Calls Try.prog 18 #[.pointer (some ⟨g, 0, none⟩), .int .i64 x] w fun e w' => e = .returned (.int .i64 d) ∧ RingAt w' g b (at_ + d - n) (many - d) n room cs ∧ Fr (fun i => i = g) w w' := by
  have hm := h.hm
  have hn := h.hn
  have c0 := h.c0
  have c1 := h.c1
  have c2 := h.c2
  have f1 := h.fr 1
  have f2 := h.fr 2
  have hfin : ∀ u v : Int, u = ((many - d : Nat) : Int) → v = ((at_ + d : Nat) : Int) → RingAt ((w.setCell ⟨g, 2, none⟩ (.int .i64 u)).setCell ⟨g, 1, none⟩ (.int .i64 v)) g b (at_ + d) (many - d) n room cs := by
    rintro u v rfl rfl
    exact (h.set2 (many - d) (by omega)).set1 (at_ + d)
  have HF := Lib.hid hfin
  clear h hfin
  rcases hc with ⟨hx, hd⟩ | ⟨p, rfl, hx, hd⟩ | ⟨p, rfl, hx, hd⟩
  all_goals
    have hlt' := hlt
    rw [hd] at hlt'
    have hdm : d ≤ many := by omega
    have HD := Lib.hid hd
    clear hd
    go_enter Try.func18, Try.ntmps18
    go_wp2
    go_quiet (fail)
    go_wp2
    generalize hwr : World.drewN _ _ = wr
    have HR : RingAt wr g b (at_ + d) (many - d) n room cs := hwr ▸ RingAt.drewN (HF.out _ _ (by have := HD.out; omega) (by have := HD.out; omega)) _
    have HFr : Fr (fun i => i = g) w wr := by
      rw [← hwr]
      refine Fr.drewN (Fr.set (Fr.set (Fr.refl _ _) ?_ _) ?_ _) _ <;> rfl
    clear hwr HF c0 c1 c2 f1 f2
    have hfin : ∀ u : Int, u = ((at_ + d - n : Nat) : Int) → RingAt (wr.setCell ⟨g, 1, none⟩ (.int .i64 u)) g b (at_ + d - n) (many - d) n room cs := by
      rintro u rfl
      exact HR.set1 _
    have HF2 := Lib.hid hfin
    have HFr2 := Lib.hid HFr
    have c0 := HR.c0
    have c1 := HR.c1
    have f1 := HR.fr 1
    clear hfin HR HFr
    go_region
    go_wp2
    go_ret
    have hd := HD.out
    refine ⟨?_, ?_, ?_⟩
    · first | rfl | exact congrArg (fun z => Ending.returned (.int .i64 z)) (by omega)
    · first | exact (HF2.out _ (by omega)).drew | exact (HF2.out _ (by omega))
    · refine Fr.trans HFr2.out (Y := fun i => i = g) ?_ (fun i hi => hi) (fun i _ hi => hi)
      first | (refine Fr.drew (Fr.set (Fr.refl _ _) ?_ _); rfl) | (refine Fr.set (Fr.refl _ _) ?_ _; rfl)
end
end Go.Proofs.Ytbplfoanhfmheaa.Hand
