/- What crc.one tells: eight steps of the register. No condition. -/
import Derived.Test.YtocfkbiojgbloaaProg
import Derived.Below
import Derived.Deep.Draws
import Derived.OwnWalk
import Derived.Tactics
import Derived.WalkKit
import Derived.KernelRfl
import Derived.RowKit3
import Derived.Deep.LoopGhost
import Derived.Deep.QuietTactic
import Derived.BigQuiet
import Derived.Laws.BitsLemmas
import Derived.RowKit
import Derived.WalkMore
import Derived.ScopeJumps
import Derived.Outline
import Derived.Lib.Hide
namespace Go.Proofs.Ytocfkbiojgbloaa.Hand
open Go.RowKit
set_option linter.unusedVariables false
set_option linter.unusedSimpArgs false

/-- One step of the register. -/
def stp (x : Int) : Int := Go.bits .xor .u32 (x / 2) (Go.bits .and .u32 3988292384 (-Go.bits .and .u32 x 1 % 4294967296))
def stpN : Nat → Int → Int
  | 0, x => x
  | n + 1, x => stpN n (stp x)
theorem bits_nonneg (op : BinOp) (x y : Int) : 0 ≤ Go.bits op .u32 x y ∧ Go.bits op .u32 x y ≤ 4294967295 := by
  cases op <;> simp only [Go.bits, IntKind.wrap_u32] <;> omega
theorem stp_range (x : Int) : 0 ≤ stp x ∧ stp x ≤ 4294967295 := bits_nonneg _ _ _
def one (a0 a1 : Int) : Int := stpN 8 (Go.bits .xor .u32 a0 (a1 % 4294967296))

set_option maxRecDepth 1000000 in
set_option maxHeartbeats 1000000 in
theorem one_calls (a0 a1 : Int) (w : World) :
    Calls Try.prog 21 #[.int .u32 a0, .int .u8 a1] w fun e w' => e = .returned (.int .u32 (one a0 a1)) ∧ w = w' := by
  have hx := bits_nonneg .xor a0 (a1 % 4294967296)
  obtain ⟨x0, hx0⟩ : ∃ x0, x0 = Go.bits .xor .u32 a0 (a1 % 4294967296) := ⟨_, rfl⟩
  have H0 : one a0 a1 = stpN 8 x0 := by rw [hx0]; rfl
  rw [H0]
  rw [← hx0] at hx
  go_enter Try.func21, Try.ntmps21
  go_wp2
  refine wp_scope_jumps 0 (fun a' w' => w' = w ∧ ∃ (m : Nat) (x : Int) (u2 u3 u6 u7 u8 u9 u10 u11 u12 u13 u14 u15 u16 u17 u18 u19 u20 u21 u22 u23 u24 : Value), a' = { tmps := #[.int .u32 x, .int .u8 a1, u2, u3, .int .u32 0, .int .i64 m, u6, u7, u8, u9, u10, u11, u12, u13, u14, u15, u16, u17, u18, u19, u20, u21, u22, u23, u24], defers := [] } ∧ m < 8 ∧ 0 ≤ x ∧ x ≤ 4294967295 ∧ stpN (8 - m) x = stpN 8 x0) (fun a' _ => 8 - (intOf (a'.tmps.getD 5 undef)).toNat) rfl ?_ ?_
  · go_wp2
    go_step3
    go_wp2
    go_step3
    rw [← hx0]
    exact ⟨rfl, rfl, 1, stp x0, _, _, _, _, _, _, _, _, _, _, _, _, _, _, _, _, _, _, _, _, _, rfl, by omega, (stp_range x0).1, (stp_range x0).2, rfl⟩
  · rintro a' w' ⟨rfl, m, x, u2, u3, u6, u7, u8, u9, u10, u11, u12, u13, u14, u15, u16, u17, u18, u19, u20, u21, u22, u23, u24, rfl, hm, hx1, hx2, hs⟩
    clear hx0 H0
    have HS := Go.Lib.hid hs
    clear hs
    by_cases h7 : m < 7
    · go_wp2
      go_step3
      have e1 : ((m : Int) + 1) = ((m + 1 : Nat) : Int) := by omega
      rw [e1]
      refine ⟨rfl, ⟨rfl, m + 1, stp x, _, _, _, _, _, _, _, _, _, _, _, _, _, _, _, _, _, _, _, _, _, rfl, by omega, (stp_range x).1, (stp_range x).2, ?_⟩, ?_⟩
      · rw [← HS.out]
        obtain ⟨j, hj⟩ : ∃ j, 8 - m = j + 1 := ⟨7 - m, by omega⟩
        have : 8 - (m + 1) = j := by omega
        rw [hj, this]; rfl
      · simp [intOf]; omega
    · obtain rfl : m = 7 := by omega
      go_wp2
      simp only [Exit.jump]
      go_ret
      rw [← HS.out]
      exact ⟨rfl, rfl⟩
end Go.Proofs.Ytocfkbiojgbloaa.Hand
