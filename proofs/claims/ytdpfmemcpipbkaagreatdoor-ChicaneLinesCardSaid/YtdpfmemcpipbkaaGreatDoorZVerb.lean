/- strings.Fields of the verbs. -/
import Derived.Test.YtdpfmemcpipbkaaGreatDoorZSplit
section
namespace Go.Proofs.YtdpfmemcpipbkaaGreatDoor.Hand
open Go.RowKit
set_option linter.unusedVariables false
set_option linter.unusedSimpArgs false
/-- The table of blanks lies in block 0. -/
def Sp (w : World) : Prop := 0 < w.heap.size ∧ w.cell? ⟨0, 32, none⟩ = some (.int .u8 1) ∧ ∀ c : Nat, 33 ≤ c → c ≤ 126 → w.cell? ⟨0, c, none⟩ = some (.int .u8 0)
theorem Sp.below {w w' : World} {B : Nat} (h : Sp w) (hb : Below B w w') (hB : 0 < B) : Sp w' :=
  ⟨Nat.lt_of_lt_of_le h.1 hb.size, (hb.cell (p := ⟨0, 32, none⟩) hB).trans h.2.1, fun c h1 h2 => (hb.cell (p := ⟨0, c, none⟩) hB).trans (h.2.2 c h1 h2)⟩
set_option maxHeartbeats 16000000 in
set_option maxRecDepth 100000 in
theorem fields_1 (w : World) (h : Sp w) : Calls Tryz.prog 74 #[.string ⟨#[112, 114, 111, 120, 121, 32, 97, 100, 100]⟩] w fun e w' => e = .returned (.slice (some ⟨w.heap.size, 0, none⟩) 2 2) ∧ w' = w.alloc (.cells #[strV [112, 114, 111, 120, 121], strV [97, 100, 100]] 9) := by
  have hz := h.1
  have c32 := h.2.1
  have c97 := h.2.2 97 (by omega) (by omega)
  have c100 := h.2.2 100 (by omega) (by omega)
  have c111 := h.2.2 111 (by omega) (by omega)
  have c112 := h.2.2 112 (by omega) (by omega)
  have c114 := h.2.2 114 (by omega) (by omega)
  have c120 := h.2.2 120 (by omega) (by omega)
  have c121 := h.2.2 121 (by omega) (by omega)
  clear h
  obtain ⟨s, hse⟩ : ∃ s : ByteArray, s = ⟨#[112, 114, 111, 120, 121, 32, 97, 100, 100]⟩ := ⟨_, rfl⟩
  have hs : s.size = 9 := by subst hse; rfl
  have h0 : 0 < s.size := by omega
  have b0 : (s[0]'h0).toNat = 112 := by subst hse; rfl
  have h1 : 1 < s.size := by omega
  have b1 : (s[1]'h1).toNat = 114 := by subst hse; rfl
  have h2 : 2 < s.size := by omega
  have b2 : (s[2]'h2).toNat = 111 := by subst hse; rfl
  have h3 : 3 < s.size := by omega
  have b3 : (s[3]'h3).toNat = 120 := by subst hse; rfl
  have h4 : 4 < s.size := by omega
  have b4 : (s[4]'h4).toNat = 121 := by subst hse; rfl
  have h5 : 5 < s.size := by omega
  have b5 : (s[5]'h5).toNat = 32 := by subst hse; rfl
  have h6 : 6 < s.size := by omega
  have b6 : (s[6]'h6).toNat = 97 := by subst hse; rfl
  have h7 : 7 < s.size := by omega
  have b7 : (s[7]'h7).toNat = 100 := by subst hse; rfl
  have h8 : 8 < s.size := by omega
  have b8 : (s[8]'h8).toNat = 100 := by subst hse; rfl
  have o_0_112 : bits BinOp.or IntKind.u8 0 112 = 112 := by decide
  have o_112_114 : bits BinOp.or IntKind.u8 112 114 = 114 := by decide
  have o_114_111 : bits BinOp.or IntKind.u8 114 111 = 127 := by decide
  have o_127_120 : bits BinOp.or IntKind.u8 127 120 = 127 := by decide
  have o_127_121 : bits BinOp.or IntKind.u8 127 121 = 127 := by decide
  have o_127_32 : bits BinOp.or IntKind.u8 127 32 = 127 := by decide
  have o_127_97 : bits BinOp.or IntKind.u8 127 97 = 127 := by decide
  have o_127_100 : bits BinOp.or IntKind.u8 127 100 = 127 := by decide
  have x0 : bits BinOp.xor IntKind.i64 (-1) 0 = -1 := by decide
  have x1 : bits BinOp.xor IntKind.i64 (-1) 1 = -2 := by decide
  have a11 : bits BinOp.and IntKind.i64 1 (-1) = 1 := by decide
  have a12 : bits BinOp.and IntKind.i64 1 (-2) = 0 := by decide
  have a01 : bits BinOp.and IntKind.i64 0 (-1) = 0 := by decide
  have a02 : bits BinOp.and IntKind.i64 0 (-2) = 0 := by decide
  have sg : IntKind.i64.signed = true := rfl
  have hmk : (Instr.makeSlice 38 (.int .i64 2) (.int .i64 2)).run Tryz.prog w = .ok (.slice (some ⟨w.heap.size, 0, none⟩) 2 2) (w.alloc (.cells #[.string ⟨#[]⟩, .string ⟨#[]⟩] 9)) := by kernel_rfl
  rw [← hse]
  have HSE := Lib.hid hse
  clear hse
  go_enter Tryz.func74, Tryz.ntmps74
  go_wp2_with fail
  refine wp_loop_rounds 10 ?_
  rw [rounds_succ]
  go_wp2_with fail
  rw [rounds_succ]
  go_wp2_with fail
  rw [rounds_succ]
  go_wp2_with fail
  rw [rounds_succ]
  go_wp2_with fail
  rw [rounds_succ]
  go_wp2_with fail
  rw [rounds_succ]
  go_wp2_with fail
  rw [rounds_succ]
  go_wp2_with fail
  rw [rounds_succ]
  go_wp2_with fail
  rw [rounds_succ]
  go_wp2_with fail
  rw [rounds_succ]
  go_wp2_with fail
  refine wp_loop_rounds 1 ?_
  rw [rounds_succ]
  go_wp2_with fail
  refine wp_loop_rounds 10 ?_
  rw [rounds_succ]
  go_wp2_with fail
  rw [rounds_succ]
  go_wp2_with fail
  rw [rounds_succ]
  go_wp2_with fail
  rw [rounds_succ]
  go_wp2_with fail
  rw [rounds_succ]
  go_wp2_with fail
  rw [rounds_succ]
  go_wp2_with fail
  refine wp_loop_rounds 1 ?_
  rw [rounds_succ]
  go_wp2_with fail
  rw [rounds_succ]
  go_wp2_with fail
  rw [rounds_succ]
  go_wp2_with fail
  rw [rounds_succ]
  go_wp2_with fail
  rw [rounds_succ]
  go_wp2_with fail
  go_ret
  have e0 : s.extract 0 5 = ⟨#[112, 114, 111, 120, 121]⟩ := by rw [HSE.out]; decide
  have e1 : s.extract 6 9 = ⟨#[97, 100, 100]⟩ := by rw [HSE.out]; decide
  rw [e0, e1]
  exact ⟨rfl, rfl⟩
set_option maxHeartbeats 16000000 in
set_option maxRecDepth 100000 in
theorem fields_2 (w : World) (h : Sp w) : Calls Tryz.prog 74 #[.string ⟨#[112, 114, 111, 120, 121, 32, 100, 114, 111, 112]⟩] w fun e w' => e = .returned (.slice (some ⟨w.heap.size, 0, none⟩) 2 2) ∧ w' = w.alloc (.cells #[strV [112, 114, 111, 120, 121], strV [100, 114, 111, 112]] 9) := by
  have hz := h.1
  have c32 := h.2.1
  have c100 := h.2.2 100 (by omega) (by omega)
  have c111 := h.2.2 111 (by omega) (by omega)
  have c112 := h.2.2 112 (by omega) (by omega)
  have c114 := h.2.2 114 (by omega) (by omega)
  have c120 := h.2.2 120 (by omega) (by omega)
  have c121 := h.2.2 121 (by omega) (by omega)
  clear h
  obtain ⟨s, hse⟩ : ∃ s : ByteArray, s = ⟨#[112, 114, 111, 120, 121, 32, 100, 114, 111, 112]⟩ := ⟨_, rfl⟩
  have hs : s.size = 10 := by subst hse; rfl
  have h0 : 0 < s.size := by omega
  have b0 : (s[0]'h0).toNat = 112 := by subst hse; rfl
  have h1 : 1 < s.size := by omega
  have b1 : (s[1]'h1).toNat = 114 := by subst hse; rfl
  have h2 : 2 < s.size := by omega
  have b2 : (s[2]'h2).toNat = 111 := by subst hse; rfl
  have h3 : 3 < s.size := by omega
  have b3 : (s[3]'h3).toNat = 120 := by subst hse; rfl
  have h4 : 4 < s.size := by omega
  have b4 : (s[4]'h4).toNat = 121 := by subst hse; rfl
  have h5 : 5 < s.size := by omega
  have b5 : (s[5]'h5).toNat = 32 := by subst hse; rfl
  have h6 : 6 < s.size := by omega
  have b6 : (s[6]'h6).toNat = 100 := by subst hse; rfl
  have h7 : 7 < s.size := by omega
  have b7 : (s[7]'h7).toNat = 114 := by subst hse; rfl
  have h8 : 8 < s.size := by omega
  have b8 : (s[8]'h8).toNat = 111 := by subst hse; rfl
  have h9 : 9 < s.size := by omega
  have b9 : (s[9]'h9).toNat = 112 := by subst hse; rfl
  have o_0_112 : bits BinOp.or IntKind.u8 0 112 = 112 := by decide
  have o_112_114 : bits BinOp.or IntKind.u8 112 114 = 114 := by decide
  have o_114_111 : bits BinOp.or IntKind.u8 114 111 = 127 := by decide
  have o_127_120 : bits BinOp.or IntKind.u8 127 120 = 127 := by decide
  have o_127_121 : bits BinOp.or IntKind.u8 127 121 = 127 := by decide
  have o_127_32 : bits BinOp.or IntKind.u8 127 32 = 127 := by decide
  have o_127_100 : bits BinOp.or IntKind.u8 127 100 = 127 := by decide
  have o_127_114 : bits BinOp.or IntKind.u8 127 114 = 127 := by decide
  have o_127_111 : bits BinOp.or IntKind.u8 127 111 = 127 := by decide
  have o_127_112 : bits BinOp.or IntKind.u8 127 112 = 127 := by decide
  have x0 : bits BinOp.xor IntKind.i64 (-1) 0 = -1 := by decide
  have x1 : bits BinOp.xor IntKind.i64 (-1) 1 = -2 := by decide
  have a11 : bits BinOp.and IntKind.i64 1 (-1) = 1 := by decide
  have a12 : bits BinOp.and IntKind.i64 1 (-2) = 0 := by decide
  have a01 : bits BinOp.and IntKind.i64 0 (-1) = 0 := by decide
  have a02 : bits BinOp.and IntKind.i64 0 (-2) = 0 := by decide
  have sg : IntKind.i64.signed = true := rfl
  have hmk : (Instr.makeSlice 38 (.int .i64 2) (.int .i64 2)).run Tryz.prog w = .ok (.slice (some ⟨w.heap.size, 0, none⟩) 2 2) (w.alloc (.cells #[.string ⟨#[]⟩, .string ⟨#[]⟩] 9)) := by kernel_rfl
  rw [← hse]
  have HSE := Lib.hid hse
  clear hse
  go_enter Tryz.func74, Tryz.ntmps74
  go_wp2_with fail
  refine wp_loop_rounds 11 ?_
  rw [rounds_succ]
  go_wp2_with fail
  rw [rounds_succ]
  go_wp2_with fail
  rw [rounds_succ]
  go_wp2_with fail
  rw [rounds_succ]
  go_wp2_with fail
  rw [rounds_succ]
  go_wp2_with fail
  rw [rounds_succ]
  go_wp2_with fail
  rw [rounds_succ]
  go_wp2_with fail
  rw [rounds_succ]
  go_wp2_with fail
  rw [rounds_succ]
  go_wp2_with fail
  rw [rounds_succ]
  go_wp2_with fail
  rw [rounds_succ]
  go_wp2_with fail
  refine wp_loop_rounds 1 ?_
  rw [rounds_succ]
  go_wp2_with fail
  refine wp_loop_rounds 11 ?_
  rw [rounds_succ]
  go_wp2_with fail
  rw [rounds_succ]
  go_wp2_with fail
  rw [rounds_succ]
  go_wp2_with fail
  rw [rounds_succ]
  go_wp2_with fail
  rw [rounds_succ]
  go_wp2_with fail
  rw [rounds_succ]
  go_wp2_with fail
  refine wp_loop_rounds 1 ?_
  rw [rounds_succ]
  go_wp2_with fail
  rw [rounds_succ]
  go_wp2_with fail
  rw [rounds_succ]
  go_wp2_with fail
  rw [rounds_succ]
  go_wp2_with fail
  rw [rounds_succ]
  go_wp2_with fail
  rw [rounds_succ]
  go_wp2_with fail
  go_ret
  have e0 : s.extract 0 5 = ⟨#[112, 114, 111, 120, 121]⟩ := by rw [HSE.out]; decide
  have e1 : s.extract 6 10 = ⟨#[100, 114, 111, 112]⟩ := by rw [HSE.out]; decide
  rw [e0, e1]
  exact ⟨rfl, rfl⟩
set_option maxHeartbeats 16000000 in
set_option maxRecDepth 100000 in
theorem fields_3 (w : World) (h : Sp w) : Calls Tryz.prog 74 #[.string ⟨#[111, 110]⟩] w fun e w' => e = .returned (.slice (some ⟨w.heap.size, 0, none⟩) 1 1) ∧ w' = w.alloc (.cells #[strV [111, 110]] 9) := by
  have hz := h.1
  have c32 := h.2.1
  have c110 := h.2.2 110 (by omega) (by omega)
  have c111 := h.2.2 111 (by omega) (by omega)
  clear h
  obtain ⟨s, hse⟩ : ∃ s : ByteArray, s = ⟨#[111, 110]⟩ := ⟨_, rfl⟩
  have hs : s.size = 2 := by subst hse; rfl
  have h0 : 0 < s.size := by omega
  have b0 : (s[0]'h0).toNat = 111 := by subst hse; rfl
  have h1 : 1 < s.size := by omega
  have b1 : (s[1]'h1).toNat = 110 := by subst hse; rfl
  have o_0_111 : bits BinOp.or IntKind.u8 0 111 = 111 := by decide
  have o_111_110 : bits BinOp.or IntKind.u8 111 110 = 111 := by decide
  have x0 : bits BinOp.xor IntKind.i64 (-1) 0 = -1 := by decide
  have x1 : bits BinOp.xor IntKind.i64 (-1) 1 = -2 := by decide
  have a11 : bits BinOp.and IntKind.i64 1 (-1) = 1 := by decide
  have a12 : bits BinOp.and IntKind.i64 1 (-2) = 0 := by decide
  have a01 : bits BinOp.and IntKind.i64 0 (-1) = 0 := by decide
  have a02 : bits BinOp.and IntKind.i64 0 (-2) = 0 := by decide
  have sg : IntKind.i64.signed = true := rfl
  have hmk : (Instr.makeSlice 38 (.int .i64 1) (.int .i64 1)).run Tryz.prog w = .ok (.slice (some ⟨w.heap.size, 0, none⟩) 1 1) (w.alloc (.cells #[.string ⟨#[]⟩] 9)) := by kernel_rfl
  rw [← hse]
  have HSE := Lib.hid hse
  clear hse
  go_enter Tryz.func74, Tryz.ntmps74
  go_wp2_with fail
  refine wp_loop_rounds 3 ?_
  rw [rounds_succ]
  go_wp2_with fail
  rw [rounds_succ]
  go_wp2_with fail
  rw [rounds_succ]
  go_wp2_with fail
  refine wp_loop_rounds 1 ?_
  rw [rounds_succ]
  go_wp2_with fail
  refine wp_loop_rounds 3 ?_
  rw [rounds_succ]
  go_wp2_with fail
  rw [rounds_succ]
  go_wp2_with fail
  rw [rounds_succ]
  go_wp2_with fail
  go_ret
  have e0 : s.extract 0 2 = ⟨#[111, 110]⟩ := by rw [HSE.out]; decide
  rw [e0]
  exact ⟨rfl, rfl⟩
set_option maxHeartbeats 16000000 in
set_option maxRecDepth 100000 in
theorem fields_4 (w : World) (h : Sp w) : Calls Tryz.prog 74 #[.string ⟨#[111, 102, 102]⟩] w fun e w' => e = .returned (.slice (some ⟨w.heap.size, 0, none⟩) 1 1) ∧ w' = w.alloc (.cells #[strV [111, 102, 102]] 9) := by
  have hz := h.1
  have c32 := h.2.1
  have c102 := h.2.2 102 (by omega) (by omega)
  have c111 := h.2.2 111 (by omega) (by omega)
  clear h
  obtain ⟨s, hse⟩ : ∃ s : ByteArray, s = ⟨#[111, 102, 102]⟩ := ⟨_, rfl⟩
  have hs : s.size = 3 := by subst hse; rfl
  have h0 : 0 < s.size := by omega
  have b0 : (s[0]'h0).toNat = 111 := by subst hse; rfl
  have h1 : 1 < s.size := by omega
  have b1 : (s[1]'h1).toNat = 102 := by subst hse; rfl
  have h2 : 2 < s.size := by omega
  have b2 : (s[2]'h2).toNat = 102 := by subst hse; rfl
  have o_0_111 : bits BinOp.or IntKind.u8 0 111 = 111 := by decide
  have o_111_102 : bits BinOp.or IntKind.u8 111 102 = 111 := by decide
  have x0 : bits BinOp.xor IntKind.i64 (-1) 0 = -1 := by decide
  have x1 : bits BinOp.xor IntKind.i64 (-1) 1 = -2 := by decide
  have a11 : bits BinOp.and IntKind.i64 1 (-1) = 1 := by decide
  have a12 : bits BinOp.and IntKind.i64 1 (-2) = 0 := by decide
  have a01 : bits BinOp.and IntKind.i64 0 (-1) = 0 := by decide
  have a02 : bits BinOp.and IntKind.i64 0 (-2) = 0 := by decide
  have sg : IntKind.i64.signed = true := rfl
  have hmk : (Instr.makeSlice 38 (.int .i64 1) (.int .i64 1)).run Tryz.prog w = .ok (.slice (some ⟨w.heap.size, 0, none⟩) 1 1) (w.alloc (.cells #[.string ⟨#[]⟩] 9)) := by kernel_rfl
  rw [← hse]
  have HSE := Lib.hid hse
  clear hse
  go_enter Tryz.func74, Tryz.ntmps74
  go_wp2_with fail
  refine wp_loop_rounds 4 ?_
  rw [rounds_succ]
  go_wp2_with fail
  rw [rounds_succ]
  go_wp2_with fail
  rw [rounds_succ]
  go_wp2_with fail
  rw [rounds_succ]
  go_wp2_with fail
  refine wp_loop_rounds 1 ?_
  rw [rounds_succ]
  go_wp2_with fail
  refine wp_loop_rounds 4 ?_
  rw [rounds_succ]
  go_wp2_with fail
  rw [rounds_succ]
  go_wp2_with fail
  rw [rounds_succ]
  go_wp2_with fail
  rw [rounds_succ]
  go_wp2_with fail
  go_ret
  have e0 : s.extract 0 3 = ⟨#[111, 102, 102]⟩ := by rw [HSE.out]; decide
  rw [e0]
  exact ⟨rfl, rfl⟩
set_option maxHeartbeats 16000000 in
set_option maxRecDepth 100000 in
theorem fields_5 (w : World) (h : Sp w) : Calls Tryz.prog 74 #[.string ⟨#[116, 111, 120, 105, 99, 32, 97, 100, 100]⟩] w fun e w' => e = .returned (.slice (some ⟨w.heap.size, 0, none⟩) 2 2) ∧ w' = w.alloc (.cells #[strV [116, 111, 120, 105, 99], strV [97, 100, 100]] 9) := by
  have hz := h.1
  have c32 := h.2.1
  have c97 := h.2.2 97 (by omega) (by omega)
  have c99 := h.2.2 99 (by omega) (by omega)
  have c100 := h.2.2 100 (by omega) (by omega)
  have c105 := h.2.2 105 (by omega) (by omega)
  have c111 := h.2.2 111 (by omega) (by omega)
  have c116 := h.2.2 116 (by omega) (by omega)
  have c120 := h.2.2 120 (by omega) (by omega)
  clear h
  obtain ⟨s, hse⟩ : ∃ s : ByteArray, s = ⟨#[116, 111, 120, 105, 99, 32, 97, 100, 100]⟩ := ⟨_, rfl⟩
  have hs : s.size = 9 := by subst hse; rfl
  have h0 : 0 < s.size := by omega
  have b0 : (s[0]'h0).toNat = 116 := by subst hse; rfl
  have h1 : 1 < s.size := by omega
  have b1 : (s[1]'h1).toNat = 111 := by subst hse; rfl
  have h2 : 2 < s.size := by omega
  have b2 : (s[2]'h2).toNat = 120 := by subst hse; rfl
  have h3 : 3 < s.size := by omega
  have b3 : (s[3]'h3).toNat = 105 := by subst hse; rfl
  have h4 : 4 < s.size := by omega
  have b4 : (s[4]'h4).toNat = 99 := by subst hse; rfl
  have h5 : 5 < s.size := by omega
  have b5 : (s[5]'h5).toNat = 32 := by subst hse; rfl
  have h6 : 6 < s.size := by omega
  have b6 : (s[6]'h6).toNat = 97 := by subst hse; rfl
  have h7 : 7 < s.size := by omega
  have b7 : (s[7]'h7).toNat = 100 := by subst hse; rfl
  have h8 : 8 < s.size := by omega
  have b8 : (s[8]'h8).toNat = 100 := by subst hse; rfl
  have o_0_116 : bits BinOp.or IntKind.u8 0 116 = 116 := by decide
  have o_116_111 : bits BinOp.or IntKind.u8 116 111 = 127 := by decide
  have o_127_120 : bits BinOp.or IntKind.u8 127 120 = 127 := by decide
  have o_127_105 : bits BinOp.or IntKind.u8 127 105 = 127 := by decide
  have o_127_99 : bits BinOp.or IntKind.u8 127 99 = 127 := by decide
  have o_127_32 : bits BinOp.or IntKind.u8 127 32 = 127 := by decide
  have o_127_97 : bits BinOp.or IntKind.u8 127 97 = 127 := by decide
  have o_127_100 : bits BinOp.or IntKind.u8 127 100 = 127 := by decide
  have x0 : bits BinOp.xor IntKind.i64 (-1) 0 = -1 := by decide
  have x1 : bits BinOp.xor IntKind.i64 (-1) 1 = -2 := by decide
  have a11 : bits BinOp.and IntKind.i64 1 (-1) = 1 := by decide
  have a12 : bits BinOp.and IntKind.i64 1 (-2) = 0 := by decide
  have a01 : bits BinOp.and IntKind.i64 0 (-1) = 0 := by decide
  have a02 : bits BinOp.and IntKind.i64 0 (-2) = 0 := by decide
  have sg : IntKind.i64.signed = true := rfl
  have hmk : (Instr.makeSlice 38 (.int .i64 2) (.int .i64 2)).run Tryz.prog w = .ok (.slice (some ⟨w.heap.size, 0, none⟩) 2 2) (w.alloc (.cells #[.string ⟨#[]⟩, .string ⟨#[]⟩] 9)) := by kernel_rfl
  rw [← hse]
  have HSE := Lib.hid hse
  clear hse
  go_enter Tryz.func74, Tryz.ntmps74
  go_wp2_with fail
  refine wp_loop_rounds 10 ?_
  rw [rounds_succ]
  go_wp2_with fail
  rw [rounds_succ]
  go_wp2_with fail
  rw [rounds_succ]
  go_wp2_with fail
  rw [rounds_succ]
  go_wp2_with fail
  rw [rounds_succ]
  go_wp2_with fail
  rw [rounds_succ]
  go_wp2_with fail
  rw [rounds_succ]
  go_wp2_with fail
  rw [rounds_succ]
  go_wp2_with fail
  rw [rounds_succ]
  go_wp2_with fail
  rw [rounds_succ]
  go_wp2_with fail
  refine wp_loop_rounds 1 ?_
  rw [rounds_succ]
  go_wp2_with fail
  refine wp_loop_rounds 10 ?_
  rw [rounds_succ]
  go_wp2_with fail
  rw [rounds_succ]
  go_wp2_with fail
  rw [rounds_succ]
  go_wp2_with fail
  rw [rounds_succ]
  go_wp2_with fail
  rw [rounds_succ]
  go_wp2_with fail
  rw [rounds_succ]
  go_wp2_with fail
  refine wp_loop_rounds 1 ?_
  rw [rounds_succ]
  go_wp2_with fail
  rw [rounds_succ]
  go_wp2_with fail
  rw [rounds_succ]
  go_wp2_with fail
  rw [rounds_succ]
  go_wp2_with fail
  rw [rounds_succ]
  go_wp2_with fail
  go_ret
  have e0 : s.extract 0 5 = ⟨#[116, 111, 120, 105, 99]⟩ := by rw [HSE.out]; decide
  have e1 : s.extract 6 9 = ⟨#[97, 100, 100]⟩ := by rw [HSE.out]; decide
  rw [e0, e1]
  exact ⟨rfl, rfl⟩
set_option maxHeartbeats 16000000 in
set_option maxRecDepth 100000 in
theorem fields_6 (w : World) (h : Sp w) : Calls Tryz.prog 74 #[.string ⟨#[116, 111, 120, 105, 99, 32, 100, 114, 111, 112]⟩] w fun e w' => e = .returned (.slice (some ⟨w.heap.size, 0, none⟩) 2 2) ∧ w' = w.alloc (.cells #[strV [116, 111, 120, 105, 99], strV [100, 114, 111, 112]] 9) := by
  have hz := h.1
  have c32 := h.2.1
  have c99 := h.2.2 99 (by omega) (by omega)
  have c100 := h.2.2 100 (by omega) (by omega)
  have c105 := h.2.2 105 (by omega) (by omega)
  have c111 := h.2.2 111 (by omega) (by omega)
  have c112 := h.2.2 112 (by omega) (by omega)
  have c114 := h.2.2 114 (by omega) (by omega)
  have c116 := h.2.2 116 (by omega) (by omega)
  have c120 := h.2.2 120 (by omega) (by omega)
  clear h
  obtain ⟨s, hse⟩ : ∃ s : ByteArray, s = ⟨#[116, 111, 120, 105, 99, 32, 100, 114, 111, 112]⟩ := ⟨_, rfl⟩
  have hs : s.size = 10 := by subst hse; rfl
  have h0 : 0 < s.size := by omega
  have b0 : (s[0]'h0).toNat = 116 := by subst hse; rfl
  have h1 : 1 < s.size := by omega
  have b1 : (s[1]'h1).toNat = 111 := by subst hse; rfl
  have h2 : 2 < s.size := by omega
  have b2 : (s[2]'h2).toNat = 120 := by subst hse; rfl
  have h3 : 3 < s.size := by omega
  have b3 : (s[3]'h3).toNat = 105 := by subst hse; rfl
  have h4 : 4 < s.size := by omega
  have b4 : (s[4]'h4).toNat = 99 := by subst hse; rfl
  have h5 : 5 < s.size := by omega
  have b5 : (s[5]'h5).toNat = 32 := by subst hse; rfl
  have h6 : 6 < s.size := by omega
  have b6 : (s[6]'h6).toNat = 100 := by subst hse; rfl
  have h7 : 7 < s.size := by omega
  have b7 : (s[7]'h7).toNat = 114 := by subst hse; rfl
  have h8 : 8 < s.size := by omega
  have b8 : (s[8]'h8).toNat = 111 := by subst hse; rfl
  have h9 : 9 < s.size := by omega
  have b9 : (s[9]'h9).toNat = 112 := by subst hse; rfl
  have o_0_116 : bits BinOp.or IntKind.u8 0 116 = 116 := by decide
  have o_116_111 : bits BinOp.or IntKind.u8 116 111 = 127 := by decide
  have o_127_120 : bits BinOp.or IntKind.u8 127 120 = 127 := by decide
  have o_127_105 : bits BinOp.or IntKind.u8 127 105 = 127 := by decide
  have o_127_99 : bits BinOp.or IntKind.u8 127 99 = 127 := by decide
  have o_127_32 : bits BinOp.or IntKind.u8 127 32 = 127 := by decide
  have o_127_100 : bits BinOp.or IntKind.u8 127 100 = 127 := by decide
  have o_127_114 : bits BinOp.or IntKind.u8 127 114 = 127 := by decide
  have o_127_111 : bits BinOp.or IntKind.u8 127 111 = 127 := by decide
  have o_127_112 : bits BinOp.or IntKind.u8 127 112 = 127 := by decide
  have x0 : bits BinOp.xor IntKind.i64 (-1) 0 = -1 := by decide
  have x1 : bits BinOp.xor IntKind.i64 (-1) 1 = -2 := by decide
  have a11 : bits BinOp.and IntKind.i64 1 (-1) = 1 := by decide
  have a12 : bits BinOp.and IntKind.i64 1 (-2) = 0 := by decide
  have a01 : bits BinOp.and IntKind.i64 0 (-1) = 0 := by decide
  have a02 : bits BinOp.and IntKind.i64 0 (-2) = 0 := by decide
  have sg : IntKind.i64.signed = true := rfl
  have hmk : (Instr.makeSlice 38 (.int .i64 2) (.int .i64 2)).run Tryz.prog w = .ok (.slice (some ⟨w.heap.size, 0, none⟩) 2 2) (w.alloc (.cells #[.string ⟨#[]⟩, .string ⟨#[]⟩] 9)) := by kernel_rfl
  rw [← hse]
  have HSE := Lib.hid hse
  clear hse
  go_enter Tryz.func74, Tryz.ntmps74
  go_wp2_with fail
  refine wp_loop_rounds 11 ?_
  rw [rounds_succ]
  go_wp2_with fail
  rw [rounds_succ]
  go_wp2_with fail
  rw [rounds_succ]
  go_wp2_with fail
  rw [rounds_succ]
  go_wp2_with fail
  rw [rounds_succ]
  go_wp2_with fail
  rw [rounds_succ]
  go_wp2_with fail
  rw [rounds_succ]
  go_wp2_with fail
  rw [rounds_succ]
  go_wp2_with fail
  rw [rounds_succ]
  go_wp2_with fail
  rw [rounds_succ]
  go_wp2_with fail
  rw [rounds_succ]
  go_wp2_with fail
  refine wp_loop_rounds 1 ?_
  rw [rounds_succ]
  go_wp2_with fail
  refine wp_loop_rounds 11 ?_
  rw [rounds_succ]
  go_wp2_with fail
  rw [rounds_succ]
  go_wp2_with fail
  rw [rounds_succ]
  go_wp2_with fail
  rw [rounds_succ]
  go_wp2_with fail
  rw [rounds_succ]
  go_wp2_with fail
  rw [rounds_succ]
  go_wp2_with fail
  refine wp_loop_rounds 1 ?_
  rw [rounds_succ]
  go_wp2_with fail
  rw [rounds_succ]
  go_wp2_with fail
  rw [rounds_succ]
  go_wp2_with fail
  rw [rounds_succ]
  go_wp2_with fail
  rw [rounds_succ]
  go_wp2_with fail
  rw [rounds_succ]
  go_wp2_with fail
  go_ret
  have e0 : s.extract 0 5 = ⟨#[116, 111, 120, 105, 99]⟩ := by rw [HSE.out]; decide
  have e1 : s.extract 6 10 = ⟨#[100, 114, 111, 112]⟩ := by rw [HSE.out]; decide
  rw [e0, e1]
  exact ⟨rfl, rfl⟩
set_option maxHeartbeats 16000000 in
set_option maxRecDepth 100000 in
theorem fields_7 (w : World) (h : Sp w) : Calls Tryz.prog 74 #[.string ⟨#[116, 111, 120, 105, 99, 32, 115, 101, 116]⟩] w fun e w' => e = .returned (.slice (some ⟨w.heap.size, 0, none⟩) 2 2) ∧ w' = w.alloc (.cells #[strV [116, 111, 120, 105, 99], strV [115, 101, 116]] 9) := by
  have hz := h.1
  have c32 := h.2.1
  have c99 := h.2.2 99 (by omega) (by omega)
  have c101 := h.2.2 101 (by omega) (by omega)
  have c105 := h.2.2 105 (by omega) (by omega)
  have c111 := h.2.2 111 (by omega) (by omega)
  have c115 := h.2.2 115 (by omega) (by omega)
  have c116 := h.2.2 116 (by omega) (by omega)
  have c120 := h.2.2 120 (by omega) (by omega)
  clear h
  obtain ⟨s, hse⟩ : ∃ s : ByteArray, s = ⟨#[116, 111, 120, 105, 99, 32, 115, 101, 116]⟩ := ⟨_, rfl⟩
  have hs : s.size = 9 := by subst hse; rfl
  have h0 : 0 < s.size := by omega
  have b0 : (s[0]'h0).toNat = 116 := by subst hse; rfl
  have h1 : 1 < s.size := by omega
  have b1 : (s[1]'h1).toNat = 111 := by subst hse; rfl
  have h2 : 2 < s.size := by omega
  have b2 : (s[2]'h2).toNat = 120 := by subst hse; rfl
  have h3 : 3 < s.size := by omega
  have b3 : (s[3]'h3).toNat = 105 := by subst hse; rfl
  have h4 : 4 < s.size := by omega
  have b4 : (s[4]'h4).toNat = 99 := by subst hse; rfl
  have h5 : 5 < s.size := by omega
  have b5 : (s[5]'h5).toNat = 32 := by subst hse; rfl
  have h6 : 6 < s.size := by omega
  have b6 : (s[6]'h6).toNat = 115 := by subst hse; rfl
  have h7 : 7 < s.size := by omega
  have b7 : (s[7]'h7).toNat = 101 := by subst hse; rfl
  have h8 : 8 < s.size := by omega
  have b8 : (s[8]'h8).toNat = 116 := by subst hse; rfl
  have o_0_116 : bits BinOp.or IntKind.u8 0 116 = 116 := by decide
  have o_116_111 : bits BinOp.or IntKind.u8 116 111 = 127 := by decide
  have o_127_120 : bits BinOp.or IntKind.u8 127 120 = 127 := by decide
  have o_127_105 : bits BinOp.or IntKind.u8 127 105 = 127 := by decide
  have o_127_99 : bits BinOp.or IntKind.u8 127 99 = 127 := by decide
  have o_127_32 : bits BinOp.or IntKind.u8 127 32 = 127 := by decide
  have o_127_115 : bits BinOp.or IntKind.u8 127 115 = 127 := by decide
  have o_127_101 : bits BinOp.or IntKind.u8 127 101 = 127 := by decide
  have o_127_116 : bits BinOp.or IntKind.u8 127 116 = 127 := by decide
  have x0 : bits BinOp.xor IntKind.i64 (-1) 0 = -1 := by decide
  have x1 : bits BinOp.xor IntKind.i64 (-1) 1 = -2 := by decide
  have a11 : bits BinOp.and IntKind.i64 1 (-1) = 1 := by decide
  have a12 : bits BinOp.and IntKind.i64 1 (-2) = 0 := by decide
  have a01 : bits BinOp.and IntKind.i64 0 (-1) = 0 := by decide
  have a02 : bits BinOp.and IntKind.i64 0 (-2) = 0 := by decide
  have sg : IntKind.i64.signed = true := rfl
  have hmk : (Instr.makeSlice 38 (.int .i64 2) (.int .i64 2)).run Tryz.prog w = .ok (.slice (some ⟨w.heap.size, 0, none⟩) 2 2) (w.alloc (.cells #[.string ⟨#[]⟩, .string ⟨#[]⟩] 9)) := by kernel_rfl
  rw [← hse]
  have HSE := Lib.hid hse
  clear hse
  go_enter Tryz.func74, Tryz.ntmps74
  go_wp2_with fail
  refine wp_loop_rounds 10 ?_
  rw [rounds_succ]
  go_wp2_with fail
  rw [rounds_succ]
  go_wp2_with fail
  rw [rounds_succ]
  go_wp2_with fail
  rw [rounds_succ]
  go_wp2_with fail
  rw [rounds_succ]
  go_wp2_with fail
  rw [rounds_succ]
  go_wp2_with fail
  rw [rounds_succ]
  go_wp2_with fail
  rw [rounds_succ]
  go_wp2_with fail
  rw [rounds_succ]
  go_wp2_with fail
  rw [rounds_succ]
  go_wp2_with fail
  refine wp_loop_rounds 1 ?_
  rw [rounds_succ]
  go_wp2_with fail
  refine wp_loop_rounds 10 ?_
  rw [rounds_succ]
  go_wp2_with fail
  rw [rounds_succ]
  go_wp2_with fail
  rw [rounds_succ]
  go_wp2_with fail
  rw [rounds_succ]
  go_wp2_with fail
  rw [rounds_succ]
  go_wp2_with fail
  rw [rounds_succ]
  go_wp2_with fail
  refine wp_loop_rounds 1 ?_
  rw [rounds_succ]
  go_wp2_with fail
  rw [rounds_succ]
  go_wp2_with fail
  rw [rounds_succ]
  go_wp2_with fail
  rw [rounds_succ]
  go_wp2_with fail
  rw [rounds_succ]
  go_wp2_with fail
  go_ret
  have e0 : s.extract 0 5 = ⟨#[116, 111, 120, 105, 99]⟩ := by rw [HSE.out]; decide
  have e1 : s.extract 6 9 = ⟨#[115, 101, 116]⟩ := by rw [HSE.out]; decide
  rw [e0, e1]
  exact ⟨rfl, rfl⟩
set_option maxHeartbeats 16000000 in
set_option maxRecDepth 100000 in
theorem fields_8 (w : World) (h : Sp w) : Calls Tryz.prog 74 #[.string ⟨#[108, 105, 115, 116]⟩] w fun e w' => e = .returned (.slice (some ⟨w.heap.size, 0, none⟩) 1 1) ∧ w' = w.alloc (.cells #[strV [108, 105, 115, 116]] 9) := by
  have hz := h.1
  have c32 := h.2.1
  have c105 := h.2.2 105 (by omega) (by omega)
  have c108 := h.2.2 108 (by omega) (by omega)
  have c115 := h.2.2 115 (by omega) (by omega)
  have c116 := h.2.2 116 (by omega) (by omega)
  clear h
  obtain ⟨s, hse⟩ : ∃ s : ByteArray, s = ⟨#[108, 105, 115, 116]⟩ := ⟨_, rfl⟩
  have hs : s.size = 4 := by subst hse; rfl
  have h0 : 0 < s.size := by omega
  have b0 : (s[0]'h0).toNat = 108 := by subst hse; rfl
  have h1 : 1 < s.size := by omega
  have b1 : (s[1]'h1).toNat = 105 := by subst hse; rfl
  have h2 : 2 < s.size := by omega
  have b2 : (s[2]'h2).toNat = 115 := by subst hse; rfl
  have h3 : 3 < s.size := by omega
  have b3 : (s[3]'h3).toNat = 116 := by subst hse; rfl
  have o_0_108 : bits BinOp.or IntKind.u8 0 108 = 108 := by decide
  have o_108_105 : bits BinOp.or IntKind.u8 108 105 = 109 := by decide
  have o_109_115 : bits BinOp.or IntKind.u8 109 115 = 127 := by decide
  have o_127_116 : bits BinOp.or IntKind.u8 127 116 = 127 := by decide
  have x0 : bits BinOp.xor IntKind.i64 (-1) 0 = -1 := by decide
  have x1 : bits BinOp.xor IntKind.i64 (-1) 1 = -2 := by decide
  have a11 : bits BinOp.and IntKind.i64 1 (-1) = 1 := by decide
  have a12 : bits BinOp.and IntKind.i64 1 (-2) = 0 := by decide
  have a01 : bits BinOp.and IntKind.i64 0 (-1) = 0 := by decide
  have a02 : bits BinOp.and IntKind.i64 0 (-2) = 0 := by decide
  have sg : IntKind.i64.signed = true := rfl
  have hmk : (Instr.makeSlice 38 (.int .i64 1) (.int .i64 1)).run Tryz.prog w = .ok (.slice (some ⟨w.heap.size, 0, none⟩) 1 1) (w.alloc (.cells #[.string ⟨#[]⟩] 9)) := by kernel_rfl
  rw [← hse]
  have HSE := Lib.hid hse
  clear hse
  go_enter Tryz.func74, Tryz.ntmps74
  go_wp2_with fail
  refine wp_loop_rounds 5 ?_
  rw [rounds_succ]
  go_wp2_with fail
  rw [rounds_succ]
  go_wp2_with fail
  rw [rounds_succ]
  go_wp2_with fail
  rw [rounds_succ]
  go_wp2_with fail
  rw [rounds_succ]
  go_wp2_with fail
  refine wp_loop_rounds 1 ?_
  rw [rounds_succ]
  go_wp2_with fail
  refine wp_loop_rounds 5 ?_
  rw [rounds_succ]
  go_wp2_with fail
  rw [rounds_succ]
  go_wp2_with fail
  rw [rounds_succ]
  go_wp2_with fail
  rw [rounds_succ]
  go_wp2_with fail
  rw [rounds_succ]
  go_wp2_with fail
  go_ret
  have e0 : s.extract 0 4 = ⟨#[108, 105, 115, 116]⟩ := by rw [HSE.out]; decide
  rw [e0]
  exact ⟨rfl, rfl⟩
end Go.Proofs.YtdpfmemcpipbkaaGreatDoor.Hand
end
section
/- slices.Equal of few strings; order.verb. -/
namespace Go.Proofs.YtdpfmemcpipbkaaGreatDoor.Hand
open Go.RowKit
set_option linter.unusedVariables false
set_option linter.unusedSimpArgs false
set_option maxHeartbeats 8000000 in
set_option maxRecDepth 100000 in
theorem eq1_yes (p q : Nat) (c d : Nat) (s : ByteArray) (w : World) (hp0 : w.cell? ⟨p, 0, none⟩ = some (.string s)) (hq0 : w.cell? ⟨q, 0, none⟩ = some (.string s)) : Calls Tryz.prog 75 #[.slice (some ⟨p, 0, none⟩) 1 c, .slice (some ⟨q, 0, none⟩) 1 d] w fun e w' => e = .returned (.bool true) ∧ Below w.heap.size w w' := by
  go_enter Tryz.func75, Tryz.ntmps75
  go_wp2_with fail
  refine wp_loop_rounds 2 ?_
  rw [rounds_succ]
  go_wp2_with fail
  go_quiet (fail)
  go_wp2_with fail
  rw [rounds_succ]
  go_wp2_with fail
  go_ret
  exact ⟨rfl, by repeat first | exact Below.refl _ w | apply below_drewN⟩
set_option maxHeartbeats 8000000 in
set_option maxRecDepth 100000 in
theorem eq1_no (p q : Nat) (c d : Nat) (s t : ByteArray) (hn : (s.toList == t.toList) = false) (w : World) (hp0 : w.cell? ⟨p, 0, none⟩ = some (.string s)) (hq0 : w.cell? ⟨q, 0, none⟩ = some (.string t)) : Calls Tryz.prog 75 #[.slice (some ⟨p, 0, none⟩) 1 c, .slice (some ⟨q, 0, none⟩) 1 d] w fun e w' => e = .returned (.bool false) ∧ Below w.heap.size w w' := by
  go_enter Tryz.func75, Tryz.ntmps75
  go_wp2_with fail
  refine wp_loop_rounds 2 ?_
  rw [rounds_succ]
  go_wp2_with fail
  go_quiet (fail)
  go_wp2_with fail
  go_ret
  exact ⟨rfl, by repeat first | exact Below.refl _ w | apply below_drewN⟩
set_option maxHeartbeats 8000000 in
set_option maxRecDepth 100000 in
theorem eq2_yes (p q : Nat) (c d : Nat) (s t : ByteArray) (w : World) (hp0 : w.cell? ⟨p, 0, none⟩ = some (.string s)) (hq0 : w.cell? ⟨q, 0, none⟩ = some (.string s)) (hp1 : w.cell? ⟨p, 1, none⟩ = some (.string t)) (hq1 : w.cell? ⟨q, 1, none⟩ = some (.string t)) : Calls Tryz.prog 75 #[.slice (some ⟨p, 0, none⟩) 2 c, .slice (some ⟨q, 0, none⟩) 2 d] w fun e w' => e = .returned (.bool true) ∧ Below w.heap.size w w' := by
  go_enter Tryz.func75, Tryz.ntmps75
  go_wp2_with fail
  refine wp_loop_rounds 3 ?_
  rw [rounds_succ]
  go_wp2_with fail
  go_quiet (fail)
  go_wp2_with fail
  rw [rounds_succ]
  go_wp2_with fail
  go_quiet (fail)
  go_wp2_with fail
  rw [rounds_succ]
  go_wp2_with fail
  go_ret
  exact ⟨rfl, by repeat first | exact Below.refl _ w | apply below_drewN⟩
set_option maxHeartbeats 8000000 in
set_option maxRecDepth 100000 in
theorem eq2_no0 (p q : Nat) (c d : Nat) (s t : ByteArray) (hn : (s.toList == t.toList) = false) (w : World) (hp0 : w.cell? ⟨p, 0, none⟩ = some (.string s)) (hq0 : w.cell? ⟨q, 0, none⟩ = some (.string t)) : Calls Tryz.prog 75 #[.slice (some ⟨p, 0, none⟩) 2 c, .slice (some ⟨q, 0, none⟩) 2 d] w fun e w' => e = .returned (.bool false) ∧ Below w.heap.size w w' := by
  go_enter Tryz.func75, Tryz.ntmps75
  go_wp2_with fail
  refine wp_loop_rounds 3 ?_
  rw [rounds_succ]
  go_wp2_with fail
  go_quiet (fail)
  go_wp2_with fail
  go_ret
  exact ⟨rfl, by repeat first | exact Below.refl _ w | apply below_drewN⟩
set_option maxHeartbeats 8000000 in
set_option maxRecDepth 100000 in
theorem eq2_no1 (p q : Nat) (c d : Nat) (r s t : ByteArray) (hn : (s.toList == t.toList) = false) (w : World) (hp0 : w.cell? ⟨p, 0, none⟩ = some (.string r)) (hq0 : w.cell? ⟨q, 0, none⟩ = some (.string r)) (hp1 : w.cell? ⟨p, 1, none⟩ = some (.string s)) (hq1 : w.cell? ⟨q, 1, none⟩ = some (.string t)) : Calls Tryz.prog 75 #[.slice (some ⟨p, 0, none⟩) 2 c, .slice (some ⟨q, 0, none⟩) 2 d] w fun e w' => e = .returned (.bool false) ∧ Below w.heap.size w w' := by
  go_enter Tryz.func75, Tryz.ntmps75
  go_wp2_with fail
  refine wp_loop_rounds 3 ?_
  rw [rounds_succ]
  go_wp2_with fail
  go_quiet (fail)
  go_wp2_with fail
  rw [rounds_succ]
  go_wp2_with fail
  go_quiet (fail)
  go_wp2_with fail
  go_ret
  exact ⟨rfl, by repeat first | exact Below.refl _ w | apply below_drewN⟩
set_option maxHeartbeats 8000000 in
set_option maxRecDepth 100000 in
theorem verbs_calls (w : World) : Calls Tryz.prog 73 #[] w fun e w' => e = .returned (.slice (some ⟨w.heap.size, 0, none⟩) 10 10) ∧ w' = w.alloc (.cells #[.string ⟨#[112, 114, 111, 120, 121, 32, 97, 100, 100]⟩, .string ⟨#[112, 114, 111, 120, 121, 32, 100, 114, 111, 112]⟩, .string ⟨#[111, 110]⟩, .string ⟨#[111, 102, 102]⟩, .string ⟨#[116, 111, 120, 105, 99, 32, 97, 100, 100]⟩, .string ⟨#[116, 111, 120, 105, 99, 32, 100, 114, 111, 112]⟩, .string ⟨#[116, 111, 120, 105, 99, 32, 115, 101, 116]⟩, .string ⟨#[108, 105, 115, 116]⟩, .string ⟨#[115, 104, 111, 119]⟩, .string ⟨#[114, 101, 115, 101, 116]⟩] 9) := by
  go_enter Tryz.func73, Tryz.ntmps73
  go_wp2_with fail
  go_ret
  exact ⟨rfl, rfl⟩
set_option maxHeartbeats 16000000 in
set_option maxRecDepth 100000 in
theorem verb_1 (g c : Nat) (w : World) (hS : Sp w) (hg : g < w.heap.size) (hc : 4 ≤ c) (h0 : w.cell? ⟨g, 0, none⟩ = some (strV [112, 114, 111, 120, 121])) (h1 : w.cell? ⟨g, 1, none⟩ = some (strV [97, 100, 100])) : Calls Tryz.prog 44 #[.slice (some ⟨g, 0, none⟩) 4 c] w fun e w' => e = .returned (.tuple #[.int .i64 1, .slice (some ⟨g, 2, none⟩) 2 (c - 2)]) ∧ Below w.heap.size w w' := by
  have HS := Lib.hid hS
  have hz := hS.1
  clear hS
  go_enter Tryz.func44, Tryz.ntmps44
  go_wp2_with fail
  refine (verbs_calls _).mono ?_
  rintro e v0 ⟨rfl, rfl⟩
  obtain ⟨w0, hw0⟩ : ∃ w0, w0 = w.alloc (.cells #[.string ⟨#[112, 114, 111, 120, 121, 32, 97, 100, 100]⟩, .string ⟨#[112, 114, 111, 120, 121, 32, 100, 114, 111, 112]⟩, .string ⟨#[111, 110]⟩, .string ⟨#[111, 102, 102]⟩, .string ⟨#[116, 111, 120, 105, 99, 32, 97, 100, 100]⟩, .string ⟨#[116, 111, 120, 105, 99, 32, 100, 114, 111, 112]⟩, .string ⟨#[116, 111, 120, 105, 99, 32, 115, 101, 116]⟩, .string ⟨#[108, 105, 115, 116]⟩, .string ⟨#[115, 104, 111, 119]⟩, .string ⟨#[114, 101, 115, 101, 116]⟩] 9) := ⟨_, rfl⟩
  rw [← hw0]
  have hb0 : Below w.heap.size w w0 := by rw [hw0]; exact below_alloc (Below.refl _ w) _ (Nat.le_refl _)
  have sz0 : w.heap.size < w0.heap.size := by rw [hw0, World.size_alloc]; omega
  have v0_0 : w0.cell? ⟨w.heap.size, 0, none⟩ = some (.string ⟨#[112, 114, 111, 120, 121, 32, 97, 100, 100]⟩) := by rw [hw0]; exact (World.cell?_alloc_at _ _ _ _ rfl).trans rfl
  clear hw0
  have HB0 := Lib.hid hb0
  have HV0 := Lib.hid (Below.refl w0.heap.size w0)
  clear hb0
  go_wp2_with fail
  refine wp_loop_rounds 1 ?_
  rw [rounds_succ]
  have hsz0 : w.heap.size < w0.heap.size := Nat.lt_of_lt_of_le sz0 HV0.out.size
  have hv0 : w0.cell? ⟨w.heap.size, 0, none⟩ = some (.string ⟨#[112, 114, 111, 120, 121, 32, 97, 100, 100]⟩) := (HV0.out.cell (p := ⟨w.heap.size, 0, none⟩) sz0).trans v0_0
  go_wp2_with fail
  refine (fields_1 _ (HS.out.below HB0.out hz)).mono ?_
  rintro e w1 ⟨rfl, rfl⟩
  go_wp2_with fail
  refine (eq2_yes g w0.heap.size _ _ _ _ _ ((below_alloc HB0.out _ (Nat.le_refl _)).cell (p := ⟨g, 0, none⟩) hg |>.trans h0) ((World.cell?_alloc_at _ _ _ _ rfl).trans rfl) ((below_alloc HB0.out _ (Nat.le_refl _)).cell (p := ⟨g, 1, none⟩) hg |>.trans h1) ((World.cell?_alloc_at _ _ _ _ rfl).trans rfl)).mono ?_
  rintro e w1 ⟨rfl, hb1⟩
  have HB1 := Lib.hid ((below_alloc HB0.out _ (Nat.le_refl _)).trans (hb1.mono (by rw [World.size_alloc]; omega)))
  have HV1 := Lib.hid ((below_alloc HV0.out _ (Nat.le_refl _)).trans (hb1.mono (by rw [World.size_alloc]; have := HV0.out.size; omega)))
  clear hb1
  go_wp2_with fail
  go_quiet (fail)
  go_wp2_with fail
  refine bodyPost_ret (results_tmp2 rfl _ _ _) rfl ?_
  exact ⟨rfl, by first | exact HB1.out | (repeat first | exact HB1.out | apply below_drewN)⟩
set_option maxHeartbeats 16000000 in
set_option maxRecDepth 100000 in
theorem verb_2 (g c : Nat) (w : World) (hS : Sp w) (hg : g < w.heap.size) (hc : 3 ≤ c) (h0 : w.cell? ⟨g, 0, none⟩ = some (strV [112, 114, 111, 120, 121])) (h1 : w.cell? ⟨g, 1, none⟩ = some (strV [100, 114, 111, 112])) : Calls Tryz.prog 44 #[.slice (some ⟨g, 0, none⟩) 3 c] w fun e w' => e = .returned (.tuple #[.int .i64 2, .slice (some ⟨g, 2, none⟩) 1 (c - 2)]) ∧ Below w.heap.size w w' := by
  have HS := Lib.hid hS
  have hz := hS.1
  clear hS
  go_enter Tryz.func44, Tryz.ntmps44
  go_wp2_with fail
  refine (verbs_calls _).mono ?_
  rintro e v0 ⟨rfl, rfl⟩
  obtain ⟨w0, hw0⟩ : ∃ w0, w0 = w.alloc (.cells #[.string ⟨#[112, 114, 111, 120, 121, 32, 97, 100, 100]⟩, .string ⟨#[112, 114, 111, 120, 121, 32, 100, 114, 111, 112]⟩, .string ⟨#[111, 110]⟩, .string ⟨#[111, 102, 102]⟩, .string ⟨#[116, 111, 120, 105, 99, 32, 97, 100, 100]⟩, .string ⟨#[116, 111, 120, 105, 99, 32, 100, 114, 111, 112]⟩, .string ⟨#[116, 111, 120, 105, 99, 32, 115, 101, 116]⟩, .string ⟨#[108, 105, 115, 116]⟩, .string ⟨#[115, 104, 111, 119]⟩, .string ⟨#[114, 101, 115, 101, 116]⟩] 9) := ⟨_, rfl⟩
  rw [← hw0]
  have hb0 : Below w.heap.size w w0 := by rw [hw0]; exact below_alloc (Below.refl _ w) _ (Nat.le_refl _)
  have sz0 : w.heap.size < w0.heap.size := by rw [hw0, World.size_alloc]; omega
  have v0_0 : w0.cell? ⟨w.heap.size, 0, none⟩ = some (.string ⟨#[112, 114, 111, 120, 121, 32, 97, 100, 100]⟩) := by rw [hw0]; exact (World.cell?_alloc_at _ _ _ _ rfl).trans rfl
  have v0_1 : w0.cell? ⟨w.heap.size, 1, none⟩ = some (.string ⟨#[112, 114, 111, 120, 121, 32, 100, 114, 111, 112]⟩) := by rw [hw0]; exact (World.cell?_alloc_at _ _ _ _ rfl).trans rfl
  clear hw0
  have HB0 := Lib.hid hb0
  have HV0 := Lib.hid (Below.refl w0.heap.size w0)
  clear hb0
  go_wp2_with fail
  refine wp_loop_rounds 2 ?_
  rw [rounds_succ]
  have hsz0 : w.heap.size < w0.heap.size := Nat.lt_of_lt_of_le sz0 HV0.out.size
  have hv0 : w0.cell? ⟨w.heap.size, 0, none⟩ = some (.string ⟨#[112, 114, 111, 120, 121, 32, 97, 100, 100]⟩) := (HV0.out.cell (p := ⟨w.heap.size, 0, none⟩) sz0).trans v0_0
  go_wp2_with fail
  refine (fields_1 _ (HS.out.below HB0.out hz)).mono ?_
  rintro e w1 ⟨rfl, rfl⟩
  go_wp2_with fail
  refine (eq2_no1 g w0.heap.size _ _ _ _ _ (by rw [Lib.toList_data, Lib.toList_data]; decide) _ ((below_alloc HB0.out _ (Nat.le_refl _)).cell (p := ⟨g, 0, none⟩) hg |>.trans h0) ((World.cell?_alloc_at _ _ _ _ rfl).trans rfl) ((below_alloc HB0.out _ (Nat.le_refl _)).cell (p := ⟨g, 1, none⟩) hg |>.trans h1) ((World.cell?_alloc_at _ _ _ _ rfl).trans rfl)).mono ?_
  rintro e w1 ⟨rfl, hb1⟩
  have HB1 := Lib.hid ((below_alloc HB0.out _ (Nat.le_refl _)).trans (hb1.mono (by rw [World.size_alloc]; omega)))
  have HV1 := Lib.hid ((below_alloc HV0.out _ (Nat.le_refl _)).trans (hb1.mono (by rw [World.size_alloc]; have := HV0.out.size; omega)))
  clear hb1
  go_wp2_with fail
  rw [rounds_succ]
  have hsz1 : w.heap.size < w1.heap.size := Nat.lt_of_lt_of_le sz0 HV1.out.size
  have hv1 : w1.cell? ⟨w.heap.size, 1, none⟩ = some (.string ⟨#[112, 114, 111, 120, 121, 32, 100, 114, 111, 112]⟩) := (HV1.out.cell (p := ⟨w.heap.size, 1, none⟩) sz0).trans v0_1
  go_wp2_with fail
  refine (fields_2 _ (HS.out.below HB1.out hz)).mono ?_
  rintro e w1 ⟨rfl, rfl⟩
  go_wp2_with fail
  refine (eq2_yes g w1.heap.size _ _ _ _ _ ((below_alloc HB1.out _ (Nat.le_refl _)).cell (p := ⟨g, 0, none⟩) hg |>.trans h0) ((World.cell?_alloc_at _ _ _ _ rfl).trans rfl) ((below_alloc HB1.out _ (Nat.le_refl _)).cell (p := ⟨g, 1, none⟩) hg |>.trans h1) ((World.cell?_alloc_at _ _ _ _ rfl).trans rfl)).mono ?_
  rintro e w2 ⟨rfl, hb2⟩
  have HB2 := Lib.hid ((below_alloc HB1.out _ (Nat.le_refl _)).trans (hb2.mono (by rw [World.size_alloc]; omega)))
  have HV2 := Lib.hid ((below_alloc HV1.out _ (Nat.le_refl _)).trans (hb2.mono (by rw [World.size_alloc]; have := HV1.out.size; omega)))
  clear hb2
  go_wp2_with fail
  go_quiet (fail)
  go_wp2_with fail
  refine bodyPost_ret (results_tmp2 rfl _ _ _) rfl ?_
  exact ⟨rfl, by first | exact HB2.out | (repeat first | exact HB2.out | apply below_drewN)⟩
set_option maxHeartbeats 16000000 in
set_option maxRecDepth 100000 in
theorem verb_3 (g c : Nat) (w : World) (hS : Sp w) (hg : g < w.heap.size) (hc : 2 ≤ c) (h0 : w.cell? ⟨g, 0, none⟩ = some (strV [111, 110])) : Calls Tryz.prog 44 #[.slice (some ⟨g, 0, none⟩) 2 c] w fun e w' => e = .returned (.tuple #[.int .i64 3, .slice (some ⟨g, 1, none⟩) 1 (c - 1)]) ∧ Below w.heap.size w w' := by
  have HS := Lib.hid hS
  have hz := hS.1
  clear hS
  go_enter Tryz.func44, Tryz.ntmps44
  go_wp2_with fail
  refine (verbs_calls _).mono ?_
  rintro e v0 ⟨rfl, rfl⟩
  obtain ⟨w0, hw0⟩ : ∃ w0, w0 = w.alloc (.cells #[.string ⟨#[112, 114, 111, 120, 121, 32, 97, 100, 100]⟩, .string ⟨#[112, 114, 111, 120, 121, 32, 100, 114, 111, 112]⟩, .string ⟨#[111, 110]⟩, .string ⟨#[111, 102, 102]⟩, .string ⟨#[116, 111, 120, 105, 99, 32, 97, 100, 100]⟩, .string ⟨#[116, 111, 120, 105, 99, 32, 100, 114, 111, 112]⟩, .string ⟨#[116, 111, 120, 105, 99, 32, 115, 101, 116]⟩, .string ⟨#[108, 105, 115, 116]⟩, .string ⟨#[115, 104, 111, 119]⟩, .string ⟨#[114, 101, 115, 101, 116]⟩] 9) := ⟨_, rfl⟩
  rw [← hw0]
  have hb0 : Below w.heap.size w w0 := by rw [hw0]; exact below_alloc (Below.refl _ w) _ (Nat.le_refl _)
  have sz0 : w.heap.size < w0.heap.size := by rw [hw0, World.size_alloc]; omega
  have v0_0 : w0.cell? ⟨w.heap.size, 0, none⟩ = some (.string ⟨#[112, 114, 111, 120, 121, 32, 97, 100, 100]⟩) := by rw [hw0]; exact (World.cell?_alloc_at _ _ _ _ rfl).trans rfl
  have v0_1 : w0.cell? ⟨w.heap.size, 1, none⟩ = some (.string ⟨#[112, 114, 111, 120, 121, 32, 100, 114, 111, 112]⟩) := by rw [hw0]; exact (World.cell?_alloc_at _ _ _ _ rfl).trans rfl
  have v0_2 : w0.cell? ⟨w.heap.size, 2, none⟩ = some (.string ⟨#[111, 110]⟩) := by rw [hw0]; exact (World.cell?_alloc_at _ _ _ _ rfl).trans rfl
  clear hw0
  have HB0 := Lib.hid hb0
  have HV0 := Lib.hid (Below.refl w0.heap.size w0)
  clear hb0
  go_wp2_with fail
  refine wp_loop_rounds 3 ?_
  rw [rounds_succ]
  have hsz0 : w.heap.size < w0.heap.size := Nat.lt_of_lt_of_le sz0 HV0.out.size
  have hv0 : w0.cell? ⟨w.heap.size, 0, none⟩ = some (.string ⟨#[112, 114, 111, 120, 121, 32, 97, 100, 100]⟩) := (HV0.out.cell (p := ⟨w.heap.size, 0, none⟩) sz0).trans v0_0
  go_wp2_with fail
  refine (fields_1 _ (HS.out.below HB0.out hz)).mono ?_
  rintro e w1 ⟨rfl, rfl⟩
  go_wp2_with fail
  refine (eq2_no0 g w0.heap.size _ _ _ _ (by rw [Lib.toList_data, Lib.toList_data]; decide) _ ((below_alloc HB0.out _ (Nat.le_refl _)).cell (p := ⟨g, 0, none⟩) hg |>.trans h0) ((World.cell?_alloc_at _ _ _ _ rfl).trans rfl)).mono ?_
  rintro e w1 ⟨rfl, hb1⟩
  have HB1 := Lib.hid ((below_alloc HB0.out _ (Nat.le_refl _)).trans (hb1.mono (by rw [World.size_alloc]; omega)))
  have HV1 := Lib.hid ((below_alloc HV0.out _ (Nat.le_refl _)).trans (hb1.mono (by rw [World.size_alloc]; have := HV0.out.size; omega)))
  clear hb1
  go_wp2_with fail
  rw [rounds_succ]
  have hsz1 : w.heap.size < w1.heap.size := Nat.lt_of_lt_of_le sz0 HV1.out.size
  have hv1 : w1.cell? ⟨w.heap.size, 1, none⟩ = some (.string ⟨#[112, 114, 111, 120, 121, 32, 100, 114, 111, 112]⟩) := (HV1.out.cell (p := ⟨w.heap.size, 1, none⟩) sz0).trans v0_1
  go_wp2_with fail
  refine (fields_2 _ (HS.out.below HB1.out hz)).mono ?_
  rintro e w1 ⟨rfl, rfl⟩
  go_wp2_with fail
  refine (eq2_no0 g w1.heap.size _ _ _ _ (by rw [Lib.toList_data, Lib.toList_data]; decide) _ ((below_alloc HB1.out _ (Nat.le_refl _)).cell (p := ⟨g, 0, none⟩) hg |>.trans h0) ((World.cell?_alloc_at _ _ _ _ rfl).trans rfl)).mono ?_
  rintro e w2 ⟨rfl, hb2⟩
  have HB2 := Lib.hid ((below_alloc HB1.out _ (Nat.le_refl _)).trans (hb2.mono (by rw [World.size_alloc]; omega)))
  have HV2 := Lib.hid ((below_alloc HV1.out _ (Nat.le_refl _)).trans (hb2.mono (by rw [World.size_alloc]; have := HV1.out.size; omega)))
  clear hb2
  go_wp2_with fail
  rw [rounds_succ]
  have hsz2 : w.heap.size < w2.heap.size := Nat.lt_of_lt_of_le sz0 HV2.out.size
  have hv2 : w2.cell? ⟨w.heap.size, 2, none⟩ = some (.string ⟨#[111, 110]⟩) := (HV2.out.cell (p := ⟨w.heap.size, 2, none⟩) sz0).trans v0_2
  go_wp2_with fail
  refine (fields_3 _ (HS.out.below HB2.out hz)).mono ?_
  rintro e w1 ⟨rfl, rfl⟩
  go_wp2_with fail
  refine (eq1_yes g w2.heap.size _ _ _ _ ((below_alloc HB2.out _ (Nat.le_refl _)).cell (p := ⟨g, 0, none⟩) hg |>.trans h0) ((World.cell?_alloc_at _ _ _ _ rfl).trans rfl)).mono ?_
  rintro e w3 ⟨rfl, hb3⟩
  have HB3 := Lib.hid ((below_alloc HB2.out _ (Nat.le_refl _)).trans (hb3.mono (by rw [World.size_alloc]; omega)))
  have HV3 := Lib.hid ((below_alloc HV2.out _ (Nat.le_refl _)).trans (hb3.mono (by rw [World.size_alloc]; have := HV2.out.size; omega)))
  clear hb3
  go_wp2_with fail
  go_quiet (fail)
  go_wp2_with fail
  refine bodyPost_ret (results_tmp2 rfl _ _ _) rfl ?_
  exact ⟨rfl, by first | exact HB3.out | (repeat first | exact HB3.out | apply below_drewN)⟩
set_option maxHeartbeats 16000000 in
set_option maxRecDepth 100000 in
theorem verb_4 (g c : Nat) (w : World) (hS : Sp w) (hg : g < w.heap.size) (hc : 2 ≤ c) (h0 : w.cell? ⟨g, 0, none⟩ = some (strV [111, 102, 102])) : Calls Tryz.prog 44 #[.slice (some ⟨g, 0, none⟩) 2 c] w fun e w' => e = .returned (.tuple #[.int .i64 4, .slice (some ⟨g, 1, none⟩) 1 (c - 1)]) ∧ Below w.heap.size w w' := by
  have HS := Lib.hid hS
  have hz := hS.1
  clear hS
  go_enter Tryz.func44, Tryz.ntmps44
  go_wp2_with fail
  refine (verbs_calls _).mono ?_
  rintro e v0 ⟨rfl, rfl⟩
  obtain ⟨w0, hw0⟩ : ∃ w0, w0 = w.alloc (.cells #[.string ⟨#[112, 114, 111, 120, 121, 32, 97, 100, 100]⟩, .string ⟨#[112, 114, 111, 120, 121, 32, 100, 114, 111, 112]⟩, .string ⟨#[111, 110]⟩, .string ⟨#[111, 102, 102]⟩, .string ⟨#[116, 111, 120, 105, 99, 32, 97, 100, 100]⟩, .string ⟨#[116, 111, 120, 105, 99, 32, 100, 114, 111, 112]⟩, .string ⟨#[116, 111, 120, 105, 99, 32, 115, 101, 116]⟩, .string ⟨#[108, 105, 115, 116]⟩, .string ⟨#[115, 104, 111, 119]⟩, .string ⟨#[114, 101, 115, 101, 116]⟩] 9) := ⟨_, rfl⟩
  rw [← hw0]
  have hb0 : Below w.heap.size w w0 := by rw [hw0]; exact below_alloc (Below.refl _ w) _ (Nat.le_refl _)
  have sz0 : w.heap.size < w0.heap.size := by rw [hw0, World.size_alloc]; omega
  have v0_0 : w0.cell? ⟨w.heap.size, 0, none⟩ = some (.string ⟨#[112, 114, 111, 120, 121, 32, 97, 100, 100]⟩) := by rw [hw0]; exact (World.cell?_alloc_at _ _ _ _ rfl).trans rfl
  have v0_1 : w0.cell? ⟨w.heap.size, 1, none⟩ = some (.string ⟨#[112, 114, 111, 120, 121, 32, 100, 114, 111, 112]⟩) := by rw [hw0]; exact (World.cell?_alloc_at _ _ _ _ rfl).trans rfl
  have v0_2 : w0.cell? ⟨w.heap.size, 2, none⟩ = some (.string ⟨#[111, 110]⟩) := by rw [hw0]; exact (World.cell?_alloc_at _ _ _ _ rfl).trans rfl
  have v0_3 : w0.cell? ⟨w.heap.size, 3, none⟩ = some (.string ⟨#[111, 102, 102]⟩) := by rw [hw0]; exact (World.cell?_alloc_at _ _ _ _ rfl).trans rfl
  clear hw0
  have HB0 := Lib.hid hb0
  have HV0 := Lib.hid (Below.refl w0.heap.size w0)
  clear hb0
  go_wp2_with fail
  refine wp_loop_rounds 4 ?_
  rw [rounds_succ]
  have hsz0 : w.heap.size < w0.heap.size := Nat.lt_of_lt_of_le sz0 HV0.out.size
  have hv0 : w0.cell? ⟨w.heap.size, 0, none⟩ = some (.string ⟨#[112, 114, 111, 120, 121, 32, 97, 100, 100]⟩) := (HV0.out.cell (p := ⟨w.heap.size, 0, none⟩) sz0).trans v0_0
  go_wp2_with fail
  refine (fields_1 _ (HS.out.below HB0.out hz)).mono ?_
  rintro e w1 ⟨rfl, rfl⟩
  go_wp2_with fail
  refine (eq2_no0 g w0.heap.size _ _ _ _ (by rw [Lib.toList_data, Lib.toList_data]; decide) _ ((below_alloc HB0.out _ (Nat.le_refl _)).cell (p := ⟨g, 0, none⟩) hg |>.trans h0) ((World.cell?_alloc_at _ _ _ _ rfl).trans rfl)).mono ?_
  rintro e w1 ⟨rfl, hb1⟩
  have HB1 := Lib.hid ((below_alloc HB0.out _ (Nat.le_refl _)).trans (hb1.mono (by rw [World.size_alloc]; omega)))
  have HV1 := Lib.hid ((below_alloc HV0.out _ (Nat.le_refl _)).trans (hb1.mono (by rw [World.size_alloc]; have := HV0.out.size; omega)))
  clear hb1
  go_wp2_with fail
  rw [rounds_succ]
  have hsz1 : w.heap.size < w1.heap.size := Nat.lt_of_lt_of_le sz0 HV1.out.size
  have hv1 : w1.cell? ⟨w.heap.size, 1, none⟩ = some (.string ⟨#[112, 114, 111, 120, 121, 32, 100, 114, 111, 112]⟩) := (HV1.out.cell (p := ⟨w.heap.size, 1, none⟩) sz0).trans v0_1
  go_wp2_with fail
  refine (fields_2 _ (HS.out.below HB1.out hz)).mono ?_
  rintro e w1 ⟨rfl, rfl⟩
  go_wp2_with fail
  refine (eq2_no0 g w1.heap.size _ _ _ _ (by rw [Lib.toList_data, Lib.toList_data]; decide) _ ((below_alloc HB1.out _ (Nat.le_refl _)).cell (p := ⟨g, 0, none⟩) hg |>.trans h0) ((World.cell?_alloc_at _ _ _ _ rfl).trans rfl)).mono ?_
  rintro e w2 ⟨rfl, hb2⟩
  have HB2 := Lib.hid ((below_alloc HB1.out _ (Nat.le_refl _)).trans (hb2.mono (by rw [World.size_alloc]; omega)))
  have HV2 := Lib.hid ((below_alloc HV1.out _ (Nat.le_refl _)).trans (hb2.mono (by rw [World.size_alloc]; have := HV1.out.size; omega)))
  clear hb2
  go_wp2_with fail
  rw [rounds_succ]
  have hsz2 : w.heap.size < w2.heap.size := Nat.lt_of_lt_of_le sz0 HV2.out.size
  have hv2 : w2.cell? ⟨w.heap.size, 2, none⟩ = some (.string ⟨#[111, 110]⟩) := (HV2.out.cell (p := ⟨w.heap.size, 2, none⟩) sz0).trans v0_2
  go_wp2_with fail
  refine (fields_3 _ (HS.out.below HB2.out hz)).mono ?_
  rintro e w1 ⟨rfl, rfl⟩
  go_wp2_with fail
  refine (eq1_no g w2.heap.size _ _ _ _ (by rw [Lib.toList_data, Lib.toList_data]; decide) _ ((below_alloc HB2.out _ (Nat.le_refl _)).cell (p := ⟨g, 0, none⟩) hg |>.trans h0) ((World.cell?_alloc_at _ _ _ _ rfl).trans rfl)).mono ?_
  rintro e w3 ⟨rfl, hb3⟩
  have HB3 := Lib.hid ((below_alloc HB2.out _ (Nat.le_refl _)).trans (hb3.mono (by rw [World.size_alloc]; omega)))
  have HV3 := Lib.hid ((below_alloc HV2.out _ (Nat.le_refl _)).trans (hb3.mono (by rw [World.size_alloc]; have := HV2.out.size; omega)))
  clear hb3
  go_wp2_with fail
  rw [rounds_succ]
  have hsz3 : w.heap.size < w3.heap.size := Nat.lt_of_lt_of_le sz0 HV3.out.size
  have hv3 : w3.cell? ⟨w.heap.size, 3, none⟩ = some (.string ⟨#[111, 102, 102]⟩) := (HV3.out.cell (p := ⟨w.heap.size, 3, none⟩) sz0).trans v0_3
  go_wp2_with fail
  refine (fields_4 _ (HS.out.below HB3.out hz)).mono ?_
  rintro e w1 ⟨rfl, rfl⟩
  go_wp2_with fail
  refine (eq1_yes g w3.heap.size _ _ _ _ ((below_alloc HB3.out _ (Nat.le_refl _)).cell (p := ⟨g, 0, none⟩) hg |>.trans h0) ((World.cell?_alloc_at _ _ _ _ rfl).trans rfl)).mono ?_
  rintro e w4 ⟨rfl, hb4⟩
  have HB4 := Lib.hid ((below_alloc HB3.out _ (Nat.le_refl _)).trans (hb4.mono (by rw [World.size_alloc]; omega)))
  have HV4 := Lib.hid ((below_alloc HV3.out _ (Nat.le_refl _)).trans (hb4.mono (by rw [World.size_alloc]; have := HV3.out.size; omega)))
  clear hb4
  go_wp2_with fail
  go_quiet (fail)
  go_wp2_with fail
  refine bodyPost_ret (results_tmp2 rfl _ _ _) rfl ?_
  exact ⟨rfl, by first | exact HB4.out | (repeat first | exact HB4.out | apply below_drewN)⟩
set_option maxHeartbeats 16000000 in
set_option maxRecDepth 100000 in
theorem verb_8 (g c : Nat) (w : World) (hS : Sp w) (hg : g < w.heap.size) (hc : 1 ≤ c) (h0 : w.cell? ⟨g, 0, none⟩ = some (strV [108, 105, 115, 116])) : Calls Tryz.prog 44 #[.slice (some ⟨g, 0, none⟩) 1 c] w fun e w' => (∃ a d, e = .returned (.tuple #[.int .i64 8, .slice a 0 d])) ∧ Below w.heap.size w w' := by
  have HS := Lib.hid hS
  have hz := hS.1
  clear hS
  go_enter Tryz.func44, Tryz.ntmps44
  go_wp2_with fail
  refine (verbs_calls _).mono ?_
  rintro e v0 ⟨rfl, rfl⟩
  obtain ⟨w0, hw0⟩ : ∃ w0, w0 = w.alloc (.cells #[.string ⟨#[112, 114, 111, 120, 121, 32, 97, 100, 100]⟩, .string ⟨#[112, 114, 111, 120, 121, 32, 100, 114, 111, 112]⟩, .string ⟨#[111, 110]⟩, .string ⟨#[111, 102, 102]⟩, .string ⟨#[116, 111, 120, 105, 99, 32, 97, 100, 100]⟩, .string ⟨#[116, 111, 120, 105, 99, 32, 100, 114, 111, 112]⟩, .string ⟨#[116, 111, 120, 105, 99, 32, 115, 101, 116]⟩, .string ⟨#[108, 105, 115, 116]⟩, .string ⟨#[115, 104, 111, 119]⟩, .string ⟨#[114, 101, 115, 101, 116]⟩] 9) := ⟨_, rfl⟩
  rw [← hw0]
  have hb0 : Below w.heap.size w w0 := by rw [hw0]; exact below_alloc (Below.refl _ w) _ (Nat.le_refl _)
  have sz0 : w.heap.size < w0.heap.size := by rw [hw0, World.size_alloc]; omega
  have v0_0 : w0.cell? ⟨w.heap.size, 0, none⟩ = some (.string ⟨#[112, 114, 111, 120, 121, 32, 97, 100, 100]⟩) := by rw [hw0]; exact (World.cell?_alloc_at _ _ _ _ rfl).trans rfl
  have v0_1 : w0.cell? ⟨w.heap.size, 1, none⟩ = some (.string ⟨#[112, 114, 111, 120, 121, 32, 100, 114, 111, 112]⟩) := by rw [hw0]; exact (World.cell?_alloc_at _ _ _ _ rfl).trans rfl
  have v0_2 : w0.cell? ⟨w.heap.size, 2, none⟩ = some (.string ⟨#[111, 110]⟩) := by rw [hw0]; exact (World.cell?_alloc_at _ _ _ _ rfl).trans rfl
  have v0_3 : w0.cell? ⟨w.heap.size, 3, none⟩ = some (.string ⟨#[111, 102, 102]⟩) := by rw [hw0]; exact (World.cell?_alloc_at _ _ _ _ rfl).trans rfl
  have v0_4 : w0.cell? ⟨w.heap.size, 4, none⟩ = some (.string ⟨#[116, 111, 120, 105, 99, 32, 97, 100, 100]⟩) := by rw [hw0]; exact (World.cell?_alloc_at _ _ _ _ rfl).trans rfl
  have v0_5 : w0.cell? ⟨w.heap.size, 5, none⟩ = some (.string ⟨#[116, 111, 120, 105, 99, 32, 100, 114, 111, 112]⟩) := by rw [hw0]; exact (World.cell?_alloc_at _ _ _ _ rfl).trans rfl
  have v0_6 : w0.cell? ⟨w.heap.size, 6, none⟩ = some (.string ⟨#[116, 111, 120, 105, 99, 32, 115, 101, 116]⟩) := by rw [hw0]; exact (World.cell?_alloc_at _ _ _ _ rfl).trans rfl
  have v0_7 : w0.cell? ⟨w.heap.size, 7, none⟩ = some (.string ⟨#[108, 105, 115, 116]⟩) := by rw [hw0]; exact (World.cell?_alloc_at _ _ _ _ rfl).trans rfl
  clear hw0
  have HB0 := Lib.hid hb0
  have HV0 := Lib.hid (Below.refl w0.heap.size w0)
  clear hb0
  go_wp2_with fail
  refine wp_loop_rounds 8 ?_
  rw [rounds_succ]
  have hsz0 : w.heap.size < w0.heap.size := Nat.lt_of_lt_of_le sz0 HV0.out.size
  have hv0 : w0.cell? ⟨w.heap.size, 0, none⟩ = some (.string ⟨#[112, 114, 111, 120, 121, 32, 97, 100, 100]⟩) := (HV0.out.cell (p := ⟨w.heap.size, 0, none⟩) sz0).trans v0_0
  go_wp2_with fail
  refine (fields_1 _ (HS.out.below HB0.out hz)).mono ?_
  rintro e w1 ⟨rfl, rfl⟩
  go_wp2_with fail
  obtain ⟨w1, hw1⟩ : ∃ x1, x1 = (w0.alloc (.cells #[strV [112, 114, 111, 120, 121], strV [97, 100, 100]] 9)) := ⟨_, rfl⟩
  rw [← hw1]
  have HB1 := Lib.hid (show Below w.heap.size w w1 by rw [hw1]; exact below_alloc HB0.out _ (Nat.le_refl _))
  have HV1 := Lib.hid (show Below w0.heap.size w0 w1 by rw [hw1]; exact below_alloc HV0.out _ (Nat.le_refl _))
  clear hw1
  rw [rounds_succ]
  have hsz1 : w.heap.size < w1.heap.size := Nat.lt_of_lt_of_le sz0 HV1.out.size
  have hv1 : w1.cell? ⟨w.heap.size, 1, none⟩ = some (.string ⟨#[112, 114, 111, 120, 121, 32, 100, 114, 111, 112]⟩) := (HV1.out.cell (p := ⟨w.heap.size, 1, none⟩) sz0).trans v0_1
  go_wp2_with fail
  refine (fields_2 _ (HS.out.below HB1.out hz)).mono ?_
  rintro e w1 ⟨rfl, rfl⟩
  go_wp2_with fail
  obtain ⟨w2, hw2⟩ : ∃ x1, x1 = (w1.alloc (.cells #[strV [112, 114, 111, 120, 121], strV [100, 114, 111, 112]] 9)) := ⟨_, rfl⟩
  rw [← hw2]
  have HB2 := Lib.hid (show Below w.heap.size w w2 by rw [hw2]; exact below_alloc HB1.out _ (Nat.le_refl _))
  have HV2 := Lib.hid (show Below w0.heap.size w0 w2 by rw [hw2]; exact below_alloc HV1.out _ (Nat.le_refl _))
  clear hw2
  rw [rounds_succ]
  have hsz2 : w.heap.size < w2.heap.size := Nat.lt_of_lt_of_le sz0 HV2.out.size
  have hv2 : w2.cell? ⟨w.heap.size, 2, none⟩ = some (.string ⟨#[111, 110]⟩) := (HV2.out.cell (p := ⟨w.heap.size, 2, none⟩) sz0).trans v0_2
  go_wp2_with fail
  refine (fields_3 _ (HS.out.below HB2.out hz)).mono ?_
  rintro e w1 ⟨rfl, rfl⟩
  go_wp2_with fail
  refine (eq1_no g w2.heap.size _ _ _ _ (by rw [Lib.toList_data, Lib.toList_data]; decide) _ ((below_alloc HB2.out _ (Nat.le_refl _)).cell (p := ⟨g, 0, none⟩) hg |>.trans h0) ((World.cell?_alloc_at _ _ _ _ rfl).trans rfl)).mono ?_
  rintro e w3 ⟨rfl, hb3⟩
  have HB3 := Lib.hid ((below_alloc HB2.out _ (Nat.le_refl _)).trans (hb3.mono (by rw [World.size_alloc]; omega)))
  have HV3 := Lib.hid ((below_alloc HV2.out _ (Nat.le_refl _)).trans (hb3.mono (by rw [World.size_alloc]; have := HV2.out.size; omega)))
  clear hb3
  go_wp2_with fail
  rw [rounds_succ]
  have hsz3 : w.heap.size < w3.heap.size := Nat.lt_of_lt_of_le sz0 HV3.out.size
  have hv3 : w3.cell? ⟨w.heap.size, 3, none⟩ = some (.string ⟨#[111, 102, 102]⟩) := (HV3.out.cell (p := ⟨w.heap.size, 3, none⟩) sz0).trans v0_3
  go_wp2_with fail
  refine (fields_4 _ (HS.out.below HB3.out hz)).mono ?_
  rintro e w1 ⟨rfl, rfl⟩
  go_wp2_with fail
  refine (eq1_no g w3.heap.size _ _ _ _ (by rw [Lib.toList_data, Lib.toList_data]; decide) _ ((below_alloc HB3.out _ (Nat.le_refl _)).cell (p := ⟨g, 0, none⟩) hg |>.trans h0) ((World.cell?_alloc_at _ _ _ _ rfl).trans rfl)).mono ?_
  rintro e w4 ⟨rfl, hb4⟩
  have HB4 := Lib.hid ((below_alloc HB3.out _ (Nat.le_refl _)).trans (hb4.mono (by rw [World.size_alloc]; omega)))
  have HV4 := Lib.hid ((below_alloc HV3.out _ (Nat.le_refl _)).trans (hb4.mono (by rw [World.size_alloc]; have := HV3.out.size; omega)))
  clear hb4
  go_wp2_with fail
  rw [rounds_succ]
  have hsz4 : w.heap.size < w4.heap.size := Nat.lt_of_lt_of_le sz0 HV4.out.size
  have hv4 : w4.cell? ⟨w.heap.size, 4, none⟩ = some (.string ⟨#[116, 111, 120, 105, 99, 32, 97, 100, 100]⟩) := (HV4.out.cell (p := ⟨w.heap.size, 4, none⟩) sz0).trans v0_4
  go_wp2_with fail
  refine (fields_5 _ (HS.out.below HB4.out hz)).mono ?_
  rintro e w1 ⟨rfl, rfl⟩
  go_wp2_with fail
  obtain ⟨w5, hw5⟩ : ∃ x1, x1 = (w4.alloc (.cells #[strV [116, 111, 120, 105, 99], strV [97, 100, 100]] 9)) := ⟨_, rfl⟩
  rw [← hw5]
  have HB5 := Lib.hid (show Below w.heap.size w w5 by rw [hw5]; exact below_alloc HB4.out _ (Nat.le_refl _))
  have HV5 := Lib.hid (show Below w0.heap.size w0 w5 by rw [hw5]; exact below_alloc HV4.out _ (Nat.le_refl _))
  clear hw5
  rw [rounds_succ]
  have hsz5 : w.heap.size < w5.heap.size := Nat.lt_of_lt_of_le sz0 HV5.out.size
  have hv5 : w5.cell? ⟨w.heap.size, 5, none⟩ = some (.string ⟨#[116, 111, 120, 105, 99, 32, 100, 114, 111, 112]⟩) := (HV5.out.cell (p := ⟨w.heap.size, 5, none⟩) sz0).trans v0_5
  go_wp2_with fail
  refine (fields_6 _ (HS.out.below HB5.out hz)).mono ?_
  rintro e w1 ⟨rfl, rfl⟩
  go_wp2_with fail
  obtain ⟨w6, hw6⟩ : ∃ x1, x1 = (w5.alloc (.cells #[strV [116, 111, 120, 105, 99], strV [100, 114, 111, 112]] 9)) := ⟨_, rfl⟩
  rw [← hw6]
  have HB6 := Lib.hid (show Below w.heap.size w w6 by rw [hw6]; exact below_alloc HB5.out _ (Nat.le_refl _))
  have HV6 := Lib.hid (show Below w0.heap.size w0 w6 by rw [hw6]; exact below_alloc HV5.out _ (Nat.le_refl _))
  clear hw6
  rw [rounds_succ]
  have hsz6 : w.heap.size < w6.heap.size := Nat.lt_of_lt_of_le sz0 HV6.out.size
  have hv6 : w6.cell? ⟨w.heap.size, 6, none⟩ = some (.string ⟨#[116, 111, 120, 105, 99, 32, 115, 101, 116]⟩) := (HV6.out.cell (p := ⟨w.heap.size, 6, none⟩) sz0).trans v0_6
  go_wp2_with fail
  refine (fields_7 _ (HS.out.below HB6.out hz)).mono ?_
  rintro e w1 ⟨rfl, rfl⟩
  go_wp2_with fail
  obtain ⟨w7, hw7⟩ : ∃ x1, x1 = (w6.alloc (.cells #[strV [116, 111, 120, 105, 99], strV [115, 101, 116]] 9)) := ⟨_, rfl⟩
  rw [← hw7]
  have HB7 := Lib.hid (show Below w.heap.size w w7 by rw [hw7]; exact below_alloc HB6.out _ (Nat.le_refl _))
  have HV7 := Lib.hid (show Below w0.heap.size w0 w7 by rw [hw7]; exact below_alloc HV6.out _ (Nat.le_refl _))
  clear hw7
  rw [rounds_succ]
  have hsz7 : w.heap.size < w7.heap.size := Nat.lt_of_lt_of_le sz0 HV7.out.size
  have hv7 : w7.cell? ⟨w.heap.size, 7, none⟩ = some (.string ⟨#[108, 105, 115, 116]⟩) := (HV7.out.cell (p := ⟨w.heap.size, 7, none⟩) sz0).trans v0_7
  go_wp2_with fail
  refine (fields_8 _ (HS.out.below HB7.out hz)).mono ?_
  rintro e w1 ⟨rfl, rfl⟩
  go_wp2_with fail
  refine (eq1_yes g w7.heap.size _ _ _ _ ((below_alloc HB7.out _ (Nat.le_refl _)).cell (p := ⟨g, 0, none⟩) hg |>.trans h0) ((World.cell?_alloc_at _ _ _ _ rfl).trans rfl)).mono ?_
  rintro e w8 ⟨rfl, hb8⟩
  have HB8 := Lib.hid ((below_alloc HB7.out _ (Nat.le_refl _)).trans (hb8.mono (by rw [World.size_alloc]; omega)))
  have HV8 := Lib.hid ((below_alloc HV7.out _ (Nat.le_refl _)).trans (hb8.mono (by rw [World.size_alloc]; have := HV7.out.size; omega)))
  clear hb8
  go_wp2_with fail
  go_quiet (fail)
  all_goals (go_wp2_with fail)
  all_goals (refine bodyPost_ret (results_tmp2 rfl _ _ _) rfl ?_)
  all_goals (exact ⟨⟨_, _, rfl⟩, by first | exact HB8.out | (repeat first | exact HB8.out | apply below_drewN)⟩)
end Go.Proofs.YtdpfmemcpipbkaaGreatDoor.Hand
end
