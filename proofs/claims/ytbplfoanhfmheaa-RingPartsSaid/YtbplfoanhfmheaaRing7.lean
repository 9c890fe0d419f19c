/- New and Clear on a ring. -/
import Derived.Test.YtbplfoanhfmheaaRing6
import Derived.Lib.SliceRun
namespace Go.Proofs.Ytbplfoanhfmheaa.Hand
open Go.RowKit Go.Proofs.YtbplfoanhfmheaaW.PrintWords Go.Proofs.YtbplfoanhfmheaaW.PrintLast Go.Proofs.YtbplfoanhfmheaaW.PrintMore
set_option linter.unusedVariables false
set_option linter.unusedSimpArgs false
theorem new_bad (room : Int) (w : World) (h : room < 0 ∨ 4096 < room) : Calls Try.prog 10 #[.int .i64 room] w fun e w' => e = .returned (.tuple #[.pointer none, .int .i64 1]) ∧ w = w' := by
  rcases h with h | h
  · go_enter Try.func10, Try.ntmps10
    go_wp2
    go_ret2
    exact ⟨rfl, rfl⟩
  · have h' : ¬ room < 0 := by omega
    go_enter Try.func10, Try.ntmps10
    go_wp2
    go_ret2
    exact ⟨rfl, rfl⟩
theorem new_good (room : Nat) (w : World) (h : room ≤ 4096) : Calls Try.prog 10 #[.int .i64 room] w fun e w' => e = .returned (.tuple #[.pointer (some ⟨w.heap.size + 1, 0, none⟩), .int .i64 0]) ∧ Ring w' (w.heap.size + 1) w.heap.size room [] ∧ Below w.heap.size w w' := by
  have hmk := print_make (P := Try.prog) 32 5 .u8 1 Try.underlying32 (by kernel_rfl) (by decide) room (by omega)
  go_enter Try.func10, Try.ntmps10
  go_wp2
  go_ret2
  have hs : (w.alloc (Obj.cells (madeCells #[Value.int .u8 0] room) 5)).heap.size = w.heap.size + 1 := by show (w.heap.push _).size = _; simp
  refine ⟨rfl, ⟨0, 0, room, List.replicate room 0, ⟨?_, ?_, List.length_replicate, by omega, Nat.zero_le _, by omega⟩, by omega, rfl⟩, below_alloc (below_alloc (Below.refl _ _) _) _⟩
  · rw [← hs]
    show ((w.alloc _).heap.push _)[(w.alloc _).heap.size]? = _
    rw [Array.getElem?_push_size]
    rfl
  · rw [← madeBytes]
    show ((w.heap.push _).push _)[w.heap.size]? = _
    rw [Array.getElem?_push_lt (by simp), Array.getElem_push_eq]
theorem zero_u8 (w : World) : (zeroValue 5).run Try.prog w = .ok (.int .u8 0) w := by kernel_rfl
theorem clear_none (w : World) (ty : TypeId) (b : Nat) : (Builtin.clear_ #[32] ty #[.slice (some ⟨b, 0, none⟩) 0 0]).run Try.prog w = .ok (.tuple #[]) w := by
  simp [Builtin.clear_, run_underlying Try.underlying32]
/-- The bytes are noughts. -/
theorem RingAt.wipe {w : World} {g b at_ many n : Nat} {room : Int} {cs : List Int} (h : RingAt w g b at_ many n room cs) : RingAt (w.setCells b 0 (List.replicate n (.int .u8 0))) g b at_ many n room (List.replicate n 0) := by
  obtain ⟨cur', h1, h2, h3⟩ := setCells_row (g := b) (List.replicate n (.int .u8 0)) 0 w _ h.hb (by simp [bytesV, h.len])
  refine ⟨(setCells_far _ _ _ h.ne).trans h.hg, ?_, List.length_replicate, h.ne, h.hm, h.hn⟩
  rw [h1]
  congr 2
  apply Array.ext'
  rw [h3]
  simp [bytesV, h.len]
theorem setCells_fr (w : World) (b o : Nat) (vs : List Value) : Fr (fun i => i = b) w (w.setCells b o vs) := by
  obtain ⟨h1, h2, h3, h4⟩ := setCells_same b vs o w
  exact ⟨h1, h2, h3, by omega, fun k _ hk => setCells_far vs o k hk⟩
theorem clear_calls {w : World} {g b : Nat} {room : Int} {s : List Int} (h : Ring w g b room s) : Calls Try.prog 26 #[.pointer (some ⟨g, 0, none⟩)] w fun e w' => e = .returned (.int .i64 (s.length : Int)) ∧ Ring w' g b room [] ∧ Fr (fun i => i = g ∨ i = b) w w' := by
  obtain ⟨at_, many, n, cs, h, ha, hs⟩ := h
  have hl := content_len (at_ := at_) h.len (by omega) h.hm
  rw [hs, hl]
  clear hs hl
  have hcl : ∃ W, (∀ ty, (Builtin.clear_ #[32] ty #[.slice (some ⟨b, 0, none⟩) n n]).run Try.prog w = .ok (.tuple #[]) W) ∧ RingAt W g b at_ many n room (List.replicate n 0) ∧ Fr (fun i => i = b) w W := by
    by_cases h0 : n = 0
    · subst h0
      refine ⟨w, fun ty => clear_none w ty b, ?_, Fr.refl _ _⟩
      have hc := List.eq_nil_of_length_eq_zero h.len
      rw [hc] at h
      exact h
    · refine ⟨_, fun ty => Lib.run_clear_slice w 32 5 ty (.int .u8 0) Try.underlying32 zero_u8 rfl rfl b 0 n n (by omega) (fun j hj => by rw [Nat.zero_add, h.cb j hj]; rfl) (fun j hj => blk_frozen h.hb _), h.wipe, setCells_fr _ _ _ _⟩
  obtain ⟨W, hcl, hW, hF⟩ := hcl
  have c0 := h.c0
  have c2 := h.c2
  have f1 := hW.fr 1
  have f2 := hW.fr 2
  have d1 := hW.c1
  have d2 := hW.c2
  have HW := Lib.hid hW
  have HF := Lib.hid hF
  have HA := Lib.hid ha
  clear h hW hF ha
  go_enter Try.func26, Try.ntmps26
  go_wp2
  go_ret
  refine ⟨rfl, ⟨0, 0, n, _, (HW.out.set1 0).set2 0 (Nat.zero_le _), by omega, rfl⟩, ?_⟩
  exact Fr.set (Fr.set (HF.out.mono (fun i h => .inr h)) (.inl rfl) _) (.inl rfl) _
end Go.Proofs.Ytbplfoanhfmheaa.Hand
