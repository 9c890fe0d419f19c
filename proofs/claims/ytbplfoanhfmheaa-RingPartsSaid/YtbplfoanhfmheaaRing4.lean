/- grow on a ring: there is place for so many more, and the text stays. -/
import Derived.Test.YtbplfoanhfmheaaRing3
namespace Go.Proofs.Ytbplfoanhfmheaa.Hand
open Go.RowKit Go.Proofs.YtbplfoanhfmheaaW.PrintWords Go.Proofs.YtbplfoanhfmheaaW.PrintLast Go.Proofs.YtbplfoanhfmheaaW.PrintMore
set_option linter.unusedVariables false
set_option linter.unusedSimpArgs false
theorem splice_new (N m : Nat) (s : List Int) (hs : s.length = m) (hm : m ≤ N) : splice (bytesV (List.replicate N 0)) 0 (bytesV s) = bytesV (s ++ List.replicate (N - m) 0) := by
  unfold splice
  rw [List.take_zero, List.nil_append, bytesV_length, hs, Nat.zero_add]
  simp [bytesV]
theorem content_new (N m : Nat) (s : List Int) (hs : s.length = m) : content 0 m (s ++ List.replicate (N - m) 0) = s := by
  unfold content
  rw [List.drop_zero, List.take_zero, List.append_nil, List.take_left' hs]
section
variable {w : World} {g b at_ many n : Nat} {room : Int} {cs : List Int}
theorem grow_stay (h : RingAt w g b at_ many n room cs) (k : Nat) (hk : many + k ≤ n) :
    Calls Try.prog 27 #[.pointer (some ⟨g, 0, none⟩), .int .i64 k] w fun e w' => e = .returned (.tuple #[]) ∧ Drawn0 w w' := by
  have hm := h.hm
  have hn := h.hn
  have c0 := h.c0
  have c2 := h.c2
  clear h
  go_enter Try.func27, Try.ntmps27
  go_wp2
  go_quiet (fail)
  go_wp2
  refine bodyPost_ret (v := .tuple #[]) (results_none rfl _ _ _) rfl ?_
  exact ⟨rfl, ⟨_, rfl⟩⟩
set_option maxHeartbeats 4000000 in
theorem grow_more (h : RingAt w g b at_ many n room cs) (ha : at_ < n ∨ n = 0 ∧ at_ = 0) (k N : Nat) (hk : n < many + k) (hb : many + k ≤ 1099511627776) (hN : N = 2 * (many + k)) :
    Calls Try.prog 27 #[.pointer (some ⟨g, 0, none⟩), .int .i64 k] w fun e w' => e = .returned (.tuple #[]) ∧ RingAt w' g w.heap.size 0 many N room (content at_ many cs ++ List.replicate (N - many) 0) ∧ Fr (fun i => i = g) w w' := by
  have hm := h.hm
  have hn := h.hn
  have lg := h.lg
  have hs := content_len (at_ := at_) h.len (by omega) h.hm
  have H := Lib.hid h
  have hmk := print_make (P := Try.prog) 32 5 .u8 1 Try.underlying32 (by kernel_rfl) (by decide) N (by omega)
  have hmk' : ∀ W : World, (Instr.makeSlice 32 (.int .i64 (2 * ((many : Int) + (k : Int)))) (.int .i64 (2 * ((many : Int) + (k : Int))))).run Try.prog W = .ok (.slice (some ⟨W.heap.size, 0, none⟩) N N) (W.alloc (.cells (madeCells #[Value.int .u8 0] N) 5)) := by
    have e : (2 * ((many : Int) + (k : Int))) = (N : Int) := by omega
    rw [e]
    exact hmk
  clear hmk
  have hdr : RingAt w.drew g b at_ many n room cs := h.drew
  have c0 := h.c0
  have c2 := h.c2
  have hld : ∀ (q : Nat) (o : Obj), ((w.drewN q).alloc o).cell? ⟨g, 2, none⟩ = some (.int .i64 many) := fun q o => pw_cell_below (below_alloc (pw_below_drewN (Below.refl _ w) q) o) c2
  have hcut : cutN (many : Int) many = many := by unfold cutN; omega
  have HS := Lib.hid hs
  have HA := Lib.hid ha
  have HCUT := Lib.hid hcut
  clear h hs hdr ha hcut
  have hN1 : N ≤ 2199023255552 := by omega
  have hN2 : many < N := by omega
  clear hN
  go_enter Try.func27, Try.ntmps27
  go_wp2
  go_quiet (fail)
  go_wp2_with fail
  clear hld hmk' c0 c2
  generalize hwd : World.drewN w _ = wd
  have hbd : Below w.heap.size w wd := hwd ▸ pw_below_drewN (Below.refl _ _) _
  have hsz : wd.heap.size = w.heap.size := by rw [← hwd]; rfl
  clear hwd
  generalize hwa : wd.alloc (Obj.cells (madeCells #[Value.int .u8 0] N) 5) = wa
  have hba : Below w.heap.size w wa := hwa ▸ hbd.alloc (by omega) _
  have hqa : wa.heap[w.heap.size]? = some (.cells (bytesV (List.replicate N 0)).toArray 5 (0, 0)) := by
    rw [← hwa, ← madeBytes, ← hsz]
    show (wd.heap.push _)[wd.heap.size]? = _
    simp
  have hra : RingAt wa g b at_ many n room cs := H.out.keep (X := fun _ => False) (Fr.of_below hba) (fun h => h) (fun h => h)
  clear hwa hbd hsz
  refine (Hand.peek_calls hra (by have := HA.out; omega) (many : Int) many (.inr (.inr ⟨many, rfl, Nat.le_refl _, rfl⟩))).mono ?_
  rintro e w1 ⟨rfl, hq, hb1⟩
  have hqb : wa.heap.size ≠ w.heap.size := by have := blk_lt hqa; omega
  have hq1 : w1.heap[w.heap.size]? = some (.cells (bytesV (List.replicate N 0)).toArray 5 (0, 0)) := (hb1.block _ (blk_lt hqa)).trans hqa
  have hB1 : Below w.heap.size w w1 := hba.trans (hb1.mono (by have := blk_lt hqa; omega))
  obtain ⟨q2, hq2⟩ : ∃ q2, wa.heap.size = q2 := ⟨_, rfl⟩
  rw [hq2] at hq
  simp only [hq2]
  have HQ := Aside0.mk hq
  have HQ1 := Aside0.mk hq1
  have HB1 := Aside0.mk hB1
  clear hq hq1 hB1 hb1 hra hqa hba hq2 hqb
  have hN1 : (bytesV (content at_ many cs)).length = Nat.min many N := by rw [bytesV_length, HS.out]; show many = min many N; omega
  have hP1 : 0 < (bytesV (content at_ many cs)).length → (some (⟨w.heap.size, 0, none⟩ : Addr)) = some ⟨w.heap.size, 0, none⟩ ∧ ∃ ad, some (⟨q2, 0, none⟩ : Addr) = some ad ∧ ∀ j v, (bytesV (content at_ many cs))[j]? = some v → w1.cell? (ad.add j) = some v := fun _ => ⟨rfl, ⟨q2, 0, none⟩, rfl, fun j v hv => by rw [add_plain, blk_cell HQ.out, ← Array.getElem?_toList]; exact hv⟩
  have hF1 : 0 + (bytesV (content at_ many cs)).length ≤ (bytesV (List.replicate N 0)).length := by rw [bytesV_length, HS.out, bytesV_length, List.length_replicate]; omega
  have HN1 := Aside0.mk hN1
  have HP1 := Aside0.mk hP1
  have HF1 := Aside0.mk hF1
  clear hN1 hP1 hF1
  go_wp2_with ((with_reducible refine wpList_copy_splice rfl (.tmp 25) (.tmp 31) 32 32 rfl 5 Try.underlying32 ?c1 (some ⟨w.heap.size, 0, none⟩) (some ⟨q2, 0, none⟩) N N many many ?c2 ?c3 w.heap.size 0 (bytesV (List.replicate N 0)) 5 HQ1.out (bytesV (content at_ many cs)) HN1.out HP1.out HF1.out (bytesV_one _) w.heap.size w HB1.out (Nat.le_refl _) ?_); (case c1 => kernel_rfl); (case c2 => rfl); (case c3 => rfl); intro w2 hg2 hb2; have HG2 := Aside0.mk hg2.out; have HB2 := Aside0.mk hb2; have f0 := (H.out.keep (X := fun _ => False) (Fr.of_below hb2) (fun h => h) (fun h => h)).fr 0; have f1 := (H.out.keep (X := fun _ => False) (Fr.of_below hb2) (fun h => h) (fun h => h)).fr 1; have d0 := (H.out.keep (X := fun _ => False) (Fr.of_below hb2) (fun h => h) (fun h => h)).c0; have d1 := (H.out.keep (X := fun _ => False) (Fr.of_below hb2) (fun h => h) (fun h => h)).c1; clear hg2 hb2)
  go_end0
  have hr2 := H.out.keep (X := fun _ => False) (Fr.of_below HB2.out) (fun h => h) (fun h => h)
  have hg2 := HG2.out
  rw [splice_new N many _ HS.out (by omega)] at hg2
  have hgq : w.heap.size ≠ g := by omega
  refine ⟨rfl, ⟨?_, ?_, ?_, fun e => hgq e.symm, by omega, by omega⟩, ?_⟩
  · rw [blk_set (blk_set hr2.hg 0 _) 1 _]
    rfl
  · exact blk_far (blk_far hg2 hgq _) hgq _
  · rw [List.length_append, HS.out, List.length_replicate]
    omega
  · refine Fr.set (Fr.set (Fr.of_below HB2.out) ?_ _) ?_ _ <;> rfl
end
end Go.Proofs.Ytbplfoanhfmheaa.Hand
