/- Write on a ring. -/
import Derived.Test.YtbplfoanhfmheaaRing5
namespace Go.Proofs.Ytbplfoanhfmheaa.Hand
open Go.RowKit Go.Proofs.YtbplfoanhfmheaaW.PrintWords Go.Proofs.YtbplfoanhfmheaaW.PrintLast Go.Proofs.YtbplfoanhfmheaaW.PrintMore
attribute [local go_sem] max2_int min2_int max_two min_two
set_option linter.unusedVariables false
set_option linter.unusedSimpArgs false
/-- What is written of so many: those for which there is room. -/
def wrN (room : Int) (s l : List Int) : Nat := min l.length (freeOf room s).toNat
theorem freeOf_nonneg (room : Int) (s : List Int) : 0 ≤ freeOf room s := by unfold freeOf; split <;> omega
set_option maxHeartbeats 1000000 in
theorem write_calls {w : World} {g b : Nat} {room : Int} {s : List Int} (h : Ring w g b room s) (h0 : 0 ≤ room) (h1 : room ≤ 1000000) (A : Option Addr) (c : Nat) (l : List Int) (hlc : l.length ≤ c) (hC : ArgAt (fun i => i = g ∨ i = b) w A l) (hk : s.length + l.length ≤ 1099511627776) :
    Calls Try.prog 13 #[.pointer (some ⟨g, 0, none⟩), .slice A l.length c] w fun e w' => e = .returned (.int .i64 (wrN room s l)) ∧ ∃ b', Ring w' g b' room (s ++ l.take (wrN room s l)) ∧ (b' = b ∨ w.heap.size ≤ b') ∧ Fr (fun i => i = g ∨ i = b) w w' := by
  have HFREE := Lib.hid (Ring.free_calls h h0 h1)
  have H := Lib.hid h
  have HC := Lib.hid hC
  have hfn := freeOf_nonneg room s
  obtain ⟨f, hf⟩ : ∃ f : Nat, (f : Int) = freeOf room s := ⟨(freeOf room s).toNat, by omega⟩
  have hwr : wrN room s l = min l.length f := by unfold wrN; omega
  rw [hwr]
  have HF := Lib.hid hf
  have hll := hC.len
  clear h hC hf hfn hwr
  by_cases hc : f < l.length
  · have hm : min l.length f = f := by omega
    rw [hm]
    clear hm
    go_enter Try.func13, Try.ntmps13
    go_wp2_with fail
    refine HFREE.out.mono ?_
    rw [← HF.out]
    rintro e w1 ⟨rfl, hd⟩
    have hb := hd.below
    have HR1 := Lib.hid (H.out.below hb)
    have HFR := Lib.hid (Fr.of_below (X := fun i => i = g ∨ i = b) hb)
    have HC1 : Hid (ArgAt (fun i => i = g ∨ i = b) w1 A (l.take f)) := ⟨by rw [List.length_take]; omega, fun i hi => by
      rw [List.length_take] at hi
      obtain ⟨ad, e, hx, hc⟩ := (HC.out.keep (Fr.of_below (X := fun _ => False) hb) (fun i _ h => h.elim)).at_ i (by omega)
      exact ⟨ad, e, hx, by rw [hc, List.getD_eq_getElem?_getD, List.getD_eq_getElem?_getD, List.getElem?_take_of_lt (by omega)]⟩⟩
    have hlt : (l.take f).length = f := by rw [List.length_take]; omega
    have hwz : w.heap.size ≤ w1.heap.size := hb.size
    clear hd hb
    go_wp2_with fail
    have hforce := force_calls HR1.out A c (l.take f) HC1.out (by omega)
    rw [hlt] at hforce
    refine hforce.mono ?_
    rintro e w2 ⟨rfl, b', hr, hb, hf⟩
    have HR2 := Lib.hid hr
    have HB2 := Lib.hid hb
    have HF2 := Lib.hid hf
    clear hr hb hf hforce
    go_wp2
    go_ret
    exact ⟨rfl, b', HR2.out, HB2.out.imp id (fun h => by omega), Fr.trans HFR.out HF2.out (fun i h => h) (fun i _ h => h)⟩
  · have hm : min l.length f = l.length := by omega
    have ht : l.take l.length = l := List.take_length
    rw [hm, ht]
    clear hm ht
    go_enter Try.func13, Try.ntmps13
    go_wp2_with fail
    refine HFREE.out.mono ?_
    rw [← HF.out]
    rintro e w1 ⟨rfl, hd⟩
    have hb := hd.below
    have HR1 := Lib.hid (H.out.below hb)
    have HFR := Lib.hid (Fr.of_below (X := fun i => i = g ∨ i = b) hb)
    have HC1 : Hid (ArgAt (fun i => i = g ∨ i = b) w1 A l) := HC.out.keep (Fr.of_below (X := fun _ => False) hb) (fun i _ h => h.elim)
    have hwz : w.heap.size ≤ w1.heap.size := hb.size
    clear hd hb
    go_wp2_with fail
    have hforce := force_calls HR1.out A c l HC1.out (by omega)
    refine hforce.mono ?_
    rintro e w2 ⟨rfl, b', hr, hb, hf⟩
    have HR2 := Lib.hid hr
    have HB2 := Lib.hid hb
    have HF2 := Lib.hid hf
    clear hr hb hf hforce
    go_wp2
    go_ret
    exact ⟨rfl, b', HR2.out, HB2.out.imp id (fun h => by omega), Fr.trans HFR.out HF2.out (fun i h => h) (fun i _ h => h)⟩
end Go.Proofs.Ytbplfoanhfmheaa.Hand
