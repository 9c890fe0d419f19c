import Derived.Test.YtmklmpajcomimaaZPart
import Derived.Test.YtmklmpajcomimaaZLebs
import Derived.Defers
import Derived.Recover
import Derived.Laws.Pointers
section
/- A record's bytes, read. -/
namespace Go.Proofs.Ytmklmpajcomimaa.Hand
open Go.RowKit Go.Proofs.YtmklmpajcomimaaW.PrintWords Go.Proofs.YtmklmpajcomimaaW.PrintLast Go.Proofs.YtmklmpajcomimaaW.PrintMore Go.Proofs.Ytmklmpajcomimaa.PTraceWrites Go.Proofs.Ytmklmpajcomimaa.CrcMath
set_option linter.unusedVariables false
set_option linter.unusedSimpArgs false
theorem Rdr.set_other {w : World} {g base : Nat} {l : List Int} {at_ : Nat} {bad : Bool} (h : Rdr w g base l at_ bad) {q t : Nat} {cells : Array Value} (hq : w.heap[q]? = some (.cells cells t (0, 0))) (ht : t ≠ 5) (hgq : g ≠ q) (j : Nat) (v : Value) : Rdr (w.setCell ⟨q, j, none⟩ v) g base l at_ bad := by
  obtain ⟨A, c, hg, hr, h1⟩ := h
  refine ⟨A, c, (Below.heap_setCell w ⟨q, j, none⟩ v g hgq).trans hg, Kd.R_set hr hq (fun e he => ?_) j v, h1⟩
  rcases List.mem_cons.1 he with rfl | he
  · exact fun h => ht h.symm
  · simp [Kd.int, Kd.scalar] at he
/-- The five numbers, read one by one: what was read, where it stands, whether it is amiss. -/
def readK (l : List Int) (a : Nat) (b : Bool) : Nat → List Int × Nat × Bool
  | 0 => ([], a, b)
  | k + 1 => ((readK l a b k).1 ++ [(rI l (readK l a b k).2.1 (readK l a b k).2.2 2199023255552).1], (rI l (readK l a b k).2.1 (readK l a b k).2.2 2199023255552).2)
theorem readK_len (l : List Int) (a : Nat) (b : Bool) : ∀ k, (readK l a b k).1.length = k
  | 0 => rfl
  | k + 1 => by simp [readK, readK_len l a b k]
/-- A record of a kind, of numbers, of a text. -/
def mkR (kd : Int) (ns : List Int) (s : ByteArray) : S39 := ⟨kd, ns.getD 0 0, ns.getD 1 0, ns.getD 2 0, ns.getD 3 0, ns.getD 4 0, s⟩
theorem mkR_set (kd n : Int) (s : ByteArray) : ∀ (ns : List Int), ns.length < 5 → (recC (mkR kd ns s)).setIfInBounds (ns.length + 1) (.int .i64 n) = recC (mkR kd (ns ++ [n]) s)
  | [], _ => rfl
  | [_], _ => rfl
  | [_, _], _ => rfl
  | [_, _, _], _ => rfl
  | [_, _, _, _], _ => rfl
  | _ :: _ :: _ :: _ :: _ :: _, h => by simp at h; omega
theorem mkR_text (kd : Int) (ns : List Int) (s t : ByteArray) : (recC (mkR kd ns s)).setIfInBounds 6 (.string t) = recC (mkR kd ns t) := rfl
/-- All that is read of a record: the record, where the reader stands, whether it is amiss. -/
def readR (l : List Int) : S39 × Nat × Bool :=
  (mkR (rB l 0 false 255).1 (readK l (rB l 0 false 255).2.1 (rB l 0 false 255).2.2 5).1 (strOfNums (rS l (readK l (rB l 0 false 255).2.1 (rB l 0 false 255).2.2 5).2.1 (readK l (rB l 0 false 255).2.1 (rB l 0 false 255).2.2 5).2.2 65536).1),
    (rS l (readK l (rB l 0 false 255).2.1 (rB l 0 false 255).2.2 5).2.1 (readK l (rB l 0 false 255).2.1 (rB l 0 false 255).2.2 5).2.2 65536).2)
def recordE (l : List Int) : Except Int S39 := if (!(readR l).2.2 && decide ((readR l).2.1 = l.length) && rightP (readR l).1) = true then .ok (readR l).1 else .error 212
def GaveR (e : Ending) : Except Int S39 → Prop
  | .error n => e = fell n
  | .ok r => e = .returned (recV r)
def zrec : Array Value := #[.int .i64 0, .int .i64 0, .int .i64 0, .int .i64 0, .int .i64 0, .int .i64 0, .string ⟨#[]⟩]
set_option maxHeartbeats 8000000 in
set_option maxRecDepth 100000 in
theorem record_calls (A : Option Addr) (c : Nat) (l : List Int) (w : World) (hr : Kd.C (Kd.int .u8) w A l.length l) (hc : l.length ≤ c) (hb : Bytes l) (hl : l.length ≤ 1000000) :
    Calls Try.prog 48 #[.slice A l.length c] w fun e w' => GaveR e (recordE l) ∧ Below w.heap.size w w' := by
  have hb1 := below_alloc (Below.refl w.heap.size w) (.cells zrec 41 (0, 0))
  have hg1 := blk_new w (.cells zrec 41 (0, 0))
  obtain ⟨w1, hw1⟩ : ∃ w1, w.alloc (.cells zrec 41 (0, 0)) = w1 := ⟨_, rfl⟩
  have hsz1 := alloc_size w (.cells zrec 41 (0, 0))
  rw [hw1] at hb1 hg1 hsz1
  obtain ⟨g0, hg0⟩ : ∃ g0, w.heap.size = g0 := ⟨_, rfl⟩
  rw [hg0] at hg1 hsz1
  unfold zrec at hw1
  have hnew := new_calls A c l w1 (Kd.C_below hr hb1) hc hl
  have HNEW := Lib.hid hnew
  have HB1 := Lib.hid hb1
  have HG1 := Lib.hid hg1
  clear hnew hr hb1 hg1
  go_enter Try.func48, Try.ntmps48
  go_wp2_with fail
  (try rw [hw1])
  (try rw [hg0])
  refine HNEW.out.mono ?_
  rintro e w2 ⟨g, rfl, hgl, hR2, hb2⟩
  have HB2 := Lib.hid (below_step HB1.out hb2)
  have HG2 := Lib.hid ((hb2.block g0 (blk_lt HG1.out)).trans HG1.out)
  have hg0g : g0 < g := by omega
  have hby := byte_calls hR2 hb 255
  obtain ⟨kd, a0, b0, hrb⟩ : ∃ kd a0 b0, rB l 0 false 255 = (kd, a0, b0) := ⟨_, _, _, rfl⟩
  have hre : recordE l = if (!(rS l (readK l a0 b0 5).2.1 (readK l a0 b0 5).2.2 65536).2.2 && decide ((rS l (readK l a0 b0 5).2.1 (readK l a0 b0 5).2.2 65536).2.1 = l.length) && rightP (mkR kd (readK l a0 b0 5).1 (strOfNums (rS l (readK l a0 b0 5).2.1 (readK l a0 b0 5).2.2 65536).1))) = true then .ok (mkR kd (readK l a0 b0 5).1 (strOfNums (rS l (readK l a0 b0 5).2.1 (readK l a0 b0 5).2.2 65536).1)) else .error 212 := by
    unfold recordE readR
    rw [hrb]
  rw [hrb] at hby
  have HBY := Lib.hid hby
  have HRE := Lib.hid hre
  clear hby hre hrb
  clear hR2 hgl HNEW HB1 HG1 hw1
  go_wp2_with fail
  refine HBY.out.mono ?_
  rintro e w3 ⟨rfl, hR3, hf3⟩
  have hb3 := Fr.below HB2.out hf3 (by have := HB2.out.size; omega) (fun i hi => by omega)
  obtain ⟨q, hq⟩ : ∃ q, w3.heap.size = q := ⟨_, rfl⟩
  have hgq : g < q := by have := hR3.lt; omega
  have hg3 := (hf3.block g0 (blk_lt HG2.out) (by omega)).trans HG2.out
  have hb4 := below_alloc hb3 (.cells (recC (mkR kd [] ⟨#[]⟩)) 41 (0, 0))
  have hq4 := blk_new w3 (.cells (recC (mkR kd [] ⟨#[]⟩)) 41 (0, 0))
  have hR4 := hR3.below (below_alloc (Below.refl w3.heap.size w3) (.cells (recC (mkR kd [] ⟨#[]⟩)) 41 (0, 0)))
  have hg4 := blk_alloc hg3 (.cells (recC (mkR kd [] ⟨#[]⟩)) 41 (0, 0))
  have hs4 := alloc_size w3 (.cells (recC (mkR kd [] ⟨#[]⟩)) 41 (0, 0))
  obtain ⟨w4, hw4⟩ : ∃ w4, w3.alloc (.cells (recC (mkR kd [] ⟨#[]⟩)) 41 (0, 0)) = w4 := ⟨_, rfl⟩
  rw [hw4] at hb4 hq4 hR4 hg4 hs4
  rw [hq] at hq4 hs4
  have HB4 := Lib.hid hb4
  have HQ4 := Lib.hid hq4
  have HG4 := Lib.hid hg4
  have HR4 := Lib.hid hR4
  have HW4 := Lib.hid (show w3.alloc (.cells #[.int .i64 kd, .int .i64 0, .int .i64 0, .int .i64 0, .int .i64 0, .int .i64 0, .string ⟨#[]⟩] 41 (0, 0)) = w4 from hw4)
  clear hb3 hg3 hb4 hq4 hR4 hg4 hf3 hR3 HB2 HG2 HBY hw4 hb2
  go_wp2_with fail
  (try rw [HW4.out])
  (try rw [hq])
  refine (numbers_calls q w4).mono ?_
  rintro e w5 ⟨rfl, ⟨T5, hp5⟩, hb5⟩
  obtain ⟨p, hp⟩ : ∃ p, w4.heap.size = p := ⟨_, rfl⟩
  have hqp : q < p := by omega
  rw [hp] at hp5 ⊢
  have HI : Aside0 (Rdr w5 g w1.heap.size l (readK l a0 b0 0).2.1 (readK l a0 b0 0).2.2) := Aside0.mk (HR4.out.below hb5)
  have HIQ : Aside0 (w5.heap[q]? = some (.cells (recC (mkR kd (readK l a0 b0 0).1 ⟨#[]⟩)) 41 (0, 0))) := Aside0.mk ((hb5.block q (by omega)).trans HQ4.out)
  have HIP : Aside0 (w5.heap[p]? = some (.cells (ptrs q) T5 (0, 0))) := Aside0.mk hp5
  have HIG : Aside0 (w5.heap[g0]? = some (.cells zrec 41 (0, 0))) := Aside0.mk ((hb5.block g0 (by omega)).trans HG4.out)
  have HIB : Aside0 (Below w.heap.size w w5) := Aside0.mk (below_step HB4.out hb5)
  clear hp5 hb5 HB4 HQ4 HG4 HR4 HW4 hs4 hq hp
  go_wp2_with fail
  go_loopw [6, 14] (fun u6 u14 wr => ∃ k : Nat, k ≤ 5 ∧ u14 = .int .i64 k ∧ Aside0 (Rdr wr g w1.heap.size l (readK l a0 b0 k).2.1 (readK l a0 b0 k).2.2) ∧ Aside0 (wr.heap[q]? = some (.cells (recC (mkR kd (readK l a0 b0 k).1 ⟨#[]⟩)) 41 (0, 0))) ∧ Aside0 (wr.heap[p]? = some (.cells (ptrs q) T5 (0, 0))) ∧ Aside0 (wr.heap[g0]? = some (.cells zrec 41 (0, 0))) ∧ Aside0 (Below w.heap.size w wr)) (fun _ u14 _ => 5 - (intOf u14).toNat)
  case atStart => exact ⟨0, by omega, rfl, HI, HIQ, HIP, HIG, HIB⟩
  case round =>
    obtain ⟨k, hk, rfl, HR, HQ, HP, HG, HB⟩ := hrel
    clear HI HIQ HIP HIG HIB
    by_cases hlt : k < 5
    · have hpk := ptr_cell HP.out k hlt
      have hin := int_calls HR.out hb 2199023255552
      have hsn : readK l a0 b0 (k + 1) = ((readK l a0 b0 k).1 ++ [(rI l (readK l a0 b0 k).2.1 (readK l a0 b0 k).2.2 2199023255552).1], (rI l (readK l a0 b0 k).2.1 (readK l a0 b0 k).2.2 2199023255552).2) := rfl
      have hkl := readK_len l a0 b0 k
      obtain ⟨ns, ak, bk, hrk⟩ : ∃ ns ak bk, readK l a0 b0 k = (ns, ak, bk) := ⟨_, _, _, rfl⟩
      rw [hrk] at hin hsn hkl
      have hq0 := HQ.out
      rw [hrk] at hq0
      obtain ⟨n, a1, b1, hri⟩ : ∃ n a1 b1, rI l ak bk 2199023255552 = (n, a1, b1) := ⟨_, _, _, rfl⟩
      rw [hri] at hin hsn
      simp only at hin hsn hkl hq0
      have hqb := fld_cell hq0 k hlt
      have hset := mkR_set kd n ⟨#[]⟩ ns (by omega)
      rw [hkl] at hset
      have HIN := Lib.hid hin
      have HSN := Lib.hid hsn
      have HSET := Lib.hid hset
      have HQ0 := Lib.hid hq0
      clear hin hsn hset hq0 hrk hri hqb HQ
      go_wp2_with fail
      refine HIN.out.mono ?_
      rintro e w6 ⟨rfl, hR6, hf6⟩
      have hq6 := (hf6.block q (blk_lt HQ0.out) (by omega)).trans HQ0.out
      have hc6 := fld_cell hq6 k hlt
      have hz6 := fun i => blk_frozen hq6 i
      have hset6 := blk_put hq6 (k + 1) (.int .i64 n) HSET.out
      have hR6' := hR6.set_other hq6 (by decide) (by omega) (k + 1) (.int .i64 n)
      have hp6 := blk_far ((hf6.block p (blk_lt HP.out) (by omega)).trans HP.out) (p := ⟨q, k + 1, none⟩) (show p ≠ q by omega) (.int .i64 n)
      have hg6 := blk_far ((hf6.block g0 (blk_lt HG.out) (by omega)).trans HG.out) (p := ⟨q, k + 1, none⟩) (show g0 ≠ q by omega) (.int .i64 n)
      have hb6 := (Fr.below HB.out hf6 (by have := HB.out.size; omega) (fun i hi => by omega)).setCell (p := ⟨q, k + 1, none⟩) (show w.heap.size ≤ q by omega) (.int .i64 n)
      have N1 := Aside0.mk hR6'
      have N2 := Aside0.mk hset6
      have N3 := Aside0.mk hp6
      have N4 := Aside0.mk hg6
      have N5 := Aside0.mk hb6
      clear hq6 hset6 hR6' hp6 hg6 hb6 hR6 hf6 HIN HQ0 HSET HR HP HG HB hpk
      go_wp2_with fail
      go_roundw
      case rel => exact ⟨k + 1, by omega, by go_num, by rw [HSN.out]; exact N1, by rw [HSN.out]; exact N2, N3, N4, N5⟩
      case measure => simp [intOf]; omega
    · obtain rfl : k = 5 := by omega
      have hq0 := HQ.out
      have hstr := str_calls HR.out hb 65536
      obtain ⟨ns, ak, bk, hrk⟩ : ∃ ns ak bk, readK l a0 b0 5 = (ns, ak, bk) := ⟨_, _, _, rfl⟩
      have hre := HRE.out
      rw [hrk] at hq0 hstr hre
      simp only at hq0 hstr hre
      obtain ⟨tx, a6, b6, hrs⟩ : ∃ tx a6 b6, rS l ak bk 65536 = (tx, a6, b6) := ⟨_, _, _, rfl⟩
      rw [hrs] at hstr hre
      simp only at hstr hre
      have HSTR := Lib.hid hstr
      have HQ0 := Lib.hid hq0
      obtain ⟨R, hR⟩ : ∃ R, mkR kd ns (strOfNums tx) = R := ⟨_, rfl⟩
      have hset := mkR_text kd ns ⟨#[]⟩ (strOfNums tx)
      rw [hR] at hre hset
      have HSET := Lib.hid hset
      have HRE2 := Lib.hid hre
      clear hq0 hstr hre hset hrk hrs hR HRE HQ
      go_wp2_with fail
      refine HSTR.out.mono ?_
      rintro e w6 ⟨rfl, hR6, hf6⟩
      have hq6 := (hf6.block q (blk_lt HQ0.out) (by omega)).trans HQ0.out
      have hc6 : w6.cell? ⟨q, 6, none⟩ = some (.string ⟨#[]⟩) := (blk_cell hq6 6).trans rfl
      have hz6 := fun i => blk_frozen hq6 i
      have hset6 := blk_put hq6 6 (.string (strOfNums tx)) HSET.out
      have hR6' := hR6.set_other hq6 (by decide) (by omega) 6 (.string (strOfNums tx))
      have hg6 := blk_far ((hf6.block g0 (blk_lt HG.out) (by omega)).trans HG.out) (p := ⟨q, 6, none⟩) (show g0 ≠ q by omega) (.string (strOfNums tx))
      have hb6 := (Fr.below HB.out hf6 (by have := HB.out.size; omega) (fun i hi => by omega)).setCell (p := ⟨q, 6, none⟩) (show w.heap.size ≤ q by omega) (.string (strOfNums tx))
      have N1 := Lib.hid hR6'
      have N2 := Lib.hid hset6
      have N4 := Lib.hid hg6
      have N5 := Lib.hid hb6
      clear hq6 hset6 hR6' hg6 hb6 hR6 hf6 HSTR HQ0 HSET HR HP HG HB
      go_wp2_with fail
      generalize w6.setCell _ _ = w7 at N1 N2 N4 N5 ⊢
      have hend := end_calls N1.out
      obtain ⟨en, hen⟩ : ∃ en, (!b6 && decide (a6 = l.length)) = en := ⟨_, rfl⟩
      have hre2 := HRE2.out
      rw [hen] at hend hre2
      clear HRE2
      have HEND := Lib.hid hend
      clear hend hen hc6 hz6 N1
      refine HEND.out.mono ?_
      rintro e w8 ⟨rfl, hd8⟩
      have hb8' := hd8.below
      have hq8 := (hb8'.block q (blk_lt N2.out)).trans N2.out
      have HG8 := Lib.hid ((hb8'.block g0 (blk_lt N4.out)).trans N4.out)
      have HB8 := Lib.hid (below_step N5.out hb8')
      clear hb8' hd8 HEND N2 N4 N5
      cases en with
      | false =>
        have HRE2 := Lib.hid (hre2.trans (if_neg (by simp)))
        clear hq8 hre2
        go_wp2_with fail
        refine (must_no w8).mono ?_
        rintro e w10 ⟨he, rfl⟩
        simp only [fell] at he
        subst he
        refine ⟨rfl, ?_⟩
        rw [HRE2.out]
        exact ⟨rfl, HB8.out⟩
      | true =>
        have hq0 : w8.cell? ⟨q, 0, none⟩ = some (.int .i64 R.f0) := (blk_cell hq8 0).trans rfl
        have hq1 : w8.cell? ⟨q, 1, none⟩ = some (.int .i64 R.f1) := (blk_cell hq8 1).trans rfl
        have hq2 : w8.cell? ⟨q, 2, none⟩ = some (.int .i64 R.f2) := (blk_cell hq8 2).trans rfl
        have hq3 : w8.cell? ⟨q, 3, none⟩ = some (.int .i64 R.f3) := (blk_cell hq8 3).trans rfl
        have hq4 : w8.cell? ⟨q, 4, none⟩ = some (.int .i64 R.f4) := (blk_cell hq8 4).trans rfl
        have hq5 : w8.cell? ⟨q, 5, none⟩ = some (.int .i64 R.f5) := (blk_cell hq8 5).trans rfl
        have hq6 : w8.cell? ⟨q, 6, none⟩ = some (.string R.f6) := (blk_cell hq8 6).trans rfl
        have HQ8 := Lib.hid hq8
        have hrt := right_calls R w8
        unfold recV at hrt
        obtain ⟨rp, hrp⟩ : ∃ rp, rightP R = rp := ⟨_, rfl⟩
        rw [hrp] at hrt hre2
        have HRT := Lib.hid hrt
        clear hrt hrp hq8
        go_wp2_with fail
        refine HRT.out.mono ?_
        rintro e w9 ⟨rfl, hb9⟩
        have hq9 := (hb9.block q (blk_lt HQ8.out)).trans HQ8.out
        have hg9 := (hb9.block g0 (blk_lt HG8.out)).trans HG8.out
        have HB9 := Lib.hid (below_step HB8.out hb9)
        clear hb9 HRT HB8 hq0 hq1 hq2 hq3 hq4 hq5 hq6
        cases rp with
        | false =>
          have HRE2 := Lib.hid (hre2.trans (if_neg (by simp)))
          clear hq9 hre2 hg9
          go_wp2_with fail
          refine (must_no w9).mono ?_
          rintro e w10 ⟨he, rfl⟩
          simp only [fell] at he
          subst he
          refine ⟨rfl, ?_⟩
          rw [HRE2.out]
          exact ⟨rfl, HB9.out⟩
        | true =>
          have HRE2 := Lib.hid (hre2.trans (if_pos rfl))
          have hq0 : w9.cell? ⟨q, 0, none⟩ = some (.int .i64 R.f0) := (blk_cell hq9 0).trans rfl
          have hq1 : w9.cell? ⟨q, 1, none⟩ = some (.int .i64 R.f1) := (blk_cell hq9 1).trans rfl
          have hq2 : w9.cell? ⟨q, 2, none⟩ = some (.int .i64 R.f2) := (blk_cell hq9 2).trans rfl
          have hq3 : w9.cell? ⟨q, 3, none⟩ = some (.int .i64 R.f3) := (blk_cell hq9 3).trans rfl
          have hq4 : w9.cell? ⟨q, 4, none⟩ = some (.int .i64 R.f4) := (blk_cell hq9 4).trans rfl
          have hq5 : w9.cell? ⟨q, 5, none⟩ = some (.int .i64 R.f5) := (blk_cell hq9 5).trans rfl
          have hq6 : w9.cell? ⟨q, 6, none⟩ = some (.string R.f6) := (blk_cell hq9 6).trans rfl
          have hg0 : w9.cell? ⟨g0, 0, none⟩ = some (.int .i64 0) := (blk_cell hg9 0).trans rfl
          have hg1 : w9.cell? ⟨g0, 1, none⟩ = some (.int .i64 0) := (blk_cell hg9 1).trans rfl
          have hg2 : w9.cell? ⟨g0, 2, none⟩ = some (.int .i64 0) := (blk_cell hg9 2).trans rfl
          have hg3 : w9.cell? ⟨g0, 3, none⟩ = some (.int .i64 0) := (blk_cell hg9 3).trans rfl
          have hg4 : w9.cell? ⟨g0, 4, none⟩ = some (.int .i64 0) := (blk_cell hg9 4).trans rfl
          have hg5 : w9.cell? ⟨g0, 5, none⟩ = some (.int .i64 0) := (blk_cell hg9 5).trans rfl
          have hg6 : w9.cell? ⟨g0, 6, none⟩ = some (.string ⟨#[]⟩) := (blk_cell hg9 6).trans rfl
          have hzz := fun i => blk_frozen hg9 i
          clear hre2 hq9 HQ8
          go_wp2_with fail
          refine (must_yes w9).mono ?_
          rintro e w10 ⟨rfl, rfl⟩
          go_wp2_with fail
          refine bodyPost_ret (v := recV R) (by simp [results, Try.results48, go_sem, recV, hg0, hg1, hg2, hg3, hg4, hg5, hg6]) rfl ?_
          rw [HRE2.out]
          exact ⟨rfl, (((((((HB9.out.setCell (p := ⟨g0, 0, none⟩) (show w.heap.size ≤ g0 by omega) _).setCell (p := ⟨g0, 1, none⟩) (show w.heap.size ≤ g0 by omega) _).setCell (p := ⟨g0, 2, none⟩) (show w.heap.size ≤ g0 by omega) _).setCell (p := ⟨g0, 3, none⟩) (show w.heap.size ≤ g0 by omega) _).setCell (p := ⟨g0, 4, none⟩) (show w.heap.size ≤ g0 by omega) _).setCell (p := ⟨g0, 5, none⟩) (show w.heap.size ≤ g0 by omega) _).setCell (p := ⟨g0, 6, none⟩) (show w.heap.size ≤ g0 by omega) _)⟩
end Go.Proofs.Ytmklmpajcomimaa.Hand
end

section
/- Where frames begin: whole (it recovers), Frames. -/
namespace Go.Proofs.Ytmklmpajcomimaa.Hand
open Go.RowKit Go.Proofs.YtmklmpajcomimaaW.PrintWords Go.Proofs.YtmklmpajcomimaaW.PrintLast Go.Proofs.YtmklmpajcomimaaW.PrintMore Go.Proofs.Ytmklmpajcomimaa.PTraceWrites Go.Proofs.Ytmklmpajcomimaa.CrcMath
set_option linter.unusedVariables false
set_option linter.unusedSimpArgs false
theorem wcatch_panicking (p : Addr) (x : Int) (u : TypeId) (pv : Value) (older : List PanicEntry) (w : World) (hc : w.cell? p = some (.int .i64 x)) (hz : w.frozen? p = false) :
    CallsD Try.prog 49 #[.pointer (some p)] (.panicking ({ v := .iface u pv, recovered := false } :: older)) w fun e u' w' =>
      e = .returned (.tuple #[]) ∧ u' = .panicking ({ v := .iface u pv, recovered := true } :: older) ∧ w' = w.setCell p (.int .i64 (-1)) := by
  refine callsD_of_wpS Try.func49 rfl fun c₀ cs hu => ?_
  apply wpS_seq
  apply wpS_region
  simp [wpOpsS, go_sem, recoverD, hu, Try.ntmps49, Exit.thenS]
  refine wpS_cond (t := true) (by simp [Act.eval, Array.replicate]) ?_
  simp only [if_true]
  apply wpS_region
  simp [wpOpsS, go_sem, hc, hz, bodyPostS, results, Try.results49]
theorem wcatch_idle (p : Addr) (w : World) :
    CallsD Try.prog 49 #[.pointer (some p)] .returning w fun e u' w' => e = .returned (.tuple #[]) ∧ u' = .returning ∧ w' = w := by
  refine callsD_of_wpS Try.func49 rfl fun c₀ cs hu => ?_
  apply wpS_seq
  apply wpS_region
  simp [wpOpsS, go_sem, recoverD, hu, Try.ntmps49, Exit.thenS]
  refine wpS_cond (t := false) (by simp [Act.eval, Array.replicate]) ?_
  simp only [Bool.false_eq_true, if_false]
  refine wpS_of_wp (wp_skip ?_)
  cases c₀
  simp_all [bodyPostS, results, Try.results49]
/-- Where the frame at a place ends; -1: it is not whole. -/
def wholeI (b : List Int) (at_ : Nat) : Int := match openE b at_ with
  | .error _ => -1
  | .ok (_, m) => (m : Int)
set_option maxHeartbeats 8000000 in
set_option maxRecDepth 100000 in
theorem whole_calls (A : Option Addr) (c : Nat) (b : List Int) (at_ : Nat) (w : World) (hr : Kd.C (Kd.int .u8) w A b.length b) (hc : b.length ≤ c) (hb : Bytes b) (hl : b.length ≤ 10000000) (hat : at_ ≤ b.length) :
    Calls Try.prog 35 #[.slice A b.length c, .int .i64 (at_ : Int)] w fun e w' => e = .returned (.int .i64 (wholeI b at_)) ∧ Below w.heap.size w w' := by
  have hmf : ∀ (fn : Fn) (first cap : Array Value) (w : World), (Instr.makeFunc fn first cap).run Try.prog w = .ok (.func fn first cap) w := fun _ _ _ _ => rfl
  have hb1 := below_alloc (Below.refl w.heap.size w) (.cells #[.int .i64 0] 3 (0, 0))
  have hg1 := blk_new w (.cells #[.int .i64 0] 3 (0, 0))
  obtain ⟨w1, hw1⟩ : ∃ w1, w.alloc (.cells #[.int .i64 0] 3 (0, 0)) = w1 := ⟨_, rfl⟩
  rw [hw1] at hb1 hg1
  obtain ⟨g, hg⟩ : ∃ g, w.heap.size = g := ⟨_, rfl⟩
  rw [hg] at hg1
  have hop := openf_calls A c b at_ w1 (Kd.C_below hr hb1) hc hb hl hat
  have HOP := Lib.hid hop
  have HB1 := Lib.hid hb1
  have HG1 := Lib.hid hg1
  clear hop hb1 hg1 hr hb
  go_enter_defers Try.func35, Try.ntmps35
  go_wp2_with fail
  (try rw [hw1])
  (try rw [hg])
  refine HOP.out.mono ?_
  rintro e w2 ⟨hgv, hb2⟩
  have hgb := (hb2.block g (blk_lt HG1.out)).trans HG1.out
  have hc0 : w2.cell? ⟨g, 0, none⟩ = some (.int .i64 0) := (blk_cell hgb 0).trans rfl
  have hz0 := blk_frozen hgb 0
  have HB2 := Lib.hid (below_step HB1.out hb2)
  clear hb2
  cases hop : openE b at_ with
  | error n =>
    have hwi : wholeI b at_ = -1 := by unfold wholeI; rw [hop]
    rw [hop] at hgv
    simp only [Gave, fell] at hgv
    subst hgv
    have HWI := Lib.hid hwi
    clear hwi hop HOP
    refine leaves_cons (f := 49) (args := #[.pointer (some ⟨g, 0, none⟩)]) (by simp) (by simp [go_sem]) ?_
    refine (wcatch_panicking ⟨g, 0, none⟩ 0 30 (.int .i64 n) [] w2 hc0 hz0).mono ?_
    rintro e u' w'' ⟨rfl, rfl, rfl⟩
    simp only [Leaves, settle, List.dropWhile_nil]
    refine ⟨.int .i64 (-1), by simp [results, Try.results35, go_sem, hc0], ?_⟩
    rw [HWI.out]
    exact ⟨rfl, HB2.out.setCell (p := ⟨g, 0, none⟩) (show w.heap.size ≤ g by omega) _⟩
  | ok r =>
    obtain ⟨x, m⟩ := r
    have hwi : wholeI b at_ = (m : Int) := by unfold wholeI; rw [hop]
    rw [hop] at hgv
    simp only [Gave] at hgv
    obtain ⟨v, rfl, hr2⟩ := hgv
    have HWI := Lib.hid hwi
    clear hwi hop HOP hr2
    go_wp2_with fail
    refine leaves_cons (f := 49) (args := #[.pointer (some ⟨g, 0, none⟩)]) (by simp) (by simp [go_sem]) ?_
    refine (wcatch_idle ⟨g, 0, none⟩ _).mono ?_
    rintro e u' w'' ⟨rfl, rfl, rfl⟩
    simp only [Leaves, settle]
    refine ⟨.int .i64 (m : Int), by simp [results, Try.results35, go_sem, hc0], ?_⟩
    rw [HWI.out]
    exact ⟨rfl, (HB2.out.setCell (p := ⟨g, 0, none⟩) (show w.heap.size ≤ g by omega) _).setCell (p := ⟨g, 0, none⟩) (show w.heap.size ≤ g by omega) _⟩
theorem openE_ok {b x : List Int} {at_ m : Nat} (h : openE b at_ = .ok (x, m)) : ∃ y mid, partE b at_ 8 = .ok (y, mid) ∧ ¬ 1048576 < getN y ∧ partE b mid ((getN y).toNat + 4) = .ok (x, m) := by
  unfold openE at h
  cases hp : partE b at_ 8 with
  | error n => rw [hp] at h; cases h
  | ok r =>
    obtain ⟨y, mid⟩ := r
    rw [hp] at h
    simp only at h
    by_cases hb : 1048576 < getN y
    · rw [if_pos hb] at h; cases h
    · rw [if_neg hb] at h
      exact ⟨y, mid, rfl, hb, h⟩
theorem openE_at {b x : List Int} {at_ m : Nat} (h : openE b at_ = .ok (x, m)) : at_ + 12 ≤ m ∧ m ≤ b.length := by
  obtain ⟨y, mid, h1, _, h2⟩ := openE_ok h
  have a1 := partE_ok h1
  have a2 := partE_ok h2
  omega
/-- Where frames begin, from a place on. -/
def startsF (b : List Int) : Nat → Nat → List Int
  | 0, _ => []
  | k + 1, at_ => if at_ < b.length then match openE b at_ with
    | .error _ => []
    | .ok (_, m) => (at_ : Int) :: startsF b k m
    else []
theorem startsF_fuel (b : List Int) : ∀ (k at_ d : Nat), b.length < at_ + k → startsF b (k + d) at_ = startsF b k at_
  | 0, at_, 0, _ => rfl
  | 0, at_, d + 1, h => by
    show startsF b (0 + d + 1) at_ = []
    rw [startsF, if_neg (by omega)]
  | k + 1, at_, d, h => by
    rw [show k + 1 + d = (k + d) + 1 by omega, startsF, startsF]
    by_cases hlt : at_ < b.length
    · rw [if_pos hlt, if_pos hlt]
      cases ho : openE b at_ with
      | error n => rfl
      | ok r =>
        obtain ⟨x, m⟩ := r
        have := openE_at ho
        simp only
        rw [startsF_fuel b k m d (by omega)]
    · rw [if_neg hlt, if_neg hlt]
def starts (b : List Int) (at_ : Nat) : List Int := startsF b (b.length + 1 - at_) at_
theorem starts_end {b : List Int} {at_ : Nat} (h : ¬ at_ < b.length) (hle : at_ ≤ b.length) : starts b at_ = [] := by
  unfold starts
  rw [show b.length + 1 - at_ = (b.length - at_) + 1 by omega, startsF, if_neg h]
theorem starts_no {b : List Int} {at_ : Nat} {n : Int} (h : at_ < b.length) (ho : openE b at_ = .error n) : starts b at_ = [] := by
  unfold starts
  rw [show b.length + 1 - at_ = (b.length - at_) + 1 by omega, startsF, if_pos h, ho]
theorem starts_yes {b x : List Int} {at_ m : Nat} (h : at_ < b.length) (ho : openE b at_ = .ok (x, m)) : starts b at_ = (at_ : Int) :: starts b m := by
  have hm := openE_at ho
  unfold starts
  rw [show b.length + 1 - at_ = (b.length - at_) + 1 by omega, startsF, if_pos h, ho]
  simp only
  rw [show b.length - at_ = (b.length + 1 - m) + (m - at_ - 1) by omega, startsF_fuel b _ m _ (by omega)]
theorem info3 : (Try.prog.info? 3).map (fun i => (i.zero, i.size, i.bytes)) = some (some (.int .i64 0), 1, 8) := by kernel_rfl
set_option maxHeartbeats 8000000 in
set_option maxRecDepth 100000 in
theorem frames_calls (A : Option Addr) (c : Nat) (b : List Int) (w : World) (hr : Kd.C (Kd.int .u8) w A b.length b) (hc : b.length ≤ c) (hb : Bytes b) (hl : b.length ≤ 10000000) :
    Calls Try.prog 20 #[.slice A b.length c] w fun e w' => ∃ v, e = .returned v ∧ Kd.R (Kd.int .i64) 3 w' w.heap.size (fun _ => True) v (starts b 0) ∧ Below w.heap.size w w' := by
  have HR := Lib.hid hr
  clear hr
  have HI : Aside0 (Kd.R (Kd.int .i64) 3 w w.heap.size (fun _ => True) (.slice none 0 0) []) := Aside0.mk (Kd.R_nil _ _ _ _ _)
  have HB : Aside0 (Below w.heap.size w w) := Aside0.mk (Below.refl _ _)
  go_enter Try.func20, Try.ntmps20
  go_wp2_with fail
  go_loopw [3, 4, 5] (fun u3 u4 u5 wr => ∃ (at_ : Nat) (pre : List Int), at_ ≤ b.length ∧ u4 = .int .i64 (at_ : Int) ∧ Aside0 (Kd.R (Kd.int .i64) 3 wr w.heap.size (fun _ => True) u3 pre) ∧ Aside0 (pre ++ starts b at_ = starts b 0) ∧ Aside0 (pre.length ≤ at_) ∧ Aside0 (Below w.heap.size w wr)) (fun _ u4 _ _ => b.length - (intOf u4).toNat)
  case atStart => exact ⟨0, [], by omega, rfl, HI, Aside0.mk rfl, Aside0.mk (Nat.le_refl _), HB⟩
  case round =>
    obtain ⟨at_, pre, hat, rfl, HO, HS, HN, HBr⟩ := hrel
    clear HI HB
    by_cases hlt : at_ < b.length
    · have hwc := whole_calls A c b at_ wr (Kd.C_below HR.out HBr.out) hc hb hl hat
      cases ho : openE b at_ with
      | error n =>
        have hw1 : wholeI b at_ = -1 := by unfold wholeI; rw [ho]
        rw [hw1] at hwc
        have HWC := Lib.hid hwc
        have hs := HS.out
        rw [starts_no hlt ho, List.append_nil] at hs
        have HS2 := Lib.hid hs
        clear hwc ho hw1 hs HS
        go_wp2_with fail
        refine HWC.out.mono ?_
        rintro e w2 ⟨rfl, hb2⟩
        have HO2 := Lib.hid (Kd.R_below HO.out hb2)
        have HB2 := Lib.hid (below_step HBr.out hb2)
        clear hb2 HO HBr HWC
        go_wp2_with fail
        go_ret
        rw [← HS2.out]
        exact ⟨_, rfl, HO2.out, HB2.out⟩
      | ok r =>
        obtain ⟨x, m⟩ := r
        have hw1 : wholeI b at_ = (m : Int) := by unfold wholeI; rw [ho]
        rw [hw1] at hwc
        have HWC := Lib.hid hwc
        have hm := openE_at ho
        have hs := HS.out
        rw [starts_yes hlt ho] at hs
        have HS2 : Aside0 ((pre ++ [(at_ : Int)]) ++ starts b m = starts b 0) := Aside0.mk (by rw [List.append_assoc]; exact hs)
        have HN2 : Aside0 ((pre ++ [(at_ : Int)]).length ≤ m) := Aside0.mk (by have := HN.out; rw [List.length_append]; simp; omega)
        have LM : Hid ((pre.length + 1) * 8 ≤ 140737488355328) := Lib.hid (by have := HN.out; omega)
        have hm1 : at_ < m := by omega
        have hm2 : m ≤ b.length := hm.2
        clear hwc ho hw1 hs HS hm HN
        go_wp2_with fail
        refine HWC.out.mono ?_
        rintro e w2 ⟨rfl, hb2⟩
        have HO2 := Lib.hid (Kd.R_below HO.out hb2)
        have HB2 := Lib.hid (below_step HBr.out hb2)
        clear hb2 HO HBr HWC
        go_wp2_with ((with_reducible refine gate_builtin (b := .append) (xs := #[.tmp 15, .tmp 17]) rfl ?_); at_builtin; refine Kd.R_append (Kd.int .i64) (w0 := w) w.heap.size rfl (.tmp 15) (.tmp 17) 49 3 (.int .i64 0) 8 rfl Try.underlying49 info3 rfl (by decide) (by decide) u3 pre (at_ : Int) [.int .i64 (at_ : Int)] (fun _ => True) (fun _ => False) rfl rfl ?aP (fun _ hk => hk.elim) ?aF ?aO ?aB ?aS ?aL ?_; (case aP => exact rfl); (case aB => exact HB2.out); (case aF => exact fun _ _ => trivial); (case aO => exact HO2.out); (case aS => exact HB2.out.size); (case aL => exact LM.out); intro v w3 ho3 hb3 hg3 hat3; have HO3 := Aside0.mk ho3; have HB3 := Aside0.mk hb3; clear ho3 hb3 hg3 hat3)
        go_roundw
        case rel => exact ⟨m, pre ++ [(at_ : Int)], hm2, rfl, HO3, HS2, HN2, HB3⟩
        case measure => simp [intOf]; omega
    · have hs := HS.out
      rw [starts_end hlt hat, List.append_nil] at hs
      have HS2 := Lib.hid hs
      clear hs HS
      go_wp2_with fail
      go_ret
      rw [← HS2.out]
      exact ⟨_, rfl, HO.out, HBr.out⟩
end Go.Proofs.Ytmklmpajcomimaa.Hand
end
