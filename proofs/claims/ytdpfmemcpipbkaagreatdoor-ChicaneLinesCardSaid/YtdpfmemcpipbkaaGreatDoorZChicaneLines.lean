/- Proved: chicanetop.ChicaneLines tells true for every row of proxies' events that may come in, and its argument reads behind the call as it read before. Conditions: the listed package-level variables read, when the call begins, as the program's text lays them (the card ties them to that text); nothing else. The row, and the tied card. -/
import Derived.Test.YtdpfmemcpipbkaaGreatDoorZWalk
import Derived.Test.YtdpfmemcpipbkaaGreatDoorRows
import Derived.Deep.Slices
import Derived.Deep.Fields
import Derived.ChangeSame
import Derived.SizedLaws
import Derived.LaidMore
import Derived.ProofKit
import Derived.OpenShut
import Derived.Stop.Joined
import Derived.Test.YtdpfmemcpipbkaaGreatDoorTie
import Derived.Test.YtdpfmemcpipbkaaGreatDoorCards
import Derived.Lay
import Derived.SevenTiedAt
import Derived.Below
import Derived.ChangeOld
import Derived.ShutString
import Derived.WalkKit
section
/- What comes in: the proxies' kinds; and the tables that lie there. -/
namespace Go.Proofs.YtdpfmemcpipbkaaGreatDoor.Hand
open Go.RowKit Go.ChangeShapes Go.WideShapes Go.ChangeAt Go.Deep
set_option linter.unusedVariables false
set_option linter.unusedSimpArgs false
section
variable {H : Type} {enc : TypeId × Value → H} {w : World} {base : Nat} {spare : Nat → Bool} {held : Bool}
theorem cells_px : Tryz.prog.cellsOf 37 = 2 := by kernel_rfl
set_option maxRecDepth 100000 in
theorem open_px {fuel : Nat} {cs : List Value} {y : DataW H × List MemPlace} (hl : cs.length = 2) (h : DataW.trod enc Tryz.prog w base spare held fuel 37 cs = some y) : ∃ p : Int × Int, cs = [.int .i64 p.1, .int .i64 p.2] := by
  obtain ⟨ys, n, hn, hy, hlen, hyl, hf⟩ := DataW.trod_struct Tryz.underlying37 h
  match cs, hl, ys, hyl with
  | [c0, c1], _, [y0, y1], _ =>
    have e3 : Tryz.prog.cellsOf 3 = 1 := by kernel_rfl
    have h0 := hf 0 _ rfl
    have h1 := hf 1 _ rfl
    simp [e3] at h0
    simp [e3] at h1
    obtain ⟨n0, q0, x0, _⟩ := DataW.trod_int Tryz.underlying3 h0
    obtain ⟨n1, q1, x1, _⟩ := DataW.trod_int Tryz.underlying3 h1
    simp at q0 q1
    subst q0 q1
    exact ⟨⟨n0, n1⟩, rfl⟩
set_option maxRecDepth 100000 in
theorem open_pxs {fuel : Nat} {A : Option Addr} {n c : Nat} {x : DataW H × List MemPlace} (h : DataW.trod enc Tryz.prog w base spare held fuel 22 [.slice A n c] = some x) : ∃ l : List (Int × Int), l.length = n ∧ ArgAt w A l := by
  rcases open_slice Tryz.underlying22 h with ⟨hcs, hx⟩ | ⟨a, len, cap, m, n', D, Pl, hcs, hb, hl, hm, hmm, hx, hi⟩
  · simp at hcs
    obtain ⟨rfl, rfl, rfl⟩ := hcs
    exact ⟨[], rfl, fun k hk => by simp at hk⟩
  · simp at hcs
    obtain ⟨rfl, rfl, rfl⟩ := hcs
    have hlm : n ≤ m := by rw [hmm]; split <;> omega
    rw [cells_px] at hi
    have key : ∀ i, i < n → ∃ p : Int × Int, w.cell? (a.add (i * 2)) = some (.int .i64 p.1) ∧ w.cell? (a.add (i * 2 + 1)) = some (.int .i64 p.2) := by
      intro i hin
      obtain ⟨cs', hc, ht'⟩ := hi i (by omega)
      obtain ⟨_, hcl, hat⟩ := World.cells?_some hc
      obtain ⟨p, rfl⟩ := open_px hcl ht'
      refine ⟨p, ?_, ?_⟩
      · have := hat 0 (by decide)
        rw [Go.Deep.add_add] at this
        exact this
      · have := hat 1 (by decide)
        rw [Go.Deep.add_add] at this
        exact this
    refine ⟨(List.range n).map fun i => if hin : i < n then (key i hin).choose else (0, 0), by simp, fun k hk => ⟨a, rfl, ?_⟩⟩
    have hkn : k < n := by simpa using hk
    have := (key k hkn).choose_spec
    simp only [List.getElem_map, List.getElem_range, dif_pos hkn]
    exact this
end
theorem tab_cell {W : World} {name : String} {g m fuel : Nat} {cs : Array Value} {p : List MemPlace} {T E : TypeId} {k : IntKind} {zs : List Int} (hT : Tryz.prog.underlying T = some (.array m E)) (hE : Tryz.prog.underlying E = some (.int k)) (hc : Tryz.prog.cellsOf E = 1) (hl : zs.length = m) (hg : Tryz.prog.globalNamed name = some g) (hv : World.var? Tryz.prog W name = some cs) (hd : DataW.trod (fun _ => ()) Tryz.prog W 0 (fun _ => true) false fuel T cs.toList = some (.agg (zs.map fun n => .lit (.int k n)), p)) (r : Nat) (hr : r < m) : W.cell? ⟨g, r, none⟩ = some (.int k (zs.getD r 0)) := by
  obtain ⟨xs, m', _, ex, _, hlx, hel⟩ := DataW.trod_array hT hd
  have hE1 := hel r hr
  rw [hc, Nat.mul_one, List.getElem?_eq_getElem (by omega)] at hE1
  obtain ⟨z, e1, e2, _⟩ := DataW.trod_int hE hE1
  have e3 : (xs.map (·.1)) = zs.map fun n => .lit (.int k n) := (DataW.agg.inj (Prod.mk.inj ex).1).symm
  have e4 : (xs.map (·.1))[r]? = (zs.map fun n => (DataW.lit (.int k n) : DataW Unit))[r]? := by rw [e3]
  rw [List.getElem?_map, List.getElem?_map, List.getElem?_eq_getElem (by omega : r < xs.length), List.getElem?_eq_getElem (by omega : r < zs.length), e2] at e4
  have hz : z = zs.getD r 0 := by
    simp only [Option.map_some, Option.some.injEq, DataW.lit.injEq, Lit.int.injEq, true_and] at e4
    rw [e4, List.getD, List.getElem?_eq_getElem (by omega : r < zs.length)]; rfl
  rw [World.var?_cell hg hv r, ← hz]
  have : cs.toList[r]? = some (.int k z) := by
    have h0 : ((cs.toList.drop r).take 1)[0]? = some (.int k z) := by rw [e1]; rfl
    simpa using h0
  simpa using this
def spZ : List Int := (List.range 256).map fun i => if i = 32 ∨ (9 ≤ i ∧ i ≤ 13) then 1 else 0
def pwZ : List Int := (List.range 20).map fun i => (10 : Int) ^ i
theorem spZ_eq : Rows.laid_strings_asciiSpace (H := Unit) = .agg (spZ.map fun n => .lit (.int .u8 n)) := by kernel_rfl
theorem pwZ_eq : Rows.laid_internal_strconv_uint64pow10 (H := Unit) = .agg (pwZ.map fun n => .lit (.int .u64 n)) := by kernel_rfl
set_option maxRecDepth 100000 in
/-- The tables that lie there. -/
theorem glob_of_laid {W : World} (h : laidMetH Tryz.prog Rows.chicaneLinesRow.laid W) : Glob W := by
  rw [MakeChecks.laidMetH_plain _ _ _ (by kernel_rfl)] at h
  obtain ⟨ps, ⟨g0, t0, cs0, f0, p0, q0, hg0, ht0, hv0, hd0, ⟨g1, t1, cs1, f1, p1, q1, hg1, ht1, hv1, hd1, ⟨g2, t2, cs2, f2, p2, q2, hg2, ht2, hv2, hd2, ⟨g3, t3, cs3, f3, p3, q3, hg3, ht3, hv3, hd3, ⟨g4, t4, cs4, f4, p4, q4, hg4, ht4, hv4, hd4, ⟨g5, t5, cs5, f5, p5, q5, hg5, ht5, hv5, hd5, _, _⟩, _⟩, _⟩, _⟩, _⟩, _⟩, _, _⟩ := h
  obtain rfl := Option.some.inj ((show Tryz.prog.globalNamed "internal/strconv.uint64pow10" = some 2 by kernel_rfl).symm.trans hg2)
  obtain rfl := Option.some.inj ((show (Tryz.prog.globals[2]?).map (·.type) = some 277 by kernel_rfl).symm.trans ht2)
  obtain rfl := Option.some.inj ((show Tryz.prog.globalNamed "strings.asciiSpace" = some 0 by kernel_rfl).symm.trans hg5)
  obtain rfl := Option.some.inj ((show (Tryz.prog.globals[0]?).map (·.type) = some 194 by kernel_rfl).symm.trans ht5)
  have hd2' := hd2
  rw [pwZ_eq] at hd2'
  have hd5' := hd5
  rw [spZ_eq] at hd5'
  have c2 := tab_cell Tryz.underlying277 Tryz.underlying27 (by kernel_rfl) (by kernel_rfl) hg2 hv2 hd2'
  have c5 := tab_cell Tryz.underlying194 Tryz.underlying5 (by kernel_rfl) (by kernel_rfl) hg5 hv5 hd5'
  have k2 := c2 2 (by omega)
  have k32 := c5 32 (by omega)
  have e2 : pwZ.getD 2 0 = 100 := by kernel_rfl
  have e32 : spZ.getD 32 0 = 1 := by kernel_rfl
  rw [e2] at k2
  rw [e32] at k32
  refine ⟨⟨World.block_lt_of_cell? W _ k32, k32, fun c h1 h2 => ?_⟩, k2, World.block_lt_of_cell? W _ k2⟩
  have kc := c5 c (by omega)
  have ec : spZ.getD c 0 = 0 := by
    unfold spZ
    rw [List.getD, List.getElem?_map, List.getElem?_range (by omega)]
    simp only [Option.map_some, Option.getD_some]
    rw [if_neg (by omega)]
  rw [ec] at kc
  exact kc
end Go.Proofs.YtdpfmemcpipbkaaGreatDoor.Hand
end
section
namespace Go.Proofs.YtdpfmemcpipbkaaGreatDoor.Hand
open Go.ChangeShapes Go.WideShapes Go.ChangeAt Go.RowKit
set_option linter.unusedVariables false
theorem own : ownKnob Tryz.prog.godebug = none := by kernel_rfl
theorem laidOut : laidOutB Tryz.prog = true := by kernel_rfl
set_option maxRecDepth 100000 in
theorem lifted (os : Os) (started : os.Started) (H : Type) (enc : TypeId × Value → H) :
    ReturnsInHanded {} Tryz.checked os 3 .any (fun w args => (Rows.chicaneLinesSpec.pre enc Tryz.prog Tryz.f3 Rows.chicaneLinesRow.domain false w args ∧ laidMetH Tryz.prog Rows.chicaneLinesRow.laid w) ∧ sizedMet enc Tryz.prog Tryz.f3 (OpenSpec.ofChange Rows.chicaneLinesSpec) false w args)
      (Rows.chicaneLinesSpec.post enc Tryz.prog Tryz.f3 false true false false) := by
  refine returnsInHanded_of_change_and (C := Tryz.checked) (X := fun w _ => laidMetH Tryz.prog Rows.chicaneLinesRow.laid w) (fun _ _ _ hh h => h.of_heap hh) own started (by kernel_rfl) Tryz.func3
    (ChangeSpec.witness_shaped (enc := enc) (C := Tryz.checked) (os := os) (X := fun w _ => laidMetH Tryz.prog Rows.chicaneLinesRow.laid w) false (World.laidAll Tryz.prog os Rows.chicaneLinesRow.laid) #[.slice none 0 0] 8 (World.laidAll_os _ _ _)
      (World.shaped_of_ZipB (by kernel_rfl) (by kernel_rfl)) (by kernel_rfl) (by kernel_rfl) (by kernel_rfl)
      (by rw [MakeChecks.laidMetH_plain _ _ _ (by kernel_rfl)]; exact laidMet_laidAll _ (by kernel_rfl) (by kernel_rfl))) ?_
  intro W base args ds gs before hval0 hW hc _ hL _
  have hval : ∀ (j : Nat) t v, Tryz.f3.params[j]? = some t → args[j]? = some v → Value.okWide Tryz.prog W .any base t v := hval0
  have hW' := hW
  obtain ⟨p, q, hA0, hV, rfl, _, _⟩ := hW
  have hA : DataW.TrodAll enc Tryz.prog W 0 (fun _ => true) true Tryz.f3.params.toList args.toList ds p := hA0
  rw [Tryz.params3] at hA hval
  obtain ⟨v0, d0, rfl, rfl, h0⟩ := trodAll_one hA
  obtain ⟨rfl, rfl⟩ := trodVars_none hV
  obtain ⟨A0, len0, c0, rfl⟩ := okWide_slice Tryz.underlying22 (hval 0 22 v0 rfl rfl)
  have k0 := h0
  obtain ⟨l, rfl, hArg⟩ : ∃ l : List (Int × Int), l.length = len0 ∧ ArgAt W A0 l := by
    obtain ⟨fuel, hf⟩ := h0
    exact open_pxs hf
  have lt0 : ∀ x ∈ p, x.block < W.heap.size := by obtain ⟨m, hm⟩ := k0; exact DataW.trod_lt m _ _ _ hm
  clear hA0 hval0 hval hc
  refine (law_calls A0 c0 l W (glob_of_laid hL) hArg).mono fun e W' ⟨he, bel⟩ => ?_
  subst he
  exact ⟨_, rfl, _, _, _, [], _, [], hW', trodAll_mk1 (shut_bool Tryz.underlying4 _), (trodAll_cons_mk (Below.trod laidOut (by kernel_rfl) (of_decide_eq_true (by kernel_rfl)) k0 bel lt0) trodAll_mk0), rfl, bel.frame _, fun h => by cases h⟩
theorem row_holds : Rows.ChicaneLinesSaid :=
  OpenClaim.holds_of_wide 3 Tryz.f3 rfl rfl rfl rfl rfl rfl rfl ⟨rfl, rfl, rfl, rfl, rfl⟩ rfl rfl rfl rfl rfl (by kernel_rfl) Tryz.func3 (by kernel_rfl)
    (of_decide_eq_true (by kernel_rfl)) (by unfold Func.isWrapper; first | (rw [if_pos (by decide +kernel)]; kernel_rfl) | (rw [if_neg (by decide +kernel)]; exact ⟨rfl, rfl⟩))
    (fun os started H enc _ => lifted os started H enc)
theorem card_holds : Rows.ChicaneLinesCardSaid :=
  Claim7.holds_tied_plain_at .later [] [.data, .data, .data, .data, .listed, .data, .pinned] true (true, "71320bd2b428fe71402a1d3190245fc251823ea623a45f8004d4b9ed5c4a9916") false row_holds (fun _ h => by cases h) (by kernel_rfl) (fun _ h => by cases h) chicaneLines_row_tie rfl ⟨rfl, rfl⟩ (by kernel_rfl) rfl
    (fun f fn hf hfn => by
      obtain rfl : f = 3 := Option.some.inj ((show Tryz.prog.funcNamed "chicane/chicanetop.ChicaneLines" = some 3 by kernel_rfl).symm.trans hf) |>.symm
      obtain rfl : fn = Tryz.f3 := (Option.some.inj (Tryz.func3.symm.trans hfn)).symm
      exact ⟨by kernel_rfl, fun j t ht => by
        rw [Tryz.params3] at ht
        have hm : t ∈ [22] := by simpa using Array.mem_of_getElem? ht
        have hall : ([22].all fun u => !Tryz.prog.wantsStandIn u) = true := by kernel_rfl
        exact (show Tryz.prog.wantsStandIn t = false by simpa using List.all_eq_true.1 hall t hm)⟩)
    (by kernel_rfl)
end Go.Proofs.YtdpfmemcpipbkaaGreatDoor.Hand
namespace Go.Proofs.YtdpfmemcpipbkaaGreatDoor
/-- The card, under a short name, for the claim. -/
theorem chicaneLines_holds : Rows.ChicaneLinesCardSaid := Hand.card_holds
#print axioms chicaneLines_holds
end Go.Proofs.YtdpfmemcpipbkaaGreatDoor
end
