/- hub.Line, while there are no connections. -/
import Derived.Test.YtdpfmemcpipbkaaGreatDoorZParse
import Derived.Lib.AppendStr
section
namespace Go.Proofs.YtdpfmemcpipbkaaGreatDoor.Hand
open Go.RowKit
set_option linter.unusedVariables false
set_option linter.unusedSimpArgs false
/-- The tables that the program reads. -/
structure Glob (w : World) : Prop where
  sp : Sp w
  pw : w.cell? ⟨2, 2, none⟩ = some (.int .u64 100)
  sz : 2 < w.heap.size
theorem Glob.fr {X : Nat → Prop} {w w' : World} (h : Glob w) (hf : Fr X w w') (h0 : ¬ X 0) (h2 : ¬ X 2) : Glob w' :=
  ⟨⟨Nat.lt_of_lt_of_le h.sp.1 hf.size, (World.cell?_of_block (hf.block 0 h.sp.1 h0)).trans h.sp.2.1, fun c a b => (World.cell?_of_block (hf.block 0 h.sp.1 h0)).trans (h.sp.2.2 c a b)⟩, (World.cell?_of_block (hf.block 2 h.sz h2)).trans h.pw, Nat.lt_of_lt_of_le h.sz hf.size⟩
theorem Glob.below {w w' : World} (h : Glob w) (hf : Below w.heap.size w w') : Glob w' := h.fr (X := fun _ => False) (Fr.of_below hf) (fun e => e) (fun e => e)
/-- What an append leaves. -/
theorem Fr.grown {X : Nat → Prop} {a b c : World} {row : Option Nat} (h : Fr X a b) (hg : b.grownBy c row) (hr : ∀ i, row = some i → a.heap.size ≤ i) : Fr X a c :=
  ⟨hg.os.trans h.os, hg.tape.trans h.tape, hg.output.trans h.output, Nat.le_trans h.size hg.size, fun i hi hx => (hg.block i (Nat.lt_of_lt_of_le hi h.size) (fun e => by have := hr i e.symm; omega)).trans (h.block i hi hx)⟩
theorem DeskAt.grown {w w' : World} {dk : Nat} {l : List Px} {row : Option Nat} (h : DeskAt w dk l) (hg : w.grownBy w' row) (hr : ∀ g, row = some g → ∃ cs, w.heap[g]? = some (.cells cs 9 (0, 0))) : DeskAt w' dk l := by
  obtain ⟨a, n, cap, d, r, h⟩ := h
  refine ⟨a, n, cap, d, r, ?_, ?_⟩
  · refine (hg.block dk (blk_lt h.blk) ?_).trans h.blk
    intro e
    obtain ⟨cs, hc⟩ := hr dk e.symm
    rw [h.blk] at hc
    injection hc with h1
    injection h1 with _ h2
    exact absurd h2 (by decide)
  · refine ⟨World.ownsRow.kept h.reg.own hg ?_, h.reg.len⟩
    rcases h.reg.own.2 with ⟨hv, _⟩ | ⟨g, cp, cur, hv, _, hh, _⟩
    · left; rw [hv]; rfl
    · right
      rw [hv]
      intro e
      obtain ⟨cs, hc⟩ := hr g e.symm
      rw [hh] at hc
      injection hc with h1
      injection h1 with _ h2
      exact absurd h2 (by decide)
theorem HubAt.grown {w w' : World} {hp dk : Nat} {seed room last : Int} {mb c : Nat} {l : List Px} {row : Option Nat} (h : HubAt w hp dk seed room last mb c l) (hg : w.grownBy w' row) (hr : ∀ g, row = some g → ∃ cs, w.heap[g]? = some (.cells cs 9 (0, 0))) : HubAt w' hp dk seed room last mb c l := by
  refine ⟨?_, ?_, h.desk.grown hg hr⟩
  · refine (hg.block hp (blk_lt h.hub) ?_).trans h.hub
    intro e
    obtain ⟨cs, hc⟩ := hr hp e.symm
    have h1 := h.hub
    unfold HubIn at h1
    rw [h1] at hc
    injection hc with h2
    injection h2 with _ h3
    exact absurd h3 (by decide)
  · refine (hg.block mb (blk_lt h.map) ?_).trans h.map
    intro e
    obtain ⟨cs, hc⟩ := hr mb e.symm
    rw [h.map] at hc
    injection hc with h2
    cases h2
theorem Says.row {w : World} {u : Value} {L : List ByteArray} {B : Nat} (h : Says w u L B) : ∀ g, u.ownBlock = some g → ∃ cs, w.heap[g]? = some (.cells cs 9 (0, 0)) := by
  intro g hgu
  rcases h.2 with ⟨hv, _⟩ | ⟨g', cp, cur, hv, _, hh, _⟩
  · rw [hv] at hgu; cases hgu
  · rw [hv] at hgu
    cases hgu
    exact ⟨cur, hh⟩
set_option maxHeartbeats 16000000 in
set_option maxRecDepth 100000 in
theorem line_calls (s p f : ByteArray) (v m err : Int) (hP : Parses s v p m) (L : List ByteArray) (hL : L.length ≤ 8) (l l' : List Px) (hp dk mb c : Nat) (seed room last : Int) (hdk : 3 ≤ dk)
    (hdo : ∀ W, HubAt W hp dk seed room last mb c l → Calls Tryz.prog 14 #[.pointer (some ⟨hp, 0, none⟩), .int .i64 0, .agg (ordC v p m)] W fun e w' => ∃ u, e = .returned (.tuple #[u, .int .i64 err]) ∧ Says w' u L W.heap.size ∧ HubAt w' hp dk seed room last mb c l' ∧ Fr (fun b => b = dk) W w')
    (hfl : ∀ W, Glob W → Calls Tryz.prog 15 #[.int .i64 err] W fun e w' => e = .returned (.string f) ∧ Below W.heap.size W w')
    (w : World) (hG : Glob w) (h : HubAt w hp dk seed room last mb c l) : Calls Tryz.prog 7 #[.pointer (some ⟨hp, 0, none⟩), .int .i64 0, .string s] w fun e w' => ∃ u, e = .returned u ∧ Says w' u (L ++ [f]) w.heap.size ∧ HubAt w' hp dk seed room last mb c l' ∧ Fr (fun b => b = dk) w w' := by
  obtain ⟨is, hs_, zs, ys, xs_⟩ := info_parts infoStr
  have HP := Lib.hid (hP w hG.sp)
  have HDO := Lib.hid hdo
  have HFL := Lib.hid hfl
  have HG := Lib.hid hG
  have HH := Lib.hid h
  clear hP hdo hfl hG h
  go_enter Tryz.func7, Tryz.ntmps7
  go_wp2_with fail
  refine HP.out.mono ?_
  rintro e w1 ⟨rfl, hb1⟩
  have HB1 := Lib.hid hb1
  clear hb1
  unfold ordC at *
  go_wp2_with fail
  have hb2 := below_alloc HB1.out (.cells (ordC v p m) 57) (Nat.le_refl _)
  unfold ordC at hb2
  refine (HDO.out _ (HH.out.below hb2)).mono ?_
  rintro e w3 ⟨u, rfl, hsay, hh3, hf3⟩
  have hfr3 := (Fr.of_below (X := fun b => b = dk) hb2).trans hf3 (fun _ e => e) (fun _ _ e => e)
  have hG3 := HG.out.fr hfr3 (by omega) (by omega)
  have HFR3 := Lib.hid hfr3
  have HF3 := Lib.hid (HFL.out _ hG3)
  have HSAY := Lib.hid (hsay.base (B' := w.heap.size) hb2.size)
  have HH3 := Lib.hid hh3
  clear hb2 hsay hh3 hf3 hfr3 hG3
  go_wp2_with fail
  refine HF3.out.mono ?_
  rintro e w4 ⟨rfl, hb4⟩
  have hsay4 := HSAY.out.below hb4
  have hh4 := HH3.out.below hb4
  have hfr4 := HFR3.out.then_below hb4
  have HFR4 := Lib.hid hfr4
  have HSAY4 := Lib.hid hsay4
  have HH4 := Lib.hid hh4
  clear hb4 hsay4 hh4 hfr4
  go_wp2_with (at_builtin; refine wpList_append_own _ rfl (.tmp 31) (.tmp 34) 38 rfl w.heap.size 9 is _ 1 16 Tryz.underlying38 hs_ zs ys xs_ rfl (by omega) _ _ _ rfl (HSAY4.out.alloc _) ⟨w4.heap.size, 0, none⟩ 1 1 [.string f] rfl rfl ?qc2 ?qc3 ?qc4 ?qc5 ?qc6 ?_)
  case qc2 =>
    intro j u hj
    rw [Addr.add_lit, Nat.zero_add]
    exact (blk_cell (heap_alloc_new w4 _) j).trans (by rw [← hj]; simp)
  case qc3 => simp [Value.oneCell']
  case qc4 => simp only [maxLen]; omega
  case qc5 => omega
  case qc6 => have := HFR4.out.size; simp; omega
  intro v5 w5 hown5 hgrow5 hnil5
  have hsay5 : Says w5 v5 (L ++ [f]) w.heap.size := by unfold Says; simpa using hown5
  have hh5 := (HH4.out.below (below_alloc (Below.refl _ w4) (.cells #[.string f] 9) (Nat.le_refl _))).grown hgrow5 (Says.row (HSAY4.out.alloc _))
  have hfr5 := (HFR4.out.alloc (.cells #[.string f] 9)).grown hgrow5 (fun i e => (HSAY4.out.lt i e).1)
  have H5 := Lib.hid hsay5
  have H6 := Lib.hid hh5
  have H7 := Lib.hid hfr5
  clear hown5 hgrow5 hnil5 hsay5 hh5 hfr5
  go_wp2_with fail
  go_ret
  exact ⟨_, rfl, H5.out, H6.out, H7.out⟩
end Go.Proofs.YtdpfmemcpipbkaaGreatDoor.Hand
end
section
/- hub.Line at each of the law's lines. -/
namespace Go.Proofs.YtdpfmemcpipbkaaGreatDoor.Hand
open Go.RowKit
set_option linter.unusedVariables false
set_option linter.unusedSimpArgs false
def DeskDo (v : Int) (p : ByteArray) (m : Int) (l l' : List Px) (dk : Nat) (L : List ByteArray) : Prop := ∀ W, DeskAt W dk l → Calls Tryz.prog 26 #[.pointer (some ⟨dk, 0, none⟩), .agg (ordC v p m)] W fun e w' => ∃ u, e = .returned (.tuple #[u, .int .i64 0]) ∧ Says w' u L W.heap.size ∧ DeskAt w' dk l' ∧ Fr (fun b => b = dk) W w'
theorem desk_ok (v : Int) (p : ByteArray) (m : Int) (f i : Nat) (hk : Instr.findNow (.int .i64) (.int .i64 v) ents.toList 0 = some (some (i, fn f))) (eg : ∀ args w, (callFunc f args).run Tryz.prog w = .ok (.enter f args) w) (hv8 : (v == 8) = false) (hv9 : (v == 9) = false) (l l' : List Px) (hg : GoodM l') (dk : Nat)
    (hcl : ∀ a n cap W, RegAt W a n cap l → Calls Tryz.prog f #[.slice a n cap, .agg (ordC v p m)] W (Told W l' 0)) : DeskDo v p m l l' dk [] := by
  intro W hd
  obtain ⟨a, n, cap, d, r, hd⟩ := hd
  refine do_ok v p m f i hk eg l l' [] dk n cap a d r W hd (hcl a n cap) ?_
  intro W a n cap d r h
  refine (dlines_none v p m hv8 hv9 l' hg dk n cap a _ _ W h.blk h.reg).mono ?_
  rintro e w' ⟨rfl, hb⟩
  exact ⟨_, rfl, World.ownsRow_nil _ _ _ _, hb⟩
theorem desk_list (l : List Px) (hg : GoodM l) (dk : Nat) : DeskDo 8 ⟨#[]⟩ 0 l l dk (l.map lineOf) := by
  intro W hd
  obtain ⟨a, n, cap, d, r, hd⟩ := hd
  refine do_ok 8 ⟨#[]⟩ 0 80 8 rfl (fun _ _ => by go_simp) l l (l.map lineOf) dk n cap a d r W hd (fun W h => c_list _ _ l a n cap W h) ?_
  intro W a n cap d r h
  refine (dlines_list ⟨#[]⟩ 0 l hg dk n cap a _ _ W h.blk h.reg).mono ?_
  rintro e w' ⟨u, rfl, ho, hb⟩
  refine ⟨u, rfl, ?_, hb⟩
  unfold Says
  rw [List.length_map, List.map_map]
  exact ho
def DeskNo (v : Int) (p : ByteArray) (m err : Int) (l : List Px) (dk : Nat) : Prop := ∀ W, DeskAt W dk l → Calls Tryz.prog 26 #[.pointer (some ⟨dk, 0, none⟩), .agg (ordC v p m)] W fun e w' => e = .returned (.tuple #[.slice none 0 0, .int .i64 err]) ∧ DeskAt w' dk l ∧ Fr (fun b => b = dk) W w'
theorem desk_no (v : Int) (p : ByteArray) (m err : Int) (he : err ≠ 0) (f i : Nat) (hk : Instr.findNow (.int .i64) (.int .i64 v) ents.toList 0 = some (some (i, fn f))) (eg : ∀ args w, (callFunc f args).run Tryz.prog w = .ok (.enter f args) w) (l l' : List Px) (dk : Nat)
    (hcl : ∀ a n cap W, RegAt W a n cap l → Calls Tryz.prog f #[.slice a n cap, .agg (ordC v p m)] W (Told W l' err)) : DeskNo v p m err l dk := by
  intro W hd
  obtain ⟨a, n, cap, d, r, hd⟩ := hd
  exact do_err v p m f i hk eg l l' err he dk n cap a d r W hd (hcl a n cap)
theorem st_upd_self (st : Nat → Option Bool) (i : Nat) (b : Option Bool) (h : st i = b) : upd st i b = st := by
  funext j
  unfold upd
  split
  · next e => rw [e, h]
  · rfl
theorem name_ok (i : Nat) : Ok (nm i, true, 3) := nm_ok i true 3 (by decide) (by decide)
theorem desk_1n (st : Nat → Option Bool) (i : Nat) (hi : i < 4) (h : st i = none) (dk : Nat) : DeskDo 1 (nm i) 3 (reg st) (reg (upd st i (some true))) dk [] :=
  desk_ok 1 (nm i) 3 81 0 rfl (fun _ _ => by go_simp) rfl rfl (reg st) _ (reg_good _) dk fun a n cap W hr => c_add _ _ _ _ _ _ _ _ _ hr fun W hr => (sink_reg st i hi h) ▸ add_told (reg st) (reg_good st).good (reg_up st) (Nat.le_trans (reg_few st) (by decide)) (nm i) 3 (name_ok i) (idx_none st i hi h) a n cap W hr
theorem desk_1s (st : Nat → Option Bool) (i : Nat) (hi : i < 4) (b : Bool) (h : st i = some b) (dk : Nat) : DeskNo 1 (nm i) 3 141 (reg st) dk := by
  obtain ⟨A, C, ht⟩ := there_ st i hi b h
  refine desk_no 1 (nm i) 3 141 (by decide) 81 0 rfl (fun _ _ => by go_simp) (reg st) (reg st) dk fun a n cap W hr => c_add _ _ _ _ _ _ _ _ _ hr fun W hr => add_there (reg st) (reg_good st).good (nm i) 3 (name_ok i) ?_ a n cap W hr
  rw [ht.reg, ht.idx]
  exact Int.natCast_nonneg _
theorem desk_2n (st : Nat → Option Bool) (i : Nat) (hi : i < 4) (h : st i = none) (dk : Nat) : DeskNo 2 (nm i) 0 142 (reg st) dk :=
  desk_no 2 (nm i) 0 142 (by decide) 83 1 rfl (fun _ _ => by go_simp) (reg st) (reg st) dk fun a n cap W hr => c_drop _ _ _ _ _ _ _ _ _ hr fun W hr => drop_none (reg st) (reg_good st).good (nm i) (idx_none st i hi h) a n cap W hr
theorem desk_2s (st : Nat → Option Bool) (i : Nat) (hi : i < 4) (b : Bool) (h : st i = some b) (dk : Nat) : DeskDo 2 (nm i) 0 (reg st) (reg (upd st i none)) dk [] := by
  obtain ⟨A, C, ht⟩ := there_ st i hi b h
  refine desk_ok 2 (nm i) 0 83 1 rfl (fun _ _ => by go_simp) rfl rfl (reg st) _ (reg_good _) dk fun a n cap W hr => c_drop _ _ _ _ _ _ _ _ _ hr fun W hr => ?_
  have hg := (reg_good st).good
  rw [ht.reg] at hr hg
  rw [ht.gone]
  exact drop_calls A C (nm i, b, 3) (nm i) hg (by rw [same_eq]; simp) ht.rest ht.idx a n cap W hr
theorem desk_3n (st : Nat → Option Bool) (i : Nat) (hi : i < 4) (h : st i = none) (dk : Nat) : DeskNo 3 (nm i) 0 142 (reg st) dk :=
  desk_no 3 (nm i) 0 142 (by decide) 85 2 rfl (fun _ _ => by go_simp) (reg st) (reg st) dk fun a n cap W hr => c_on _ _ _ _ _ _ _ _ _ hr fun W hr => switch_none (reg st) (reg_good st).good (nm i) true (idx_none st i hi h) a n cap W hr
theorem desk_4n (st : Nat → Option Bool) (i : Nat) (hi : i < 4) (h : st i = none) (dk : Nat) : DeskNo 4 (nm i) 0 142 (reg st) dk :=
  desk_no 4 (nm i) 0 142 (by decide) 87 3 rfl (fun _ _ => by go_simp) (reg st) (reg st) dk fun a n cap W hr => c_off _ _ _ _ _ _ _ _ _ hr fun W hr => switch_none (reg st) (reg_good st).good (nm i) false (idx_none st i hi h) a n cap W hr
theorem turned_to (st : Nat → Option Bool) (i : Nat) (b b' : Bool) (A C : List Px) (ht : There st i b A C) (a : Option Addr) (n cap : Nat) (W : World) (hr : RegAt W a n cap (reg st)) : Calls Tryz.prog 86 #[.slice a n cap, .string (nm i), .bool b'] W (Told W (reg (upd st i (some b'))) 0) := by
  have h := switch_calls (reg st) (reg_good st).good (nm i) b' A.length (by rw [ht.reg]; simp) (by rw [ht.reg]; exact ht.idx) a n cap W hr
  have e : (reg st).set A.length (((reg st).getD A.length default).1, b', ((reg st).getD A.length default).2.2) = reg (upd st i (some b')) := by
    rw [ht.turned, ht.reg]
    simp
  rw [e] at h
  exact h
theorem desk_3s (st : Nat → Option Bool) (i : Nat) (hi : i < 4) (b : Bool) (h : st i = some b) (dk : Nat) : DeskDo 3 (nm i) 0 (reg st) (reg (upd st i (some true))) dk [] := by
  obtain ⟨A, C, ht⟩ := there_ st i hi b h
  exact desk_ok 3 (nm i) 0 85 2 rfl (fun _ _ => by go_simp) rfl rfl (reg st) _ (reg_good _) dk fun a n cap W hr => c_on _ _ _ _ _ _ _ _ _ hr fun W hr => turned_to st i b true A C ht a n cap W hr
theorem desk_4s (st : Nat → Option Bool) (i : Nat) (hi : i < 4) (b : Bool) (h : st i = some b) (dk : Nat) : DeskDo 4 (nm i) 0 (reg st) (reg (upd st i (some false))) dk [] := by
  obtain ⟨A, C, ht⟩ := there_ st i hi b h
  exact desk_ok 4 (nm i) 0 87 3 rfl (fun _ _ => by go_simp) rfl rfl (reg st) _ (reg_good _) dk fun a n cap W hr => c_off _ _ _ _ _ _ _ _ _ hr fun W hr => turned_to st i b false A C ht a n cap W hr
def okB : ByteArray := ⟨#[111, 107]⟩
def e141 : ByteArray := ⟨#[101, 114, 114, 32, 49, 52, 49]⟩
def e142 : ByteArray := ⟨#[101, 114, 114, 32, 49, 52, 50]⟩
/-- What a line does, and tells. -/
def Line (s : ByteArray) (l l' : List Px) (L : List ByteArray) (f : ByteArray) : Prop := ∀ (hp dk mb c : Nat) (seed room last : Int) (hdk : 3 ≤ dk) (w : World), Glob w → HubAt w hp dk seed room last mb c l → Calls Tryz.prog 7 #[.pointer (some ⟨hp, 0, none⟩), .int .i64 0, .string s] w fun e w' => ∃ u, e = .returned u ∧ Says w' u (L ++ [f]) w.heap.size ∧ HubAt w' hp dk seed room last mb c l' ∧ Fr (fun b => b = dk) w w'
theorem line_do (s p : ByteArray) (v m : Int) (hP : Parses s v p m) (hv1 : 1 ≤ v) (hv2 : v ≤ 7) (l l' : List Px) (hd : ∀ dk, DeskDo v p m l l' dk []) : Line s l l' [] okB := by
  intro hp dk mb c seed room last hdk w hG h
  refine line_calls s p okB v m 0 hP [] (by simp) l l' hp dk mb c seed room last hdk (fun W hW => ?_) (fun W _ => fail_0 W) w hG h
  exact hdo_change v p m 0 hv1 hv2 (beq_false_of_ne (by omega)) [] l l' hp dk mb c seed room last W hW (hd dk)
theorem line_no (s p f : ByteArray) (v m err : Int) (hP : Parses s v p m) (hv2 : v ≤ 7) (he : err ≠ 0) (hF : ∀ W, Glob W → Calls Tryz.prog 15 #[.int .i64 err] W fun e w' => e = .returned (.string f) ∧ Below W.heap.size W w') (l : List Px) (hd : ∀ dk, DeskNo v p m err l dk) : Line s l l [] f := by
  intro hp dk mb c seed room last hdk w hG h
  refine line_calls s p f v m err hP [] (by simp) l l hp dk mb c seed room last hdk (fun W hW => ?_) hF w hG h
  refine (hdo_err v p m 0 err (beq_false_of_ne he) (bne_iff_ne.2 he) (beq_false_of_ne (by omega)) l l hp dk mb c seed room last W hW (hd dk)).mono ?_
  rintro e w' ⟨rfl, h1, h2⟩
  exact ⟨_, rfl, World.ownsRow_nil _ _ _ _, h1, h2⟩
theorem line_list (l : List Px) (hg : GoodM l) (h4 : l.length ≤ 4) : Line ⟨#[108, 105, 115, 116]⟩ l l (l.map lineOf) okB := by
  intro hp dk mb c seed room last hdk w hG h
  refine line_calls _ ⟨#[]⟩ okB 8 0 0 line_8 (l.map lineOf) (by rw [List.length_map]; omega) l l hp dk mb c seed room last hdk (fun W hW => ?_) (fun W _ => fail_0 W) w hG h
  exact hdo_list ⟨#[]⟩ 0 0 (l.map lineOf) l l hp dk mb c seed room last W hW (desk_list l hg dk)
theorem f141 (W : World) (h : Glob W) : Calls Tryz.prog 15 #[.int .i64 141] W fun e w' => e = .returned (.string e141) ∧ Below W.heap.size W w' := fail_141 W h.pw h.sz
theorem f142 (W : World) (h : Glob W) : Calls Tryz.prog 15 #[.int .i64 142] W fun e w' => e = .returned (.string e142) ∧ Below W.heap.size W w' := fail_142 W h.pw h.sz
/-- The law's lines, of Kind k. -/
def lineTxt (k i : Nat) : ByteArray := match k with
  | 0 => (⟨#[112, 114, 111, 120, 121, 32, 97, 100, 100, 32]⟩ ++ nm i) ++ ⟨#[32, 51]⟩
  | 1 => ⟨#[112, 114, 111, 120, 121, 32, 100, 114, 111, 112, 32]⟩ ++ nm i
  | 2 => ⟨#[111, 110, 32]⟩ ++ nm i
  | _ => ⟨#[111, 102, 102, 32]⟩ ++ nm i
def mOf (k : Nat) : Int := if k = 0 then 3 else 0
theorem parses_txt (k i : Nat) (hk : k < 4) (hi : i < 4) : Parses (lineTxt k i) (k + 1 : Nat) (nm i) (mOf k) := by
  have hk4 : k = 0 ∨ k = 1 ∨ k = 2 ∨ k = 3 := by omega
  have hi4 : i = 0 ∨ i = 1 ∨ i = 2 ∨ i = 3 := by omega
  rcases hk4 with rfl | rfl | rfl | rfl <;> rcases hi4 with rfl | rfl | rfl | rfl
  · exact line_1_0
  · exact line_1_1
  · exact line_1_2
  · exact line_1_3
  · exact line_2_0
  · exact line_2_1
  · exact line_2_2
  · exact line_2_3
  · exact line_3_0
  · exact line_3_1
  · exact line_3_2
  · exact line_3_3
  · exact line_4_0
  · exact line_4_1
  · exact line_4_2
  · exact line_4_3
/-- What the document says of a line of Kind k, where the name stands so. -/
def nextOf (k : Nat) (x : Option Bool) : Option Bool := match k, x with
  | 0, none => some true
  | 0, some b => some b
  | _, none => none
  | 1, some _ => none
  | 2, some _ => some true
  | _, some _ => some false
def toldOf (k : Nat) (x : Option Bool) : ByteArray := match k, x with
  | 0, none => okB
  | 0, some _ => e141
  | _, none => e142
  | _, some _ => okB
theorem line_step (k i : Nat) (hk : k < 4) (hi : i < 4) (st : Nat → Option Bool) : Line (lineTxt k i) (reg st) (reg (upd st i (nextOf k (st i)))) [] (toldOf k (st i)) := by
  have hP := parses_txt k i hk hi
  rcases h : st i with _ | b
  · have hk4 : k = 0 ∨ k = 1 ∨ k = 2 ∨ k = 3 := by omega
    rcases hk4 with rfl | rfl | rfl | rfl
    · exact line_do _ _ 1 3 hP (by decide) (by decide) _ _ fun dk => desk_1n st i hi h dk
    · exact (st_upd_self st i none h).symm ▸ line_no _ _ e142 2 0 142 hP (by decide) (by decide) f142 (reg st) fun dk => desk_2n st i hi h dk
    · exact (st_upd_self st i none h).symm ▸ line_no _ _ e142 3 0 142 hP (by decide) (by decide) f142 (reg st) fun dk => desk_3n st i hi h dk
    · exact (st_upd_self st i none h).symm ▸ line_no _ _ e142 4 0 142 hP (by decide) (by decide) f142 (reg st) fun dk => desk_4n st i hi h dk
  · have hk4 : k = 0 ∨ k = 1 ∨ k = 2 ∨ k = 3 := by omega
    rcases hk4 with rfl | rfl | rfl | rfl
    · have := line_no _ _ e141 1 3 141 hP (by decide) (by decide) f141 (reg st) fun dk => desk_1s st i hi b h dk
      show Line (lineTxt 0 i) (reg st) (reg (upd st i (some b))) [] e141
      rw [st_upd_self st i (some b) h]
      exact this
    · exact line_do _ _ 2 0 hP (by decide) (by decide) _ _ fun dk => desk_2s st i hi b h dk
    · exact line_do _ _ 3 0 hP (by decide) (by decide) _ _ fun dk => desk_3s st i hi b h dk
    · exact line_do _ _ 4 0 hP (by decide) (by decide) _ _ fun dk => desk_4s st i hi b h dk
end Go.Proofs.YtdpfmemcpipbkaaGreatDoor.Hand
end
section
/- A new machine. -/
namespace Go.Proofs.YtdpfmemcpipbkaaGreatDoor.Hand
open Go.RowKit
set_option linter.unusedVariables false
set_option linter.unusedSimpArgs false
set_option maxHeartbeats 4000000 in
set_option maxRecDepth 100000 in
theorem desk_new (w : World) : Calls Tryz.prog 16 #[] w fun e w' => e = .returned (.pointer (some ⟨w.heap.size, 0, none⟩)) ∧ w' = w.alloc (.cells #[.slice none 0 0, .int .i64 0, .int .i64 0] 94) := by
  go_enter Tryz.func16, Tryz.ntmps16
  go_wp2_with fail
  go_ret
  exact ⟨rfl, rfl⟩
set_option maxHeartbeats 4000000 in
set_option maxRecDepth 100000 in
theorem hub_new (seed : Int) (w : World) : Calls Tryz.prog 8 #[.int .u64 seed, .int .i64 5] w fun e w' => e = .returned (.tuple #[.pointer (some ⟨w.heap.size + 2, 0, none⟩), .int .i64 0]) ∧ w' = ((w.alloc (.cells #[.slice none 0 0, .int .i64 0, .int .i64 0] 94)).alloc (.map #[] 0)).alloc (.cells #[.pointer (some ⟨w.heap.size, 0, none⟩), .int .u64 seed, .int .i64 5, .int .i64 0, .map (some (w.heap.size + 1))] 63) := by
  have hmm := @run_makeMap Tryz.prog
  go_enter Tryz.func8, Tryz.ntmps8
  go_wp2_with fail
  refine (desk_new _).mono ?_
  rintro e w1 ⟨rfl, rfl⟩
  go_wp2_with fail
  refine bodyPost_ret (results_tmp2 rfl _ _ _) rfl ?_
  exact ⟨rfl, rfl⟩
set_option maxHeartbeats 4000000 in
set_option maxRecDepth 100000 in
theorem mach_hub (mp hp : Nat) (w : World) (hm : w.cell? ⟨mp, 0, none⟩ = some (.pointer (some ⟨hp, 0, none⟩))) : Calls Tryz.prog 5 #[.pointer (some ⟨mp, 0, none⟩)] w fun e w' => e = .returned (.pointer (some ⟨hp, 0, none⟩)) ∧ w = w' := by
  go_enter Tryz.func5, Tryz.ntmps5
  go_wp2_with fail
  go_ret
  exact ⟨rfl, rfl⟩
theorem heap_old {w : World} {i : Nat} {o : Obj} (x : Obj) (h : w.heap[i]? = some o) : (w.alloc x).heap[i]? = some o :=
  ((below_alloc (Below.refl _ w) x (Nat.le_refl _)).block i (blk_lt h)).trans h
def machW (w : World) : World := ((((w.alloc (.cells #[.int .u64 1, .int .i64 5, .int .u32 0] 30)).alloc (.cells #[.slice none 0 0, .int .i64 0, .int .i64 0] 94)).alloc (.map #[] 0)).alloc (.cells #[.pointer (some ⟨w.heap.size + 1, 0, none⟩), .int .u64 1, .int .i64 5, .int .i64 0, .map (some (w.heap.size + 1 + 1))] 63)).alloc (.cells #[.pointer (some ⟨w.heap.size + 1 + 2, 0, none⟩)] 44)
theorem mach_made (w : World) : ∃ mp hp dk mb, Ending.returned (.tuple #[.pointer (some ⟨w.heap.size + 1 + 1 + 1 + 1, 0, none⟩), .int .i64 0]) = .returned (.tuple #[.pointer (some ⟨mp, 0, none⟩), .int .i64 0]) ∧ w.heap.size ≤ mp ∧ w.heap.size ≤ hp ∧ w.heap.size ≤ dk ∧ w.heap.size ≤ mb ∧ mp ≠ dk ∧ (machW w).heap[mp]? = some (.cells #[.pointer (some ⟨hp, 0, none⟩)] 44 (0, 0)) ∧ HubAt (machW w) hp dk 1 5 0 mb 0 [] ∧ Below w.heap.size w (machW w) := by
  refine ⟨w.heap.size + 1 + 1 + 1 + 1, w.heap.size + 1 + 2, w.heap.size + 1, w.heap.size + 1 + 1, rfl, by omega, by omega, by omega, by omega, by omega, ?_, ⟨?_, ?_, none, 0, 0, 0, 0, ?_, RegAt.nil _⟩, ?_⟩
  · have := heap_alloc_new ((((w.alloc (.cells #[.int .u64 1, .int .i64 5, .int .u32 0] 30)).alloc (.cells #[.slice none 0 0, .int .i64 0, .int .i64 0] 94)).alloc (.map #[] 0)).alloc (.cells #[.pointer (some ⟨w.heap.size + 1, 0, none⟩), .int .u64 1, .int .i64 5, .int .i64 0, .map (some (w.heap.size + 1 + 1))] 63)) (.cells #[.pointer (some ⟨w.heap.size + 1 + 2, 0, none⟩)] 44)
    simp only [World.size_alloc] at this
    exact this
  · have := heap_alloc_new (((w.alloc (.cells #[.int .u64 1, .int .i64 5, .int .u32 0] 30)).alloc (.cells #[.slice none 0 0, .int .i64 0, .int .i64 0] 94)).alloc (.map #[] 0)) (.cells #[.pointer (some ⟨w.heap.size + 1, 0, none⟩), .int .u64 1, .int .i64 5, .int .i64 0, .map (some (w.heap.size + 1 + 1))] 63)
    simp only [World.size_alloc] at this
    exact heap_old _ this
  · have := heap_alloc_new ((w.alloc (.cells #[.int .u64 1, .int .i64 5, .int .u32 0] 30)).alloc (.cells #[.slice none 0 0, .int .i64 0, .int .i64 0] 94)) (.map #[] 0)
    simp only [World.size_alloc] at this
    exact heap_old _ (heap_old _ this)
  · have := heap_alloc_new (w.alloc (.cells #[.int .u64 1, .int .i64 5, .int .u32 0] 30)) (.cells #[.slice none 0 0, .int .i64 0, .int .i64 0] 94)
    simp only [World.size_alloc] at this
    exact heap_old _ (heap_old _ (heap_old _ this))
  · exact below_alloc (below_alloc (below_alloc (below_alloc (below_alloc (Below.refl _ w) _ (Nat.le_refl _)) _ (Nat.le_refl _)) _ (Nat.le_refl _)) _ (Nat.le_refl _)) _ (Nat.le_refl _)
set_option maxHeartbeats 4000000 in
set_option maxRecDepth 100000 in
theorem mach_new (w : World) : Calls Tryz.prog 4 #[.agg #[.int .u64 1, .int .i64 5, .int .u32 0]] w fun e w' => ∃ mp hp dk mb, e = .returned (.tuple #[.pointer (some ⟨mp, 0, none⟩), .int .i64 0]) ∧ w.heap.size ≤ mp ∧ w.heap.size ≤ hp ∧ w.heap.size ≤ dk ∧ w.heap.size ≤ mb ∧ mp ≠ dk ∧ w'.heap[mp]? = some (.cells #[.pointer (some ⟨hp, 0, none⟩)] 44 (0, 0)) ∧ HubAt w' hp dk 1 5 0 mb 0 [] ∧ Below w.heap.size w w' := by
  go_enter Tryz.func4, Tryz.ntmps4
  go_wp2_with fail
  refine (hub_new 1 _).mono ?_
  rintro e w1 ⟨rfl, rfl⟩
  go_wp2_with fail
  refine bodyPost_ret (results_tmp2 rfl _ _ _) rfl ?_
  exact mach_made w
end Go.Proofs.YtdpfmemcpipbkaaGreatDoor.Hand
end
section
/- A new stage. -/
namespace Go.Proofs.YtdpfmemcpipbkaaGreatDoor.Hand
open Go.RowKit
set_option linter.unusedVariables false
set_option linter.unusedSimpArgs false
set_option maxHeartbeats 4000000 in
set_option maxRecDepth 100000 in
theorem tick_add0 (w : World) : Calls Tryz.prog 176 #[.int .i64 0, .int .i64 0] w fun e w' => e = .returned (.int .i64 0) ∧ Below w.heap.size w w' := by
  go_enter Tryz.func176, Tryz.ntmps176
  go_wp2_with fail
  refine (near_0 _).mono ?_
  rintro e w1 ⟨rfl, hb1⟩
  go_wp2_with fail
  refine (near_0 _).mono ?_
  rintro e w2 ⟨rfl, hb2⟩
  go_wp2_with fail
  refine (near_0 _).mono ?_
  rintro e w3 ⟨rfl, hb3⟩
  go_wp2_with fail
  go_ret
  exact ⟨rfl, below_step (below_step hb1 hb2) hb3⟩
set_option maxHeartbeats 4000000 in
set_option maxRecDepth 100000 in
theorem cargo_new (w : World) : Calls Tryz.prog 177 #[] w fun e w' => e = .returned (.pointer (some ⟨w.heap.size, 0, none⟩)) ∧ w' = w.alloc (.cells #[.slice none 0 0, .int .i64 0] 287) := by
  go_enter Tryz.func177, Tryz.ntmps177
  go_wp2_with fail
  go_ret
  exact ⟨rfl, rfl⟩
def stageC (cb : Nat) (p : Int) : Array Value := #[.pointer (some ⟨cb, 0, none⟩), .string ⟨#[]⟩, .int .i64 0, .bool false, .int .i64 0, .int .i64 0, .int .i64 0, .int .u64 0, .int .i64 0, .int .i64 0, .int .i64 0, .int .i64 0, .int .i64 5, .int .i64 0, .int .i64 0, .int .i64 0, .int .i64 p, .bool false, .int .i64 0, .int .i64 0]
/-- A stage without a toxic, that let p bytes through. -/
def StageIn (w : World) (sb cb : Nat) (p : Int) : Prop := w.heap[sb]? = some (.cells (stageC cb p) 244 (0, 0))
def CargoIn (w : World) (cb : Nat) (u : Value) : Prop := w.heap[cb]? = some (.cells #[u, .int .i64 0] 287 (0, 0))
def tox0 : Array Value := #[.string ⟨#[]⟩, .int .i64 0, .bool false, .int .i64 0, .int .i64 0, .int .i64 0]
set_option maxHeartbeats 8000000 in
set_option maxRecDepth 100000 in
theorem stage_new (w : World) : Calls Tryz.prog 112 #[.agg tox0, .int .u64 0, .int .i64 5, .int .i64 0] w fun e w' => ∃ sb cb, e = .returned (.tuple #[.pointer (some ⟨sb, 0, none⟩), .int .i64 0]) ∧ w.heap.size ≤ sb ∧ w.heap.size ≤ cb ∧ sb < w'.heap.size ∧ cb < w'.heap.size ∧ StageIn w' sb cb 0 ∧ CargoIn w' cb (.slice none 0 0) ∧ Below w.heap.size w w' := by
  unfold tox0
  go_enter Tryz.func112, Tryz.ntmps112
  go_wp2_with fail
  refine (tick_add0 _).mono ?_
  rintro e w1 ⟨rfl, hb1⟩
  have hz1 : w.heap.size < w1.heap.size := Nat.lt_of_lt_of_le (by rw [World.size_alloc]; omega) hb1.size
  have ht := (hb1.block w.heap.size (by rw [World.size_alloc]; omega)).trans (heap_alloc_new w _)
  have t0 := blk_cell ht 0
  have t1 := blk_cell ht 1
  have t2 := blk_cell ht 2
  have t3 := blk_cell ht 3
  have t4 := blk_cell ht 4
  have t5 := blk_cell ht 5
  simp only [List.getElem?_toArray, List.getElem?_cons_zero, List.getElem?_cons_succ] at t0 t1 t2 t3 t4 t5
  have HB1 := Lib.hid (below_step (below_alloc (Below.refl _ w) _ (Nat.le_refl _)) hb1)
  clear hb1 ht
  go_wp2_with fail
  refine start_n (S := fun W => W.cell? ⟨w.heap.size, 0, none⟩ = some (.string ⟨#[]⟩) ∧ W.cell? ⟨w.heap.size, 1, none⟩ = some (.int .i64 0) ∧ W.cell? ⟨w.heap.size, 2, none⟩ = some (.bool false) ∧ W.cell? ⟨w.heap.size, 3, none⟩ = some (.int .i64 0) ∧ W.cell? ⟨w.heap.size, 4, none⟩ = some (.int .i64 0) ∧ W.cell? ⟨w.heap.size, 5, none⟩ = some (.int .i64 0)) 9 #[false, false, false, false, false, false, false, false, false] (by kernel_rfl) rfl rfl ?_ (fun hHeld => ?_)
  · (try dsimp only)
    exact ⟨t0, t1, t2, t3, t4, t5⟩
  refine take_n 1 (some 29) #[false, true, false, false, false, false, false, false, false] (v := ?_) (a' := ?_) rfl rfl rfl (by kernel_rfl) (by kernel_rfl) (by kernel_rfl) (fun _ _ _ _ h => h) (Or.inl ⟨by rfl, ?_⟩) hHeld ?_ ?_
  rotate_left 2
  · intro w hSw
    (try dsimp only at hSw)
    go_simp
    all_goals (with_reducible rfl)
  · simp only [Act.put, List.setIfInBounds_toArray, List.set_cons_zero, List.set_cons_succ]
    rfl
  refine take_n 2 (some 30) #[false, true, true, false, false, false, false, false, false] (v := ?_) (a' := ?_) rfl rfl rfl (by kernel_rfl) (by kernel_rfl) (by kernel_rfl) (fun _ _ _ _ h => h) (Or.inl ⟨by rfl, ?_⟩) hHeld ?_ ?_
  rotate_left 2
  · intro w hSw
    (try dsimp only at hSw)
    go_simp
    all_goals (with_reducible rfl)
  · simp only [Act.put, List.setIfInBounds_toArray, List.set_cons_zero, List.set_cons_succ]
    rfl
  refine take_n 3 (some 31) #[false, true, true, true, false, false, false, false, false] (v := ?_) (a' := ?_) rfl rfl rfl (by kernel_rfl) (by kernel_rfl) (by kernel_rfl) (fun _ _ _ _ h => h) (Or.inl ⟨by rfl, ?_⟩) hHeld ?_ ?_
  rotate_left 2
  · intro w hSw
    (try dsimp only at hSw)
    go_simp
    all_goals (with_reducible rfl)
  · simp only [Act.put, List.setIfInBounds_toArray, List.set_cons_zero, List.set_cons_succ]
    rfl
  refine take_n 4 (some 32) #[false, true, true, true, true, false, false, false, false] (v := ?_) (a' := ?_) rfl rfl rfl (by kernel_rfl) (by kernel_rfl) (by kernel_rfl) (fun _ _ _ _ h => h) (Or.inl ⟨by rfl, ?_⟩) hHeld ?_ ?_
  rotate_left 2
  · intro w hSw
    (try dsimp only at hSw)
    go_simp
    all_goals (with_reducible rfl)
  · simp only [Act.put, List.setIfInBounds_toArray, List.set_cons_zero, List.set_cons_succ]
    rfl
  refine take_n 5 (some 33) #[false, true, true, true, true, true, false, false, false] (v := ?_) (a' := ?_) rfl rfl rfl (by kernel_rfl) (by kernel_rfl) (by kernel_rfl) (fun _ _ _ _ h => h) (Or.inl ⟨by rfl, ?_⟩) hHeld ?_ ?_
  rotate_left 2
  · intro w hSw
    (try dsimp only at hSw)
    go_simp
    all_goals (with_reducible rfl)
  · simp only [Act.put, List.setIfInBounds_toArray, List.set_cons_zero, List.set_cons_succ]
    rfl
  refine one_n 0 #[true, true, true, true, true, true, false, false, false] rfl rfl (by kernel_rfl) (fun K hK => ?_)
  go_simp
  refine (cargo_new _).mono ?_
  rintro e w2 ⟨rfl, rfl⟩
  refine hK.out _ ?_ _ ?_ ?_ (fun hHeld => ?_)
  rotate_left
  · (try simp only [Act.put, List.setIfInBounds_toArray, List.set_cons_zero, List.set_cons_succ])
    rfl
  · (try dsimp only)
    go_keep
  clear hK K
  refine take_n 6 (some 34) #[true, true, true, true, true, true, true, false, false] (v := ?_) (a' := ?_) rfl rfl rfl (by kernel_rfl) (by kernel_rfl) (by kernel_rfl) (fun _ _ _ _ h => h) (Or.inl ⟨by rfl, ?_⟩) hHeld ?_ ?_
  rotate_left 2
  · intro w hSw
    (try dsimp only at hSw)
    go_simp
    all_goals (with_reducible rfl)
  · simp only [Act.put, List.setIfInBounds_toArray, List.set_cons_zero, List.set_cons_succ]
    rfl
  refine one_n 7 #[true, true, true, true, true, true, true, true, false] rfl rfl (by kernel_rfl) (fun K hK => ?_)
  go_simp
  refine hK.out _ ?_ _ ?_ ?_ (fun hHeld => ?_)
  rotate_left
  · (try simp only [Act.put, List.setIfInBounds_toArray, List.set_cons_zero, List.set_cons_succ])
    rfl
  · (try dsimp only)
    go_keep
  clear hK K
  refine take_n 8 (some 11) #[true, true, true, true, true, true, true, true, true] (v := ?_) (a' := ?_) rfl rfl rfl (by kernel_rfl) (by kernel_rfl) (by kernel_rfl) (fun _ _ _ _ h => h) (Or.inl ⟨by rfl, ?_⟩) hHeld ?_ ?_
  rotate_left 2
  · intro w hSw
    (try dsimp only at hSw)
    go_simp
    all_goals (with_reducible rfl)
  · simp only [Act.put, List.setIfInBounds_toArray, List.set_cons_zero, List.set_cons_succ]
    rfl
  refine wpAnyH_done (by kernel_rfl) ?_ _
  go_wp2_with fail
  refine bodyPost_ret (results_tmp2 rfl _ _ _) rfl ?_
  refine ⟨w1.heap.size + 1, w1.heap.size, rfl, by omega, by omega, ?_, ?_, ?_, ?_, ?_⟩
  · show _ < (World.alloc _ _).heap.size
    rw [World.size_alloc, World.size_alloc]; omega
  · show _ < (World.alloc _ _).heap.size
    rw [World.size_alloc, World.size_alloc]; omega
  · have := heap_alloc_new (w1.alloc (.cells #[.slice none 0 0, .int .i64 0] 287)) (.cells (stageC w1.heap.size 0) 244)
    rw [World.size_alloc] at this
    exact this
  · exact heap_old _ (heap_alloc_new w1 (.cells #[.slice none 0 0, .int .i64 0] 287))
  · exact below_drewN (HB1.out.trans (below_alloc (below_alloc (Below.refl _ w1) _ (Nat.le_refl _)) _ (Nat.le_refl _) |>.mono (by omega))) 1
end Go.Proofs.YtdpfmemcpipbkaaGreatDoor.Hand
end
section
/- A cargo: nothing, or one byte. -/
namespace Go.Proofs.YtdpfmemcpipbkaaGreatDoor.Hand
open Go.RowKit
set_option linter.unusedVariables false
set_option linter.unusedSimpArgs false
theorem infoPiece : (Tryz.prog.info? 296).map (fun i => (i.zero, i.size, i.bytes)) = some (some (.agg #[.int .i64 0, .string ⟨#[]⟩]), 2, 24) := by kernel_rfl
def PieceIn (w : World) (g : Nat) (s : ByteArray) : Prop := ∃ cur : Array Value, w.heap[g]? = some (.cells cur 296 (0, 0)) ∧ cur[0]? = some (.int .i64 0) ∧ cur[1]? = some (.string s)
theorem row_piece {w : World} {B : Nat} {v : Value} {s : ByteArray} (h : w.ownsRow B 296 2 v (0 + 1) ([] ++ [.int .i64 0, .string s])) : ∃ g c, v = .slice (some ⟨g, 0, none⟩) 1 c ∧ B ≤ g ∧ g < w.heap.size ∧ PieceIn w g s ∧ 1 ≤ c := by
  rcases h.2 with ⟨_, h2⟩ | ⟨g, cap, cur, hv, hb, hh, hc, _, hcs, ht⟩
  · omega
  · refine ⟨g, cap, hv, hb, blk_lt hh, ⟨cur, hh, ?_, ?_⟩, hc⟩
    · have := congrArg (fun l => l[0]?) ht
      simpa [List.getElem?_take] using this
    · have := congrArg (fun l => l[1]?) ht
      simpa [List.getElem?_take] using this
theorem PieceIn.keep {w w' : World} {g : Nat} {s : ByteArray} {X : Nat → Prop} (h : PieceIn w g s) (hf : Fr X w w') (hx : ¬ X g) : PieceIn w' g s := by
  obtain ⟨cur, h1, h2⟩ := h
  exact ⟨cur, (hf.block g (blk_lt h1) hx).trans h1, h2⟩
theorem PieceIn.set {w : World} {g cb i : Nat} {s : ByteArray} (h : PieceIn w g s) (hn : g ≠ cb) (v : Value) : PieceIn (w.setCell ⟨cb, i, none⟩ v) g s := h.keep (set_fr w cb i v) hn
theorem World.size_drew' (w : World) : w.drew.heap.size = w.heap.size := rfl
theorem Fr.then_block {X : Nat → Prop} {a b c b' : World} {row : Option Nat} (h : Fr X a b) (hs : b'.heap.size ≤ c.heap.size) (hk : ∀ i, i < b.heap.size → c.heap[i]? = b.heap[i]?) (hg : b'.grownBy c row) (ho : b'.os = b.os := by rfl) (ht : b'.tape = b.tape := by rfl) (hp : b'.output = b.output := by rfl) (hz : b.heap.size ≤ b'.heap.size := by simp) : Fr X a c :=
  ⟨hg.os.trans (ho.trans h.os), hg.tape.trans (ht.trans h.tape), hg.output.trans (hp.trans h.output), Nat.le_trans h.size (Nat.le_trans hz hs), fun i hi hx => (hk i (Nat.lt_of_lt_of_le hi h.size)).trans (h.block i hi hx)⟩
def xB : ByteArray := ⟨#[120]⟩
/-- What a cargo has: nothing, or "x". -/
inductive Has (B : Nat) (w : World) (cb : Nat) : Nat → Prop
  | none (a : Option Addr) (c : Nat) : CargoIn w cb (.slice a 0 c) → Has B w cb 0
  | one (g c : Nat) : CargoIn w cb (.slice (some ⟨g, 0, none⟩) 1 c) → PieceIn w g xB → 1 ≤ c → B ≤ g → Has B w cb 1
variable {B : Nat}
set_option maxHeartbeats 4000000 in
set_option maxRecDepth 100000 in
theorem joined_no (nb b2 b3 : Nat) (w : World) (hn : w.cell? ⟨nb, 0, none⟩ = some (.int .i64 (-1))) : Calls Tryz.prog 267 #[.pointer (some ⟨nb, 0, none⟩), .pointer (some ⟨b2, 0, none⟩), .pointer (some ⟨b3, 0, none⟩)] w fun e w' => e = .returned (.bool false) ∧ Below w.heap.size w w' := by
  go_enter Tryz.func267, Tryz.ntmps267
  go_wp2_with fail
  refine start_n (S := fun W => W.cell? ⟨nb, 0, none⟩ = some (.int .i64 (-1))) 18 #[false, false, false, false, false, false, false, false, false, false, false, false, false, false, false, false, false, false] (by kernel_rfl) rfl rfl ?_ (fun hHeld => ?_)
  · (try dsimp only)
    exact hn
  refine take_n 0 (some 4) #[true, false, false, false, false, false, false, false, false, false, false, false, false, false, false, false, false, false] (v := ?_) (a' := ?_) rfl rfl rfl (by kernel_rfl) (by kernel_rfl) (by kernel_rfl) (fun _ _ _ _ h => h) (Or.inl ⟨by rfl, ?_⟩) hHeld ?_ ?_
  rotate_left 2
  · intro w hSw
    (try dsimp only at hSw)
    go_simp
    all_goals (with_reducible rfl)
  · simp only [Act.put, List.setIfInBounds_toArray, List.set_cons_zero, List.set_cons_succ]
    rfl
  refine take_n 1 (some 5) #[true, true, false, false, false, false, false, false, false, false, false, false, false, false, false, false, false, false] (v := ?_) (a' := ?_) rfl rfl rfl (by kernel_rfl) (by kernel_rfl) (by kernel_rfl) (fun _ _ _ _ h => h) (Or.inl ⟨by rfl, ?_⟩) hHeld ?_ ?_
  rotate_left 2
  · intro w hSw
    (try dsimp only at hSw)
    go_simp
    all_goals (with_reducible rfl)
  · simp only [Act.put, List.setIfInBounds_toArray, List.set_cons_zero, List.set_cons_succ]
    rfl
  refine take_n 2 (some 6) #[true, true, true, false, false, false, false, false, false, false, false, false, false, false, false, false, false, false] (v := ?_) (a' := ?_) rfl rfl rfl (by kernel_rfl) (by kernel_rfl) (by kernel_rfl) (fun _ _ _ _ h => h) (Or.inl ⟨by rfl, ?_⟩) hHeld ?_ ?_
  rotate_left 2
  · intro w hSw
    (try dsimp only at hSw)
    go_simp
    all_goals (with_reducible rfl)
  · simp only [Act.put, List.setIfInBounds_toArray, List.set_cons_zero, List.set_cons_succ]
    rfl
  refine take_n 3 (some 7) #[true, true, true, true, false, false, false, false, false, false, false, false, false, false, false, false, false, false] (v := undef) (a' := ?_) rfl rfl rfl (by kernel_rfl) (by kernel_rfl) (by kernel_rfl) (fun _ _ _ _ h => h) (Or.inr ⟨by rfl, rfl⟩) hHeld ?_ ?_
  rotate_left
  · simp only [Act.put, List.setIfInBounds_toArray, List.set_cons_zero, List.set_cons_succ]
    rfl
  refine take_n 4 (some 8) #[true, true, true, true, true, false, false, false, false, false, false, false, false, false, false, false, false, false] (v := undef) (a' := ?_) rfl rfl rfl (by kernel_rfl) (by kernel_rfl) (by kernel_rfl) (fun _ _ _ _ h => h) (Or.inr ⟨by rfl, rfl⟩) hHeld ?_ ?_
  rotate_left
  · simp only [Act.put, List.setIfInBounds_toArray, List.set_cons_zero, List.set_cons_succ]
    rfl
  refine take_n 5 (some 9) #[true, true, true, true, true, true, false, false, false, false, false, false, false, false, false, false, false, false] (v := undef) (a' := ?_) rfl rfl rfl (by kernel_rfl) (by kernel_rfl) (by kernel_rfl) (fun _ _ _ _ h => h) (Or.inr ⟨by rfl, rfl⟩) hHeld ?_ ?_
  rotate_left
  · simp only [Act.put, List.setIfInBounds_toArray, List.set_cons_zero, List.set_cons_succ]
    rfl
  refine take_n 6 (some 10) #[true, true, true, true, true, true, true, false, false, false, false, false, false, false, false, false, false, false] (v := undef) (a' := ?_) rfl rfl rfl (by kernel_rfl) (by kernel_rfl) (by kernel_rfl) (fun _ _ _ _ h => h) (Or.inr ⟨by rfl, rfl⟩) hHeld ?_ ?_
  rotate_left
  · simp only [Act.put, List.setIfInBounds_toArray, List.set_cons_zero, List.set_cons_succ]
    rfl
  refine take_n 7 (some 11) #[true, true, true, true, true, true, true, true, false, false, false, false, false, false, false, false, false, false] (v := undef) (a' := ?_) rfl rfl rfl (by kernel_rfl) (by kernel_rfl) (by kernel_rfl) (fun _ _ _ _ h => h) (Or.inr ⟨by rfl, rfl⟩) hHeld ?_ ?_
  rotate_left
  · simp only [Act.put, List.setIfInBounds_toArray, List.set_cons_zero, List.set_cons_succ]
    rfl
  refine take_n 8 (some 12) #[true, true, true, true, true, true, true, true, true, false, false, false, false, false, false, false, false, false] (v := undef) (a' := ?_) rfl rfl rfl (by kernel_rfl) (by kernel_rfl) (by kernel_rfl) (fun _ _ _ _ h => h) (Or.inr ⟨by rfl, rfl⟩) hHeld ?_ ?_
  rotate_left
  · simp only [Act.put, List.setIfInBounds_toArray, List.set_cons_zero, List.set_cons_succ]
    rfl
  refine take_n 9 (some 13) #[true, true, true, true, true, true, true, true, true, true, false, false, false, false, false, false, false, false] (v := undef) (a' := ?_) rfl rfl rfl (by kernel_rfl) (by kernel_rfl) (by kernel_rfl) (fun _ _ _ _ h => h) (Or.inr ⟨by rfl, rfl⟩) hHeld ?_ ?_
  rotate_left
  · simp only [Act.put, List.setIfInBounds_toArray, List.set_cons_zero, List.set_cons_succ]
    rfl
  refine take_n 10 (some 14) #[true, true, true, true, true, true, true, true, true, true, true, false, false, false, false, false, false, false] (v := undef) (a' := ?_) rfl rfl rfl (by kernel_rfl) (by kernel_rfl) (by kernel_rfl) (fun _ _ _ _ h => h) (Or.inr ⟨by rfl, rfl⟩) hHeld ?_ ?_
  rotate_left
  · simp only [Act.put, List.setIfInBounds_toArray, List.set_cons_zero, List.set_cons_succ]
    rfl
  refine take_n 11 (some 15) #[true, true, true, true, true, true, true, true, true, true, true, true, false, false, false, false, false, false] (v := undef) (a' := ?_) rfl rfl rfl (by kernel_rfl) (by kernel_rfl) (by kernel_rfl) (fun _ _ _ _ h => h) (Or.inr ⟨by rfl, rfl⟩) hHeld ?_ ?_
  rotate_left
  · simp only [Act.put, List.setIfInBounds_toArray, List.set_cons_zero, List.set_cons_succ]
    rfl
  refine take_n 12 (some 16) #[true, true, true, true, true, true, true, true, true, true, true, true, true, false, false, false, false, false] (v := undef) (a' := ?_) rfl rfl rfl (by kernel_rfl) (by kernel_rfl) (by kernel_rfl) (fun _ _ _ _ h => h) (Or.inr ⟨by rfl, rfl⟩) hHeld ?_ ?_
  rotate_left
  · simp only [Act.put, List.setIfInBounds_toArray, List.set_cons_zero, List.set_cons_succ]
    rfl
  refine take_n 13 (some 17) #[true, true, true, true, true, true, true, true, true, true, true, true, true, true, false, false, false, false] (v := undef) (a' := ?_) rfl rfl rfl (by kernel_rfl) (by kernel_rfl) (by kernel_rfl) (fun _ _ _ _ h => h) (Or.inr ⟨by rfl, rfl⟩) hHeld ?_ ?_
  rotate_left
  · simp only [Act.put, List.setIfInBounds_toArray, List.set_cons_zero, List.set_cons_succ]
    rfl
  refine take_n 14 (some 18) #[true, true, true, true, true, true, true, true, true, true, true, true, true, true, true, false, false, false] (v := undef) (a' := ?_) rfl rfl rfl (by kernel_rfl) (by kernel_rfl) (by kernel_rfl) (fun _ _ _ _ h => h) (Or.inr ⟨by rfl, rfl⟩) hHeld ?_ ?_
  rotate_left
  · simp only [Act.put, List.setIfInBounds_toArray, List.set_cons_zero, List.set_cons_succ]
    rfl
  refine take_n 15 (some 19) #[true, true, true, true, true, true, true, true, true, true, true, true, true, true, true, true, false, false] (v := undef) (a' := ?_) rfl rfl rfl (by kernel_rfl) (by kernel_rfl) (by kernel_rfl) (fun _ _ _ _ h => h) (Or.inr ⟨by rfl, rfl⟩) hHeld ?_ ?_
  rotate_left
  · simp only [Act.put, List.setIfInBounds_toArray, List.set_cons_zero, List.set_cons_succ]
    rfl
  refine take_n 16 (some 20) #[true, true, true, true, true, true, true, true, true, true, true, true, true, true, true, true, true, false] (v := ?_) (a' := ?_) rfl rfl rfl (by kernel_rfl) (by kernel_rfl) (by kernel_rfl) (fun _ _ _ _ h => h) (Or.inl ⟨by rfl, ?_⟩) hHeld ?_ ?_
  rotate_left 2
  · intro w hSw
    (try dsimp only at hSw)
    go_simp
    all_goals (with_reducible rfl)
  · simp only [Act.put, List.setIfInBounds_toArray, List.set_cons_zero, List.set_cons_succ]
    rfl
  refine take_n 17 (some 3) #[true, true, true, true, true, true, true, true, true, true, true, true, true, true, true, true, true, true] (v := ?_) (a' := ?_) rfl rfl rfl (by kernel_rfl) (by kernel_rfl) (by kernel_rfl) (fun _ _ _ _ h => h) (Or.inl ⟨by rfl, ?_⟩) hHeld ?_ ?_
  rotate_left 2
  · intro w hSw
    (try dsimp only at hSw)
    go_simp
    all_goals (with_reducible rfl)
  · simp only [Act.put, List.setIfInBounds_toArray, List.set_cons_zero, List.set_cons_succ]
    rfl
  refine wpAnyH_done (by kernel_rfl) ?_ _
  go_wp2_with fail
  go_ret
  exact ⟨rfl, below_drewN (Below.refl _ w) 1⟩
set_option maxHeartbeats 16000000 in
set_option maxRecDepth 100000 in
theorem cargo_add (cb : Nat) (w : World) (hc : CargoIn w cb (.slice none 0 0)) (hBw : B ≤ w.heap.size) : Calls Tryz.prog 236 #[.pointer (some ⟨cb, 0, none⟩), .agg #[.int .i64 0, .string xB]] w fun e w' => e = .returned (.tuple #[]) ∧ Has B w' cb 1 ∧ Fr (fun b => b = cb) w w' := by
  have HBw := Lib.hid hBw
  clear hBw
  have hcz := blk_lt hc
  have hc0 := blk_cell hc 0
  have hcf := blk_frozen hc 0
  simp only [List.getElem?_toArray, List.getElem?_cons_zero] at hc0
  have HC := Lib.hid hc
  have hxe : xB.toList.isEmpty = false := by rw [Lib.toList_data]; decide
  obtain ⟨i0, hi0, hz0, hz1, hz2⟩ := info_parts infoPiece
  obtain ⟨x, hx⟩ : ∃ x, x = xB := ⟨_, rfl⟩
  rw [← hx] at hxe ⊢
  have HX := Lib.hid hx
  clear hc hx
  go_enter Tryz.func236, Tryz.ntmps236
  go_wp2_with fail
  obtain ⟨w1, hw1⟩ : ∃ x_1, x_1 = ((w.alloc (.cells #[.pointer (some ⟨cb, 0, none⟩)] 239)).alloc (.cells #[.int .i64 0, .string x] 296)).alloc (.cells #[.int .i64 (-1)] 3) := ⟨_, rfl⟩
  rw [← hw1]
  have hb1 : Below w.heap.size w w1 := by rw [hw1]; exact below_alloc (below_alloc (below_alloc (Below.refl _ w) _ (Nat.le_refl _)) _ (Nat.le_refl _)) _ (Nat.le_refl _)
  have e0 : w1.cell? ⟨w.heap.size, 0, none⟩ = some (.pointer (some ⟨cb, 0, none⟩)) := by rw [hw1]; go_simp
  have e1 : w1.cell? ⟨w.heap.size + 1, 0, none⟩ = some (.int .i64 0) := by rw [hw1]; go_simp
  have e2 : w1.cell? ⟨w.heap.size + 1, 1, none⟩ = some (.string x) := by rw [hw1]; go_simp
  have e3 : w1.cell? ⟨w.heap.size + 1 + 1, 0, none⟩ = some (.int .i64 (-1)) := by rw [hw1]; go_simp
  have e4 : w1.heap.size = w.heap.size + 3 := by rw [hw1]; simp only [World.size_alloc]
  clear hw1
  refine (joined_no _ _ _ _ e3).mono ?_
  rintro e w2 ⟨rfl, hb2⟩
  have s2 := hb2.size
  have f0 := (hb2.cell (p := ⟨w.heap.size, 0, none⟩) (by show w.heap.size < _; omega)).trans e0
  have f1 := (hb2.cell (p := ⟨w.heap.size + 1, 0, none⟩) (by show w.heap.size + 1 < _; omega)).trans e1
  have f2 := (hb2.cell (p := ⟨w.heap.size + 1, 1, none⟩) (by show w.heap.size + 1 < _; omega)).trans e2
  have hb12 := below_step hb1 hb2
  have fc := (hb12.cell (p := ⟨cb, 0, none⟩) hcz).trans hc0
  have ff := (World.frozen?_of_block (a := ⟨cb, 0, none⟩) (hb12.block cb hcz)).trans hcf
  have HB2 := Lib.hid hb12
  have hcz2 : cb < w2.heap.size := by omega
  have hlt2 : w.heap.size + 1 < w2.heap.size := by omega
  clear hb1 hb2 hb12 e0 e1 e2 e3
  go_wp2_with fail
  refine start_n (S := fun W => W.cell? ⟨w.heap.size, 0, none⟩ = some (.pointer (some ⟨cb, 0, none⟩)) ∧ W.cell? ⟨w.heap.size + 1, 0, none⟩ = some (.int .i64 0) ∧ W.cell? ⟨w.heap.size + 1, 1, none⟩ = some (.string x)) 11 #[false, false, false, false, false, false, false, false, false, false, false] (by kernel_rfl) rfl rfl ?_ (fun hHeld => ?_)
  · (try dsimp only)
    exact ⟨f0, f1, f2⟩
  refine take_n 0 (some 13) #[true, false, false, false, false, false, false, false, false, false, false] (v := ?_) (a' := ?_) rfl rfl rfl (by kernel_rfl) (by kernel_rfl) (by kernel_rfl) (fun _ _ _ _ h => h) (Or.inl ⟨by rfl, ?_⟩) hHeld ?_ ?_
  rotate_left 2
  · intro w hSw
    (try dsimp only at hSw)
    go_simp
    all_goals (with_reducible rfl)
  · simp only [Act.put, List.setIfInBounds_toArray, List.set_cons_zero, List.set_cons_succ]
    rfl
  refine take_n 1 (some 14) #[true, true, false, false, false, false, false, false, false, false, false] (v := ?_) (a' := ?_) rfl rfl rfl (by kernel_rfl) (by kernel_rfl) (by kernel_rfl) (fun _ _ _ _ h => h) (Or.inl ⟨by rfl, ?_⟩) hHeld ?_ ?_
  rotate_left 2
  · intro w hSw
    (try dsimp only at hSw)
    go_simp
    all_goals (with_reducible rfl)
  · simp only [Act.put, List.setIfInBounds_toArray, List.set_cons_zero, List.set_cons_succ]
    rfl
  refine take_n 2 (some 15) #[true, true, true, false, false, false, false, false, false, false, false] (v := ?_) (a' := ?_) rfl rfl rfl (by kernel_rfl) (by kernel_rfl) (by kernel_rfl) (fun _ _ _ _ h => h) (Or.inl ⟨by rfl, ?_⟩) hHeld ?_ ?_
  rotate_left 2
  · intro w hSw
    (try dsimp only at hSw)
    go_simp
    all_goals (with_reducible rfl)
  · simp only [Act.put, List.setIfInBounds_toArray, List.set_cons_zero, List.set_cons_succ]
    rfl
  refine take_n 3 (some 16) #[true, true, true, true, false, false, false, false, false, false, false] (v := ?_) (a' := ?_) rfl rfl rfl (by kernel_rfl) (by kernel_rfl) (by kernel_rfl) (fun _ _ _ _ h => h) (Or.inl ⟨by rfl, ?_⟩) hHeld ?_ ?_
  rotate_left 2
  · intro w hSw
    (try dsimp only at hSw)
    go_simp
    all_goals (with_reducible rfl)
  · simp only [Act.put, List.setIfInBounds_toArray, List.set_cons_zero, List.set_cons_succ]
    rfl
  refine take_n 5 (some 18) #[true, true, true, true, false, true, false, false, false, false, false] (v := ?_) (a' := ?_) rfl rfl rfl (by kernel_rfl) (by kernel_rfl) (by kernel_rfl) (fun _ _ _ _ h => h) (Or.inl ⟨by rfl, ?_⟩) hHeld ?_ ?_
  rotate_left 2
  · intro w hSw
    (try dsimp only at hSw)
    go_simp
    all_goals (with_reducible rfl)
  · simp only [Act.put, List.setIfInBounds_toArray, List.set_cons_zero, List.set_cons_succ]
    rfl
  refine two_n 4 6 #[true, true, true, true, true, true, false, false, false, false, false] #[true, true, true, true, false, true, true, false, false, false, false] rfl rfl rfl rfl (by kernel_rfl) (fun K hK => ?_) (fun K hK => ?_)
  · go_simp
    refine hK.out _ ?_ _ ?_ ?_ (fun hHeld => ?_)
    rotate_left
    · (try simp only [Act.put, List.setIfInBounds_toArray, List.set_cons_zero, List.set_cons_succ])
      rfl
    · (try dsimp only)
      go_keep
    clear hK K
    refine one_n 6 #[true, true, true, true, true, true, true, false, false, false, false] rfl rfl (by kernel_rfl) (fun K hK => ?_)
    go_simp
    refine hK.out _ ?_ _ ?_ ?_ (fun hHeld => ?_)
    rotate_left
    · (try simp only [Act.put, List.setIfInBounds_toArray, List.set_cons_zero, List.set_cons_succ])
      rfl
    · (try dsimp only)
      go_keep
    clear hK K
    refine one_n 7 #[true, true, true, true, true, true, true, true, false, false, false] rfl rfl (by kernel_rfl) (fun K hK => ?_)
    rw [if_pos (by rfl)]
    refine wp_append_own _ (.tmp 17) (.tmp 19) 285 rfl w.heap.size 296 i0 _ 2 24 Tryz.underlying285 hi0 hz0 hz1 hz2 rfl (by omega) _ 0 [] rfl (World.ownsRow_nil _ _ _ _) ⟨w2.heap.size, 0, none⟩ 1 1 [.int .i64 0, .string x] rfl rfl ?qc2 ?qc3 ?qc4 ?qc5 ?qc6 ?_
    case qc2 =>
      intro j u hj
      rw [Addr.add_lit, Nat.zero_add]
      exact (blk_cell (heap_alloc_new w2.drew _) j).trans (by rw [← hj]; simp)
    case qc3 => intro u hu; simp at hu; rcases hu with rfl | rfl <;> rfl
    case qc4 => simp only [maxLen]; omega
    case qc5 => omega
    case qc6 => simp; omega
    intro v5 w5 hown5 hgrow5 hnil5
    have hblk : ∀ i, i < w2.heap.size → w5.heap[i]? = w2.heap[i]? := fun i hi => (hgrow5.block i (by simp; omega) (fun e => by cases e)).trans (Below.heap_alloc w2.drew _ i hi)
    have ff5 := (World.frozen?_of_block (a := ⟨cb, 0, none⟩) (hblk cb hcz2)).trans ff
    obtain ⟨g5, c5, rfl, hBg5, hg5, hpc5, h1c5⟩ := row_piece hown5
    have hne5 : g5 ≠ cb := by omega
    have fc5 := (World.cell?_of_block (a := ⟨cb, 0, none⟩) (hblk cb hcz2)).trans fc
    have HBK := Lib.hid hblk
    clear hblk
    have G5 := Lib.hid hgrow5
    have O5 := Lib.hid hown5
    have s5 := hgrow5.size
    clear hgrow5 hown5 hnil5
    refine hK.out _ ?_ _ ?_ ?_ (fun hHeld => ?_)
    rotate_left
    · (try simp only [Act.put, List.setIfInBounds_toArray, List.set_cons_zero, List.set_cons_succ])
      rfl
    · (try dsimp only)
      exact ⟨(World.cell?_of_block (HBK.out w.heap.size (by omega))).trans f0, (World.cell?_of_block (HBK.out (w.heap.size + 1) hlt2)).trans f1, (World.cell?_of_block (HBK.out (w.heap.size + 1) hlt2)).trans f2⟩
    clear hK K
    refine take_n 8 (some 21) #[true, true, true, true, true, true, true, true, true, false, false] (v := ?_) (a' := ?_) rfl rfl rfl (by kernel_rfl) (by kernel_rfl) (by kernel_rfl) (fun _ _ _ _ h => h) (Or.inl ⟨by rfl, ?_⟩) hHeld ?_ ?_
    rotate_left 2
    · intro w hSw
      (try dsimp only at hSw)
      go_simp
      all_goals (with_reducible rfl)
    · simp only [Act.put, List.setIfInBounds_toArray, List.set_cons_zero, List.set_cons_succ]
      rfl
    refine take_n 9 (some 22) #[true, true, true, true, true, true, true, true, true, true, false] (v := ?_) (a' := ?_) rfl rfl rfl (by kernel_rfl) (by kernel_rfl) (by kernel_rfl) (fun _ _ _ _ h => h) (Or.inl ⟨by rfl, ?_⟩) hHeld ?_ ?_
    rotate_left 2
    · intro w hSw
      (try dsimp only at hSw)
      go_simp
      all_goals (with_reducible rfl)
    · simp only [Act.put, List.setIfInBounds_toArray, List.set_cons_zero, List.set_cons_succ]
      rfl
    refine one_n 10 #[true, true, true, true, true, true, true, true, true, true, true] rfl rfl (by kernel_rfl) (fun K hK => ?_)
    go_simp
    refine hK.out _ ?_ _ ?_ ?_ (fun hHeld => ?_)
    rotate_left
    · (try simp only [Act.put, List.setIfInBounds_toArray, List.set_cons_zero, List.set_cons_succ])
      rfl
    · (try dsimp only)
      exact ⟨(World.cell?_setCell_other _ _ _ _ (by intro e; injection e; omega)).trans hHeld.1, (World.cell?_setCell_other _ _ _ _ (by intro e; injection e; omega)).trans hHeld.2.1, (World.cell?_setCell_other _ _ _ _ (by intro e; injection e; omega)).trans hHeld.2.2⟩
    clear hK K
    refine wpAnyH_done (by kernel_rfl) ?_ _
    go_wp2_with fail
    refine bodyPost_end (results_none rfl _ _ _) rfl ?_
    exact ⟨rfl, .one g5 c5 (blk_set ((HBK.out cb hcz2).trans ((HB2.out.block cb hcz).trans HC.out)) 0 _) (HX.out ▸ hpc5.set hne5 _) h1c5 (Nat.le_trans HBw.out hBg5), (((Fr.of_below HB2.out).then_block s5 HBK.out G5.out).set (X := fun b => b = cb) (p := ⟨cb, 0, none⟩) (.inl rfl) _)⟩
  · go_simp
    refine hK.out _ ?_ _ ?_ ?_ (fun hHeld => ?_)
    rotate_left
    · (try simp only [Act.put, List.setIfInBounds_toArray, List.set_cons_zero, List.set_cons_succ])
      rfl
    · (try dsimp only)
      go_keep
    clear hK K
    refine one_n 4 #[true, true, true, true, true, true, true, false, false, false, false] rfl rfl (by kernel_rfl) (fun K hK => ?_)
    go_simp
    refine hK.out _ ?_ _ ?_ ?_ (fun hHeld => ?_)
    rotate_left
    · (try simp only [Act.put, List.setIfInBounds_toArray, List.set_cons_zero, List.set_cons_succ])
      rfl
    · (try dsimp only)
      go_keep
    clear hK K
    refine one_n 7 #[true, true, true, true, true, true, true, true, false, false, false] rfl rfl (by kernel_rfl) (fun K hK => ?_)
    rw [if_pos (by rfl)]
    refine wp_append_own _ (.tmp 17) (.tmp 19) 285 rfl w.heap.size 296 i0 _ 2 24 Tryz.underlying285 hi0 hz0 hz1 hz2 rfl (by omega) _ 0 [] rfl (World.ownsRow_nil _ _ _ _) ⟨w2.heap.size, 0, none⟩ 1 1 [.int .i64 0, .string x] rfl rfl ?qc2 ?qc3 ?qc4 ?qc5 ?qc6 ?_
    case qc2 =>
      intro j u hj
      rw [Addr.add_lit, Nat.zero_add]
      exact (blk_cell (heap_alloc_new w2.drew _) j).trans (by rw [← hj]; simp)
    case qc3 => intro u hu; simp at hu; rcases hu with rfl | rfl <;> rfl
    case qc4 => simp only [maxLen]; omega
    case qc5 => omega
    case qc6 => simp; omega
    intro v5 w5 hown5 hgrow5 hnil5
    have hblk : ∀ i, i < w2.heap.size → w5.heap[i]? = w2.heap[i]? := fun i hi => (hgrow5.block i (by simp; omega) (fun e => by cases e)).trans (Below.heap_alloc w2.drew _ i hi)
    have ff5 := (World.frozen?_of_block (a := ⟨cb, 0, none⟩) (hblk cb hcz2)).trans ff
    obtain ⟨g5, c5, rfl, hBg5, hg5, hpc5, h1c5⟩ := row_piece hown5
    have hne5 : g5 ≠ cb := by omega
    have fc5 := (World.cell?_of_block (a := ⟨cb, 0, none⟩) (hblk cb hcz2)).trans fc
    have HBK := Lib.hid hblk
    clear hblk
    have G5 := Lib.hid hgrow5
    have O5 := Lib.hid hown5
    have s5 := hgrow5.size
    clear hgrow5 hown5 hnil5
    refine hK.out _ ?_ _ ?_ ?_ (fun hHeld => ?_)
    rotate_left
    · (try simp only [Act.put, List.setIfInBounds_toArray, List.set_cons_zero, List.set_cons_succ])
      rfl
    · (try dsimp only)
      exact ⟨(World.cell?_of_block (HBK.out w.heap.size (by omega))).trans f0, (World.cell?_of_block (HBK.out (w.heap.size + 1) hlt2)).trans f1, (World.cell?_of_block (HBK.out (w.heap.size + 1) hlt2)).trans f2⟩
    clear hK K
    refine take_n 8 (some 21) #[true, true, true, true, true, true, true, true, true, false, false] (v := ?_) (a' := ?_) rfl rfl rfl (by kernel_rfl) (by kernel_rfl) (by kernel_rfl) (fun _ _ _ _ h => h) (Or.inl ⟨by rfl, ?_⟩) hHeld ?_ ?_
    rotate_left 2
    · intro w hSw
      (try dsimp only at hSw)
      go_simp
      all_goals (with_reducible rfl)
    · simp only [Act.put, List.setIfInBounds_toArray, List.set_cons_zero, List.set_cons_succ]
      rfl
    refine take_n 9 (some 22) #[true, true, true, true, true, true, true, true, true, true, false] (v := ?_) (a' := ?_) rfl rfl rfl (by kernel_rfl) (by kernel_rfl) (by kernel_rfl) (fun _ _ _ _ h => h) (Or.inl ⟨by rfl, ?_⟩) hHeld ?_ ?_
    rotate_left 2
    · intro w hSw
      (try dsimp only at hSw)
      go_simp
      all_goals (with_reducible rfl)
    · simp only [Act.put, List.setIfInBounds_toArray, List.set_cons_zero, List.set_cons_succ]
      rfl
    refine one_n 10 #[true, true, true, true, true, true, true, true, true, true, true] rfl rfl (by kernel_rfl) (fun K hK => ?_)
    go_simp
    refine hK.out _ ?_ _ ?_ ?_ (fun hHeld => ?_)
    rotate_left
    · (try simp only [Act.put, List.setIfInBounds_toArray, List.set_cons_zero, List.set_cons_succ])
      rfl
    · (try dsimp only)
      exact ⟨(World.cell?_setCell_other _ _ _ _ (by intro e; injection e; omega)).trans hHeld.1, (World.cell?_setCell_other _ _ _ _ (by intro e; injection e; omega)).trans hHeld.2.1, (World.cell?_setCell_other _ _ _ _ (by intro e; injection e; omega)).trans hHeld.2.2⟩
    clear hK K
    refine wpAnyH_done (by kernel_rfl) ?_ _
    go_wp2_with fail
    refine bodyPost_end (results_none rfl _ _ _) rfl ?_
    exact ⟨rfl, .one g5 c5 (blk_set ((HBK.out cb hcz2).trans ((HB2.out.block cb hcz).trans HC.out)) 0 _) (HX.out ▸ hpc5.set hne5 _) h1c5 (Nat.le_trans HBw.out hBg5), (((Fr.of_below HB2.out).then_block s5 HBK.out G5.out).set (X := fun b => b = cb) (p := ⟨cb, 0, none⟩) (.inl rfl) _)⟩
/-- One byte that comes in: "x". -/
def ByteIn (w : World) (g o : Nat) : Prop := w.cell? ⟨g, o, none⟩ = some (.int .u8 120)
theorem conv_x (w : World) (g o c : Nat) (h : ByteIn w g o) : (convert 48 9 (.slice (some ⟨g, o, none⟩) 1 c)).run Tryz.prog w = .ok (.string xB) w :=
  run_convert_bytes_back (P := Tryz.prog) w 48 9 5 ⟨g, o, none⟩ c [120] Tryz.underlying48 Tryz.underlying5 Tryz.underlying9 (fun j hj => by
    rw [Addr.add_lit]
    have : j = 0 := by simp at hj; omega
    subst this
    exact h)
set_option maxHeartbeats 16000000 in
set_option maxRecDepth 100000 in
theorem cargo_put (cb g o c : Nat) (w : World) (hc : CargoIn w cb (.slice none 0 0)) (hb : ByteIn w g o) (hgz : g < w.heap.size) (hBw : B ≤ w.heap.size) : Calls Tryz.prog 190 #[.pointer (some ⟨cb, 0, none⟩), .int .i64 0, .slice (some ⟨g, o, none⟩) 1 c] w fun e w' => e = .returned (.int .i64 0) ∧ Has B w' cb 1 ∧ Fr (fun b => b = cb) w w' := by
  have HBw := Lib.hid hBw
  clear hBw
  have hcz := blk_lt hc
  have hc1 := blk_cell hc 1
  have hcf := blk_frozen hc 1
  simp only [List.getElem?_toArray, List.getElem?_cons_zero, List.getElem?_cons_succ] at hc1
  have HC := Lib.hid hc
  have HBY := Lib.hid hb
  clear hc hb
  go_enter Tryz.func190, Tryz.ntmps190
  go_wp2_with fail
  refine start_n (S := fun W => W.cell? ⟨cb, 1, none⟩ = some (.int .i64 0)) 8 #[false, false, false, false, false, false, false, false] (by kernel_rfl) rfl rfl ?_ (fun hHeld => ?_)
  · (try dsimp only)
    exact hc1
  refine take_n 0 (some 7) #[true, false, false, false, false, false, false, false] (v := ?_) (a' := ?_) rfl rfl rfl (by kernel_rfl) (by kernel_rfl) (by kernel_rfl) (fun _ _ _ _ h => h) (Or.inl ⟨by rfl, ?_⟩) hHeld ?_ ?_
  rotate_left 2
  · intro w hSw
    (try dsimp only at hSw)
    go_simp
    all_goals (with_reducible rfl)
  · simp only [Act.put, List.setIfInBounds_toArray, List.set_cons_zero, List.set_cons_succ]
    rfl
  refine take_n 2 (some 9) #[true, false, true, false, false, false, false, false] (v := ?_) (a' := ?_) rfl rfl rfl (by kernel_rfl) (by kernel_rfl) (by kernel_rfl) (fun _ _ _ _ h => h) (Or.inl ⟨by rfl, ?_⟩) hHeld ?_ ?_
  rotate_left 2
  · intro w hSw
    (try dsimp only at hSw)
    go_simp
    all_goals (with_reducible rfl)
  · simp only [Act.put, List.setIfInBounds_toArray, List.set_cons_zero, List.set_cons_succ]
    rfl
  refine take_n 3 (some 10) #[true, false, true, true, false, false, false, false] (v := ?_) (a' := ?_) rfl rfl rfl (by kernel_rfl) (by kernel_rfl) (by kernel_rfl) (fun _ _ _ _ h => h) (Or.inl ⟨by rfl, ?_⟩) hHeld ?_ ?_
  rotate_left 2
  · intro w hSw
    (try dsimp only at hSw)
    go_simp
    all_goals (with_reducible rfl)
  · simp only [Act.put, List.setIfInBounds_toArray, List.set_cons_zero, List.set_cons_succ]
    rfl
  refine take_n 4 (some 11) #[true, false, true, true, true, false, false, false] (v := ?_) (a' := ?_) rfl rfl rfl (by kernel_rfl) (by kernel_rfl) (by kernel_rfl) (fun _ _ _ _ h => h) (Or.inl ⟨by rfl, ?_⟩) hHeld ?_ ?_
  rotate_left 2
  · intro w hSw
    (try dsimp only at hSw)
    go_simp
    all_goals (with_reducible rfl)
  · simp only [Act.put, List.setIfInBounds_toArray, List.set_cons_zero, List.set_cons_succ]
    rfl
  refine take_n 5 (some 12) #[true, false, true, true, true, true, false, false] (v := ?_) (a' := ?_) rfl rfl rfl (by kernel_rfl) (by kernel_rfl) (by kernel_rfl) (fun _ _ _ _ h => h) (Or.inl ⟨by rfl, ?_⟩) hHeld ?_ ?_
  rotate_left 2
  · intro w hSw
    (try dsimp only at hSw)
    go_simp
    all_goals (with_reducible rfl)
  · simp only [Act.put, List.setIfInBounds_toArray, List.set_cons_zero, List.set_cons_succ]
    rfl
  refine one_n 1 #[true, true, true, true, true, true, false, false] rfl rfl (by kernel_rfl) (fun K hK => ?_)
  go_simp
  refine (tick_add0 _).mono ?_
  rintro e w1 ⟨rfl, hb1⟩
  have HB1 := Lib.hid (below_drew hb1)
  clear hb1
  refine hK.out _ ?_ _ ?_ ?_ (fun hHeld => ?_)
  rotate_left
  · (try simp only [Act.put, List.setIfInBounds_toArray, List.set_cons_zero, List.set_cons_succ])
    rfl
  · (try dsimp only)
    exact (HB1.out.cell (p := ⟨cb, 1, none⟩) hcz).trans hc1
  clear hK K
  refine take_n 6 (some 13) #[true, true, true, true, true, true, true, false] (v := ?_) (a' := ?_) rfl rfl rfl (by kernel_rfl) (by kernel_rfl) (by kernel_rfl) (fun _ _ _ _ h => h) (Or.inl ⟨by rfl, ?_⟩) hHeld ?_ ?_
  rotate_left 2
  · intro w hSw
    (try dsimp only at hSw)
    go_simp
    all_goals (with_reducible rfl)
  · simp only [Act.put, List.setIfInBounds_toArray, List.set_cons_zero, List.set_cons_succ]
    rfl
  refine take_n 7 (some 1) #[true, true, true, true, true, true, true, true] (v := ?_) (a' := ?_) rfl rfl rfl (by kernel_rfl) (by kernel_rfl) (by kernel_rfl) (fun _ _ _ _ h => h) (Or.inl ⟨by rfl, ?_⟩) hHeld ?_ ?_
  rotate_left 2
  · intro w hSw
    (try dsimp only at hSw)
    go_simp
    all_goals (with_reducible rfl)
  · simp only [Act.put, List.setIfInBounds_toArray, List.set_cons_zero, List.set_cons_succ]
    rfl
  refine wpAnyH_done (by kernel_rfl) ?_ _
  have hc1' := (HB1.out.cell (p := ⟨cb, 1, none⟩) hcz).trans hc1
  have hcf' := (World.frozen?_of_block (a := ⟨cb, 1, none⟩) (HB1.out.block cb hcz)).trans hcf
  have hsid := setCell_id hc1'
  have hcv := conv_x w1 g o c ((HB1.out.cell (p := ⟨g, o, none⟩) hgz).trans HBY.out)
  have hca := cargo_add (B := B) cb w1 ((HB1.out.block cb hcz).trans HC.out) (Nat.le_trans HBw.out HB1.out.size)
  have HCA := Lib.hid hca
  clear hca
  go_wp2_with fail
  refine HCA.out.mono ?_
  rintro e w2 ⟨rfl, hh2, hf2⟩
  have H2 := Lib.hid (show Has B w2 cb 1 ∧ Fr (fun b => b = cb) w w2 from ⟨hh2, (Fr.of_below (X := fun b => b = cb) HB1.out).trans hf2 (fun _ e => e) (fun _ _ e => e)⟩)
  clear hh2 hf2
  go_wp2_with fail
  go_ret
  exact ⟨rfl, H2.out⟩
theorem xB_size : xB.size = 1 := rfl
set_option maxHeartbeats 4000000 in
set_option maxRecDepth 100000 in
theorem cargo_len (cb k : Nat) (w : World) (h : Has B w cb k) : Calls Tryz.prog 234 #[.pointer (some ⟨cb, 0, none⟩)] w fun e w' => e = .returned (.int .i64 k) ∧ Below w.heap.size w w' := by
  rcases h with ⟨a, c, h⟩ | ⟨g, c, h, ⟨cur, hp, p0, p1⟩, hc1, hBg⟩
  · have hc0 := blk_cell h 0
    simp only [List.getElem?_toArray, List.getElem?_cons_zero] at hc0
    go_enter Tryz.func234, Tryz.ntmps234
    go_wp2_with fail
    refine wp_loop_rounds 1 ?_
    rw [rounds_succ]
    go_wp2_with fail
    go_ret
    exact ⟨rfl, Below.refl _ w⟩
  · have hc0 := blk_cell h 0
    simp only [List.getElem?_toArray, List.getElem?_cons_zero] at hc0
    have q0 := (blk_cell hp 0).trans p0
    have q1 := (blk_cell hp 1).trans p1
    have hxs := xB_size
    obtain ⟨x, hx⟩ : ∃ x, x = xB := ⟨_, rfl⟩
    rw [← hx] at q1 hxs
    clear hx p1
    go_enter Tryz.func234, Tryz.ntmps234
    go_wp2_with fail
    refine wp_loop_rounds 2 ?_
    rw [rounds_succ]
    go_wp2_with fail
    rw [rounds_succ]
    go_wp2_with fail
    go_ret
    exact ⟨rfl, below_alloc (Below.refl _ w) _ (Nat.le_refl _)⟩
set_option maxHeartbeats 4000000 in
set_option maxRecDepth 100000 in
theorem cargo_ready (cb k : Nat) (w : World) (h : Has B w cb k) : Calls Tryz.prog 191 #[.pointer (some ⟨cb, 0, none⟩), .int .i64 0] w fun e w' => e = .returned (.int .i64 k) ∧ Below w.heap.size w w' := by
  rcases h with ⟨a, c, h⟩ | ⟨g, c, h, ⟨cur, hp, p0, p1⟩, hc1, hBg⟩
  · have hc0 := blk_cell h 0
    simp only [List.getElem?_toArray, List.getElem?_cons_zero] at hc0
    go_enter Tryz.func191, Tryz.ntmps191
    go_wp2_with fail
    refine wp_loop_rounds 1 ?_
    rw [rounds_succ]
    go_wp2_with fail
    go_ret
    exact ⟨rfl, Below.refl _ w⟩
  · have hc0 := blk_cell h 0
    simp only [List.getElem?_toArray, List.getElem?_cons_zero] at hc0
    have q0 := (blk_cell hp 0).trans p0
    have q1 := (blk_cell hp 1).trans p1
    have hxs := xB_size
    obtain ⟨x, hx⟩ : ∃ x, x = xB := ⟨_, rfl⟩
    rw [← hx] at q1 hxs
    clear hx p1
    go_enter Tryz.func191, Tryz.ntmps191
    go_wp2_with fail
    refine wp_loop_rounds 2 ?_
    rw [rounds_succ]
    go_wp2_with fail
    rw [rounds_succ]
    go_wp2_with fail
    go_ret
    exact ⟨rfl, below_alloc (Below.refl _ w) _ (Nat.le_refl _)⟩
set_option maxHeartbeats 4000000 in
set_option maxRecDepth 100000 in
theorem cargo_take0 (cb : Nat) (w : World) (h : Has B w cb 0) : Calls Tryz.prog 192 #[.pointer (some ⟨cb, 0, none⟩), .int .i64 0, .int .i64 0] w fun e w' => e = .returned (.slice none 0 0) ∧ Below w.heap.size w w' := by
  have HR := Lib.hid (cargo_ready cb 0 w h)
  go_enter Tryz.func192, Tryz.ntmps192
  go_wp2_with fail
  refine HR.out.mono ?_
  rintro e w1 ⟨rfl, hb1⟩
  go_wp2_with fail
  refine wp_loop_rounds 1 ?_
  rw [rounds_succ]
  go_wp2_with fail
  go_ret
  exact ⟨rfl, hb1⟩
theorem CargoIn.put {w : World} {cb : Nat} {u : Value} (h : CargoIn w cb u) (u' : Value) : CargoIn (w.setCell ⟨cb, 0, none⟩ u') cb u' := blk_set h 0 u'
def isP (B : Nat) (w : World) (b : Nat) : Prop := B ≤ b ∧ ∃ cur : Array Value, w.heap[b]? = some (.cells cur 296 (0, 0))
set_option maxHeartbeats 16000000 in
set_option maxRecDepth 100000 in
theorem cargo_take1 (cb : Nat) (w : World) (h : Has B w cb 1) : Calls Tryz.prog 192 #[.pointer (some ⟨cb, 0, none⟩), .int .i64 0, .int .i64 1] w fun e w' => ∃ g c, e = .returned (.slice (some ⟨g, 0, none⟩) 1 c) ∧ w.heap.size ≤ g ∧ g < w'.heap.size ∧ ByteIn w' g 0 ∧ Has B w' cb 0 ∧ Fr (fun b => b = cb ∨ isP B w b) w w' := by
  have HR := Lib.hid (cargo_ready cb 1 w h)
  obtain ⟨i8, h8, z8, y8, x8⟩ := info_parts infoU8
  rcases h with _ | ⟨g, c, h, ⟨cur, hp, p0, p1⟩, hc1, hBg⟩
  have HC := Lib.hid h
  have HP := Lib.hid hp
  have HBG := Lib.hid hBg
  clear hBg
  have hcz := blk_lt h
  have hgz := blk_lt hp
  have hne : cb ≠ g := by
    rintro rfl
    unfold CargoIn at h
    rw [h] at hp
    injection hp with h1
    injection h1 with _ h2
    exact absurd h2 (by decide)
  have hxs := xB_size
  have hxe : (xB.extract 0 1) = xB := by decide
  obtain ⟨x, hx⟩ : ∃ x, x = xB := ⟨_, rfl⟩
  rw [← hx] at p1 hxs hxe
  have HX := Lib.hid hx
  clear hx h hp
  go_enter Tryz.func192, Tryz.ntmps192
  go_wp2_with fail
  refine HR.out.mono ?_
  rintro e w1 ⟨rfl, hb1⟩
  have hcw := (hb1.block cb hcz).trans HC.out
  have hpw := (hb1.block g hgz).trans HP.out
  have k0 := blk_cell hcw 0
  have kf := blk_frozen hcw 0
  have q1 := (blk_cell hpw 1).trans p1
  have qf := blk_frozen hpw 1
  simp only [List.getElem?_toArray, List.getElem?_cons_zero] at k0
  have HB1 := Lib.hid hb1
  clear hb1 hcw hpw
  go_wp2_with fail
  refine wp_loop_rounds 2 ?_
  rw [rounds_succ]
  go_wp2_with (at_builtin; refine Lib.wpList_append_own_string _ rfl (.tmp 31) (.tmp 37) 48 9 rfl w.heap.size 5 i8 Tryz.underlying48 Tryz.underlying9 h8 z8 y8 x8 _ 0 [] rfl (World.ownsRow_nil _ _ _ _) x rfl ?qc4 ?qc5 ?qc6 ?_)
  case qc4 => simp only [maxLen]; omega
  case qc5 => omega
  case qc6 => exact HB1.out.size
  intro v5 w5 hown5 hgrow5 hnil5

  obtain ⟨g5, c5, rfl, hBg5, hg5, hc5, hcells5⟩ := row_some hown5 (by omega)
  have hby := hcells5 0 (.int .u8 120) (by rw [HX.out]; rfl)
  have hblk : ∀ i, i < w1.heap.size → w5.heap[i]? = w1.heap[i]? := fun i hi => hgrow5.block i hi (fun e => by cases e)
  have hgz1 : g < w1.heap.size := Nat.lt_of_lt_of_le hgz HB1.out.size
  have hcz1 : cb < w1.heap.size := Nat.lt_of_lt_of_le hcz HB1.out.size
  have k5 := (World.cell?_of_block (a := ⟨cb, 0, none⟩) (hblk cb hcz1)).trans k0
  have kf5 := (World.frozen?_of_block (a := ⟨cb, 0, none⟩) (hblk cb hcz1)).trans kf
  have q5 := (World.cell?_of_block (a := ⟨g, 1, none⟩) (hblk g hgz1)).trans q1
  have qf5 := (World.frozen?_of_block (a := ⟨g, 1, none⟩) (hblk g hgz1)).trans qf
  have G5 := Lib.hid hgrow5
  have HBY := Lib.hid hby
  clear hown5 hgrow5 hnil5 hcells5 hby hblk
  go_wp2_with fail
  all_goals
    rw [rounds_succ]
    go_wp2_with fail
    go_ret
    refine ⟨g5, c5, rfl, hBg5, by rw [set_size, set_size]; exact hg5, ?_, .none _ _ (CargoIn.put (u := .slice (some ⟨g, 0, none⟩) 1 c) ?_ _), ?_⟩
    · unfold ByteIn
      rw [World.cell?_setCell_other _ _ _ _ (by intro e; injection e; omega), World.cell?_setCell_other _ _ _ _ (by intro e; injection e; omega)]
      exact HBY.out
    · unfold CargoIn
      rw [heap_setCell_ne _ _ _ _ (by show cb ≠ g; exact hne)]
      exact (G5.out.block cb hcz1 (fun e => by cases e)).trans ((HB1.out.block cb hcz).trans HC.out)
    · refine (((Fr.of_below (X := fun b => b = cb ∨ isP B w b) HB1.out).grown G5.out (fun i e => by cases e)).set (p := ⟨g, 1, none⟩) (.inl (.inr ⟨HBG.out, cur, HP.out⟩)) _).set (p := ⟨cb, 0, none⟩) (.inl (.inl rfl)) _
end Go.Proofs.YtdpfmemcpipbkaaGreatDoor.Hand
end
