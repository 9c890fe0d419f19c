/- names.Add: a proxy more. -/
import Derived.Test.YtdpfmemcpipbkaaGreatDoorZInsert
import Derived.MapKept
import Derived.Carry
section
namespace Go.Proofs.YtdpfmemcpipbkaaGreatDoor.Hand
open Go.RowKit
set_option linter.unusedVariables false
set_option linter.unusedSimpArgs false
def Sorted (w : World) (g n cap : Nat) (l : List Px) (e : Ending) (w' : World) : Prop := e = .returned (.tuple #[]) ∧ RegAt w' (some ⟨g, 0, none⟩) n cap l ∧ Fr (fun b => b = g) w w'
set_option maxHeartbeats 16000000 in
set_option maxRecDepth 100000 in
theorem pdq_calls (l : List Px) (x : Px) (hup : Up l) (g n cap : Nat) (r : Int) (w : World) (h : RegAt w (some ⟨g, 0, none⟩) n cap (l ++ [x])) (hn : n ≤ 8) : Calls Tryz.prog 204 #[.slice (some ⟨g, 0, none⟩) n cap, .int .i64 0, .int .i64 n, .int .i64 r, .func (.func 142) #[] #[]] w (Sorted w g n cap (sink x l.reverse [])) := by
  have hI := Lib.hid (insertion_calls l x hup g n cap w h hn)
  have h12 : (n : Int) ≤ 12 := by omega
  clear h
  go_enter Tryz.func204, Tryz.ntmps204
  go_wp2_with fail
  refine wp_loop_rounds 1 ?_
  rw [rounds_succ]
  go_wp2_with fail
  refine hI.out.mono ?_
  rintro e w1 ⟨rfl, hr, hf⟩
  have HR := Lib.hid hr
  have HF := Lib.hid hf
  clear hr hf
  go_wp2_with fail
  refine bodyPost_ret (results_none rfl _ _ _) rfl ?_
  exact ⟨rfl, HR.out, HF.out⟩
set_option maxHeartbeats 16000000 in
set_option maxRecDepth 100000 in
theorem sort_calls (l : List Px) (x : Px) (hup : Up l) (g n cap : Nat) (w : World) (h : RegAt w (some ⟨g, 0, none⟩) n cap (l ++ [x])) (hn : n ≤ 8) : Calls Tryz.prog 141 #[.slice (some ⟨g, 0, none⟩) n cap, .func (.func 142) #[] #[]] w (Sorted w g n cap (sink x l.reverse [])) := by
  have hI := fun r => Lib.hid (pdq_calls l x hup g n cap r w h hn)
  have hL := fun W => Lib.hid (len_calls n hn W)
  have h12 : (n : Int) ≤ 12 := by omega
  clear h
  go_enter Tryz.func141, Tryz.ntmps141
  go_wp2_with fail
  refine ((hL _).out).mono ?_
  rintro e w1 ⟨⟨r, rfl⟩, rfl⟩
  go_wp2_with fail
  refine ((hI _).out).mono ?_
  rintro e w1 ⟨rfl, hr, hf⟩
  have HR := Lib.hid hr
  have HF := Lib.hid hf
  clear hr hf
  go_wp2_with fail
  go_end0
  exact ⟨rfl, HR.out, HF.out⟩
theorem RegAt.fresh {w : World} {a : Option Addr} {n cap : Nat} {l : List Px} (h : RegAt w a n cap l) {B : Nat} (hf : Fresh B a) : w.ownsRow B 71 4 (.slice a n cap) n (regV l) := by
  refine ⟨h.own.1, ?_⟩
  rcases h.own.2 with hn | ⟨g, cp, cur, hv, hb, hh, r⟩
  · exact .inl hn
  · refine .inr ⟨g, cp, cur, hv, ?_, hh, r⟩
    injection hv with h1
    exact hf g h1
/-- The proxies of these names are told, and an error's number. -/
def Told (w : World) (l : List Px) (err : Int) (e : Ending) (w' : World) : Prop := ∃ a cap, e = .returned (.tuple #[.slice a l.length cap, .int .i64 err]) ∧ RegAt w' a l.length cap l ∧ Below w.heap.size w w'
set_option maxHeartbeats 16000000 in
set_option maxRecDepth 100000 in
theorem add_there (l : List Px) (hg : Good l) (t : ByteArray) (m : Int) (ht : Ok (t, true, m)) (hi : 0 ≤ idx t l) (a : Option Addr) (n cap : Nat) (w : World) (h : RegAt w a n cap l) : Calls Tryz.prog 82 #[.slice a n cap, .string t, .int .i64 m] w (Told w l 141) := by
  have hn : n ≤ 8 := by have := hg.few; have := h.len; omega
  have hR := Lib.hid (right_calls l hg a n cap w h)
  have hN := fun W => Lib.hid (name_calls t ht.n1 ht.n2 ht.c W)
  have H := Lib.hid h
  obtain ⟨z, hz⟩ : ∃ z, z = idx t l := ⟨_, rfl⟩
  rw [← hz] at hi
  have HZ := Lib.hid hz
  clear h hz
  go_enter Tryz.func82, Tryz.ntmps82
  go_wp2_with fail
  refine hR.out.mono ?_
  rintro e w1 ⟨rfl, hb1⟩
  have HB1 := Lib.hid hb1
  clear hb1
  go_wp2_with fail
  refine ((hN _).out).mono ?_
  rintro e w2 ⟨rfl, hb2⟩
  have HB2 := Lib.hid (below_step HB1.out hb2)
  have hA := Lib.hid (at_calls t l a n cap w2 (H.out.below HB2.out) hn)
  rw [← HZ.out] at hA
  clear hb2
  go_wp2_with fail
  refine hA.out.mono ?_
  rintro e w3 ⟨rfl, hb3⟩
  have HB3 := Lib.hid (below_step HB2.out hb3)
  have hO := Lib.hid (own_calls l a n cap w3 (H.out.below HB3.out) hn)
  clear hb3
  go_wp2_with fail
  refine hO.out.mono ?_
  rintro e w4 ⟨a4, c4, rfl, hr4, hf4, hb4⟩
  have HR4 := Lib.hid hr4
  have HB4 := Lib.hid (below_step HB3.out hb4)
  clear hr4 hf4 hb4
  go_wp2_with fail
  go_ret2
  have hl := HR4.out.len
  subst hl
  exact ⟨a4, c4, rfl, HR4.out, HB4.out⟩
set_option maxHeartbeats 16000000 in
set_option maxRecDepth 100000 in
theorem add_new (l : List Px) (hg : Good l) (hup : Up l) (h7 : l.length ≤ 7) (t : ByteArray) (m : Int) (ht : Ok (t, true, m)) (hi : idx t l = -1) (a : Option Addr) (n cap : Nat) (w : World) (h : RegAt w a n cap l) : Calls Tryz.prog 82 #[.slice a n cap, .string t, .int .i64 m] w fun e w' => ∃ g c, e = .returned (.tuple #[.slice (some ⟨g, 0, none⟩) (n + 1) c, .int .i64 0]) ∧ RegAt w' (some ⟨g, 0, none⟩) (n + 1) c (sink (t, true, m) l.reverse []) ∧ Below w.heap.size w w' := by
  have hlen := h.len
  have hn : n ≤ 7 := by omega
  have hR := Lib.hid (right_calls l hg a n cap w h)
  have hN := fun W => Lib.hid (name_calls t ht.n1 ht.n2 ht.c W)
  have hM := fun W => Lib.hid (may_calls m ht.m1 ht.m2 W)
  have H := Lib.hid h
  have HI := Lib.hid hi
  have hn8 : (n : Int) < 8 := by omega
  have HLEN := Lib.hid hlen
  obtain ⟨i0, hi0, hz0, hz1, hz2⟩ := info_parts infoPx
  clear h hi hlen
  go_enter Tryz.func82, Tryz.ntmps82
  go_wp2_with fail
  refine hR.out.mono ?_
  rintro e w1 ⟨rfl, hb1⟩
  have HB1 := Lib.hid hb1
  clear hb1
  go_wp2_with fail
  refine ((hN _).out).mono ?_
  rintro e w2 ⟨rfl, hb2⟩
  have HB2 := Lib.hid (below_step HB1.out hb2)
  have hA := Lib.hid (at_calls t l a n cap w2 (H.out.below HB2.out) (by omega))
  rw [HI.out] at hA
  clear hb2
  go_wp2_with fail
  refine hA.out.mono ?_
  rintro e w3 ⟨rfl, hb3⟩
  have HB3 := Lib.hid (below_step HB2.out hb3)
  clear hb3
  go_wp2_with fail
  refine ((hM _).out).mono ?_
  rintro e w4 ⟨rfl, rfl⟩
  have hO := Lib.hid (own_calls l a n cap w3 (H.out.below HB3.out) (by omega))
  go_wp2_with fail
  refine hO.out.mono ?_
  rintro e w4 ⟨a4, c4, rfl, hr4, hf4, hb4⟩
  have HR4 := Lib.hid hr4
  have hown := hr4.fresh hf4
  have HO4 := Lib.hid hown
  have HB4 := Lib.hid (below_step HB3.out hb4)
  have hsz := hb4.size
  have HF4 := Lib.hid hf4
  have HB34 := Lib.hid hb4
  clear hr4 hf4 hb4 hown
  go_wp2_with (at_builtin; refine wpList_append_own _ rfl (.tmp 39) (.tmp 43) 92 rfl w3.heap.size 71 i0 _ 4 56 Tryz.underlying92 hi0 hz0 hz1 hz2 rfl (by omega) _ _ _ rfl (HO4.out.alloc _) ⟨w4.heap.size, 0, none⟩ 1 1 [.string t, .bool true, .int .i64 m, .slice none 0 0] rfl rfl ?qc2 ?qc3 ?qc4 ?qc5 ?qc6 ?_)
  case qc2 =>
    intro j u hj
    rw [Addr.add_lit, Nat.zero_add]
    exact (blk_cell (heap_alloc_new w4 _) j).trans (by rw [← hj]; simp)
  case qc3 => simp [Value.oneCell']
  case qc4 => simp only [maxLen]; omega
  case qc5 => omega
  case qc6 => simp; omega
  intro v5 w5 hown5 hgrow5 hnil5
  obtain ⟨g5, c5, rfl, hg5⟩ := row_form hown5
  have hgr : Below w3.heap.size w3 w5 := (HB34.out.alloc hsz _).grown hgrow5 (by simp; omega) (fun k hk => (HO4.out.lt k hk).1)
  have hx : RegAt w5 (some ⟨g5, 0, none⟩) (n + 1) c5 (l ++ [(t, true, m)]) := ⟨by rw [regV_append]; exact ownsRow_base hown5, by rw [List.length_append, HLEN.out]; rfl⟩
  have hS := Lib.hid (sort_calls l (t, true, m) hup g5 (n + 1) c5 w5 hx (by omega))
  have HG5 := Lib.hid (below_step HB3.out hgr)
  have hg5w : w.heap.size ≤ g5 := Nat.le_trans HB3.out.size hg5
  have h5sz : w.heap.size ≤ w5.heap.size := HG5.out.size
  clear hown5 hgrow5 hnil5 hgr hx
  go_wp2_with fail
  refine hS.out.mono ?_
  rintro e w6 ⟨rfl, hr6, hf6⟩
  have HR6 := Lib.hid hr6
  have HF6 := Lib.hid hf6
  clear hr6 hf6
  go_wp2_with fail
  go_ret2
  exact ⟨g5, c5, rfl, HR6.out, HG5.out.trans (HF6.out.below h5sz (fun i hi => by omega))⟩
end Go.Proofs.YtdpfmemcpipbkaaGreatDoor.Hand
end
section
/- names.Switch: a proxy on, or off; names.change, where none is. -/
namespace Go.Proofs.YtdpfmemcpipbkaaGreatDoor.Hand
open Go.RowKit
set_option linter.unusedVariables false
set_option linter.unusedSimpArgs false
set_option maxHeartbeats 4000000 in
set_option maxRecDepth 100000 in
theorem drop1_calls (p : Addr) (w : World) : Calls Tryz.prog 145 #[.pointer (some p)] w fun e w' => e = .returned (.int .i64 0) ∧ w = w' := by
  go_enter Tryz.func145, Tryz.ntmps145
  go_wp2_with fail
  go_ret
  exact ⟨rfl, rfl⟩
set_option maxHeartbeats 4000000 in
set_option maxRecDepth 100000 in
theorem switch1_calls (g o bo : Nat) (b c : Bool) (w : World) (hb : w.cell? ⟨bo, 0, none⟩ = some (.bool b)) (hc : w.cell? ⟨g, o + 1, none⟩ = some (.bool c)) (hf : w.frozen? ⟨g, o + 1, none⟩ = false) : Calls Tryz.prog 148 #[.pointer (some ⟨g, o, none⟩), .pointer (some ⟨bo, 0, none⟩)] w fun e w' => e = .returned (.int .i64 0) ∧ w' = w.setCell ⟨g, o + 1, none⟩ (.bool b) := by
  go_enter Tryz.func148, Tryz.ntmps148
  go_wp2_with fail
  go_ret
  exact ⟨rfl, rfl⟩
set_option maxHeartbeats 16000000 in
set_option maxRecDepth 100000 in
/-- Where none of the name is, whatever is asked of it. -/
theorem change_none (l : List Px) (hg : Good l) (t : ByteArray) (hi : idx t l = -1) (f : Nat) (lb : Array Value) (a : Option Addr) (n cap : Nat) (w : World) (h : RegAt w a n cap l) : Calls Tryz.prog 144 #[.slice a n cap, .string t, .func (.func f) #[] lb] w (Told w l 142) := by
  have hn : n ≤ 8 := by have := hg.few; have := h.len; omega
  have hR := Lib.hid (right_calls l hg a n cap w h)
  have H := Lib.hid h
  have HI := Lib.hid hi
  clear h hi
  go_enter Tryz.func144, Tryz.ntmps144
  go_wp2_with fail
  refine hR.out.mono ?_
  rintro e w1 ⟨rfl, hb1⟩
  have HB1 := Lib.hid hb1
  have hO := Lib.hid (own_calls l a n cap w1 (H.out.below HB1.out) hn)
  clear hb1
  go_wp2_with fail
  refine hO.out.mono ?_
  rintro e w2 ⟨a2, c2, rfl, hr2, hf2, hb2⟩
  have HR2 := Lib.hid hr2
  have HB2 := Lib.hid (below_step HB1.out hb2)
  have hA := Lib.hid (at_calls t l a2 n c2 w2 hr2 hn)
  rw [HI.out] at hA
  clear hr2 hf2 hb2
  go_wp2_with fail
  refine hA.out.mono ?_
  rintro e w3 ⟨rfl, hb3⟩
  have HB3 := Lib.hid hb3
  clear hb3
  go_wp2_with fail
  go_ret2
  have hl := HR2.out.len
  subst hl
  exact ⟨a2, c2, rfl, HR2.out.below HB3.out, below_step HB2.out HB3.out⟩
set_option maxHeartbeats 16000000 in
set_option maxRecDepth 100000 in
theorem change_drop (l : List Px) (hg : Good l) (t : ByteArray) (k : Nat) (hk : k < l.length) (hi : idx t l = k) (a : Option Addr) (n cap : Nat) (w : World) (h : RegAt w a n cap l) : Calls Tryz.prog 144 #[.slice a n cap, .string t, .func (.func 145) #[] #[]] w fun e w' => ∃ g c, e = .returned (.tuple #[.slice (some ⟨g, 0, none⟩) n c, .int .i64 0]) ∧ RegAt w' (some ⟨g, 0, none⟩) n c l ∧ Below w.heap.size w w' ∧ w.heap.size ≤ g := by
  have hn : n ≤ 8 := by have := hg.few; have := h.len; omega
  have hkn : k < n := by rw [← h.len]; exact hk
  have hR := Lib.hid (right_calls l hg a n cap w h)
  have H := Lib.hid h
  have HI := Lib.hid hi
  have hk0 : (0 : Int) ≤ (k : Int) := by omega
  have hk1 : (k : Int) < (n : Int) := by omega
  clear h hi
  go_enter Tryz.func144, Tryz.ntmps144
  go_wp2_with fail
  refine hR.out.mono ?_
  rintro e w1 ⟨rfl, hb1⟩
  have HB1 := Lib.hid hb1
  have hO := Lib.hid (own_calls l a n cap w1 (H.out.below HB1.out) hn)
  clear hb1
  go_wp2_with fail
  refine hO.out.mono ?_
  rintro e w2 ⟨a2, c2, rfl, hr2, hf2, hb2⟩
  have HR2 := Lib.hid hr2
  have HB2 := Lib.hid (below_step HB1.out hb2)
  have hA := Lib.hid (at_calls t l a2 n c2 w2 hr2 hn)
  rw [HI.out] at hA
  obtain ⟨g, rfl, _⟩ := hr2.at k hkn
  have hgB : w.heap.size ≤ g := Nat.le_trans HB1.out.size (hf2 g rfl)
  clear hr2 hf2 hb2
  go_wp2_with fail
  refine hA.out.mono ?_
  rintro e w3 ⟨rfl, hb3⟩
  have HB3 := Lib.hid hb3
  clear hb3
  go_wp2_with fail
  refine (drop1_calls _ _).mono ?_
  rintro e w4 ⟨rfl, rfl⟩
  go_wp2_with fail
  go_ret2
  exact ⟨g, c2, rfl, HR2.out.below HB3.out, below_step HB2.out HB3.out, hgB⟩
set_option maxHeartbeats 16000000 in
set_option maxRecDepth 100000 in
theorem change_switch (l : List Px) (hg : Good l) (t : ByteArray) (k : Nat) (hk : k < l.length) (hi : idx t l = k) (bo : Nat) (b : Bool) (a : Option Addr) (n cap : Nat) (w : World) (h : RegAt w a n cap l) (hb : w.cell? ⟨bo, 0, none⟩ = some (.bool b)) : Calls Tryz.prog 144 #[.slice a n cap, .string t, .func (.func 148) #[] #[.pointer (some ⟨bo, 0, none⟩)]] w fun e w' => ∃ g c, e = .returned (.tuple #[.slice (some ⟨g, 0, none⟩) n c, .int .i64 0]) ∧ RegAt w' (some ⟨g, 0, none⟩) n c (l.set k ((l.getD k default).1, b, (l.getD k default).2.2)) ∧ Below w.heap.size w w' := by
  have hn : n ≤ 8 := by have := hg.few; have := h.len; omega
  have hkn : k < n := by rw [← h.len]; exact hk
  have hR := Lib.hid (right_calls l hg a n cap w h)
  have H := Lib.hid h
  have HI := Lib.hid hi
  have hk0 : (0 : Int) ≤ (k : Int) := by omega
  have hk1 : (k : Int) < (n : Int) := by omega
  have hlb := World.block_lt_of_cell? w _ hb
  simp only at hlb
  have HBO := Lib.hid hb
  clear h hi hb
  go_enter Tryz.func144, Tryz.ntmps144
  go_wp2_with fail
  refine hR.out.mono ?_
  rintro e w1 ⟨rfl, hb1⟩
  have HB1 := Lib.hid hb1
  have hO := Lib.hid (own_calls l a n cap w1 (H.out.below HB1.out) hn)
  clear hb1
  go_wp2_with fail
  refine hO.out.mono ?_
  rintro e w2 ⟨a2, c2, rfl, hr2, hf2, hb2⟩
  have HR2 := Lib.hid hr2
  have HB2 := Lib.hid (below_step HB1.out hb2)
  have hA := Lib.hid (at_calls t l a2 n c2 w2 hr2 hn)
  rw [HI.out] at hA
  obtain ⟨g, rfl, _⟩ := hr2.at k hkn
  have hgB : w.heap.size ≤ g := Nat.le_trans HB1.out.size (hf2 g rfl)
  clear hr2 hf2 hb2
  go_wp2_with fail
  refine hA.out.mono ?_
  rintro e w3 ⟨rfl, hb3⟩
  have HB3 := Lib.hid (below_step HB2.out hb3)
  have hr3 := HR2.out.below hb3
  have HR3 := Lib.hid hr3
  obtain ⟨_, e, c0, c1, c2', c3⟩ := hr3.at k hkn
  cases e
  have hS := Lib.hid (switch1_calls g (k * 4) bo b _ w3 ((HB3.out.cell (p := ⟨bo, 0, none⟩) hlb).trans HBO.out) c1 (hr3.frozen rfl _))
  clear hb3 hr3 c0 c1 c2' c3
  go_wp2_with fail
  refine hS.out.mono ?_
  rintro e w4 ⟨rfl, rfl⟩
  go_wp2_with fail
  go_ret2
  exact ⟨g, c2, rfl, HR3.out.on k hkn b, HB3.out.setCell hgB _⟩
set_option maxHeartbeats 16000000 in
set_option maxRecDepth 100000 in
theorem switch_none (l : List Px) (hg : Good l) (t : ByteArray) (b : Bool) (hi : idx t l = -1) (a : Option Addr) (n cap : Nat) (w : World) (h : RegAt w a n cap l) : Calls Tryz.prog 86 #[.slice a n cap, .string t, .bool b] w (Told w l 142) := by
  have hB : Below w.heap.size w (w.alloc (.cells #[.bool b] 4)) := below_alloc (Below.refl _ w) _ (Nat.le_refl _)
  have hC := Lib.hid (change_none l hg t hi 148 #[.pointer (some ⟨w.heap.size, 0, none⟩)] a n cap _ (h.below hB))
  have HB := Lib.hid hB
  clear h hi hB
  go_enter Tryz.func86, Tryz.ntmps86
  go_wp2_with fail
  refine hC.out.mono ?_
  rintro e w1 ⟨a1, c1, rfl, hr, hb⟩
  have HR := Lib.hid hr
  have HB1 := Lib.hid hb
  clear hr hb
  go_wp2_with fail
  go_ret2
  exact ⟨a1, c1, rfl, HR.out, below_step HB.out HB1.out⟩
set_option maxHeartbeats 16000000 in
set_option maxRecDepth 100000 in
theorem switch_calls (l : List Px) (hg : Good l) (t : ByteArray) (b : Bool) (k : Nat) (hk : k < l.length) (hi : idx t l = k) (a : Option Addr) (n cap : Nat) (w : World) (h : RegAt w a n cap l) : Calls Tryz.prog 86 #[.slice a n cap, .string t, .bool b] w (Told w (l.set k ((l.getD k default).1, b, (l.getD k default).2.2)) 0) := by
  have hB : Below w.heap.size w (w.alloc (.cells #[.bool b] 4)) := below_alloc (Below.refl _ w) _ (Nat.le_refl _)
  have hC := Lib.hid (change_switch l hg t k hk hi w.heap.size b a n cap _ (h.below hB) (by go_simp))
  have HB := Lib.hid hB
  have HL := Lib.hid h.len
  clear h hi hB
  go_enter Tryz.func86, Tryz.ntmps86
  go_wp2_with fail
  refine hC.out.mono ?_
  rintro e w1 ⟨g1, c1, rfl, hr, hb⟩
  have HR := Lib.hid hr
  have HB1 := Lib.hid hb
  clear hr hb
  go_wp2_with fail
  go_ret2
  have hl := HR.out.len
  subst hl
  exact ⟨some ⟨g1, 0, none⟩, c1, rfl, HR.out, below_step HB.out HB1.out⟩
end Go.Proofs.YtdpfmemcpipbkaaGreatDoor.Hand
end
section
/- slices.DeleteFunc of the one proxy of a name; names.Drop. -/
namespace Go.Proofs.YtdpfmemcpipbkaaGreatDoor.Hand
open Go.RowKit
set_option linter.unusedVariables false
set_option linter.unusedSimpArgs false
theorem zeroPx (w : World) : (zeroValue 71).run Tryz.prog w = .ok (.agg #[.string ⟨#[]⟩, .bool false, .int .i64 0, .slice none 0 0]) w := by kernel_rfl
theorem clear_one {w : World} {g o c : Nat} (ty : TypeId) (h : ∀ j, j < 4 → (w.cell? ⟨g, o + j, none⟩).isSome = true) (hf : ∀ j, j < 4 → w.frozen? ⟨g, o + j, none⟩ = false) : (Builtin.clear_ #[92] ty #[.slice (some ⟨g, o, none⟩) 1 c]).run Tryz.prog w = .ok (.tuple #[]) (w.setCells g o [.string ⟨#[]⟩, .bool false, .int .i64 0, .slice none 0 0]) := by
  have hst := run_storeCells_cells (P := Tryz.prog) g o [.string ⟨#[]⟩, .bool false, .int .i64 0, .slice none 0 0] 0 w (by simpa using h) (by simpa using hf) (by intro v hv; simp at hv; rcases hv with rfl | rfl | rfl | rfl <;> rfl)
  simp only [Nat.add_zero] at hst
  have hz : (Builtin.zeroCells (Value.agg #[.string ⟨#[]⟩, .bool false, .int .i64 0, .slice none 0 0]).cells 1) = #[.string ⟨#[]⟩, .bool false, .int .i64 0, .slice none 0 0] := by kernel_rfl
  simp [Builtin.clear_, run_underlying Tryz.underlying92, zeroPx, hz, hst]
set_option maxHeartbeats 16000000 in
set_option maxRecDepth 100000 in
theorem delete_calls (A C : List Px) (x0 : Px) (t : ByteArray) (hx : same x0.1 t = true) (hC : ∀ q ∈ C, same q.1 t = false) (hi : idx t (A ++ x0 :: C) = A.length) (bn g n cap : Nat) (w : World) (h : RegAt w (some ⟨g, 0, none⟩) n cap (A ++ x0 :: C)) (hn8 : n ≤ 8) (hn : w.cell? ⟨bn, 0, none⟩ = some (.string t)) (hbg : bn ≠ g) : Calls Tryz.prog 146 #[.slice (some ⟨g, 0, none⟩) n cap, .func (.func 147) #[] #[.pointer (some ⟨bn, 0, none⟩)]] w fun e w' => e = .returned (.slice (some ⟨g, 0, none⟩) (A ++ C).length cap) ∧ RegAt w' (some ⟨g, 0, none⟩) (A ++ C).length cap (A ++ C) ∧ Fr (fun b => b = g) w w' := by
  have hI := Lib.hid (indexDrop t _ (some ⟨g, 0, none⟩) n cap bn w h hn8 hn)
  rw [hi] at hI
  have hlen := h.len
  simp only [List.length_append, List.length_cons] at hlen
  have hlb := World.block_lt_of_cell? w _ hn
  simp only at hlb
  have hlg := h.lt rfl
  have HN := Lib.hid hn
  have H := Lib.hid h
  have HC := Lib.hid hC
  have HLEN := Lib.hid hlen
  clear hn h hC hi hlen
  have hne : ((A.length : Int) == -1) = false := beq_false_of_ne (by omega)
  have ha : IntKind.i64.wrap ((A.length : Int) + 1) = (A.length : Int) + 1 := by have := HLEN.out; rw [IntKind.wrap_i64]; omega
  go_enter Tryz.func146, Tryz.ntmps146
  go_wp2_with fail
  refine hI.out.mono ?_
  rintro e w1 ⟨rfl, hb1⟩
  have HB1 := Lib.hid hb1
  have HR1 := Lib.hid (H.out.below hb1)
  clear hb1
  go_wp2_with fail
  have hst0 : RegAt w1 (some ⟨g, 0, none⟩) n cap (A ++ x0 :: C) := HR1.out
  have hc0 := HC.out
  go_loopw [5, 6] (fun i j wr => ∃ (P S : List Px) (x : Px), i = .int .i64 P.length ∧ j = .int .i64 ((P.length : Int) + 1) ∧ Fr (fun b => b = g) w1 wr ∧ RegAt wr (some ⟨g, 0, none⟩) n cap (P ++ x :: S) ∧ Hid (P ++ S = A ++ C) ∧ Hid (∀ q ∈ S, same q.1 t = false)) (fun i _ _ => n - (intOf i).toNat)
  case atStart => exact ⟨A, C, x0, rfl, rfl, Fr.refl _ _, hst0, rfl, hc0⟩
  case round =>
    obtain ⟨P, S, x, rfl, rfl, hF, hR, hPS, hS⟩ := hrel
    have HF := Lib.hid hF
    have HR := Lib.hid hR
    have hln := hR.len
    simp only [List.length_append, List.length_cons] at hln
    have hgz : g < wr.heap.size := Nat.lt_of_lt_of_le (Nat.lt_of_lt_of_le hlg HB1.out.size) hF.size
    have hbz : bn < wr.heap.size := Nat.lt_of_lt_of_le (Nat.lt_of_lt_of_le hlb HB1.out.size) hF.size
    have hnn : wr.cell? ⟨bn, 0, none⟩ = some (.string t) := (World.cell?_of_block (hF.block bn (Nat.lt_of_lt_of_le hlb HB1.out.size) hbg)).trans ((HB1.out.cell (p := ⟨bn, 0, none⟩) hlb).trans HN.out)
    have HNN := Lib.hid hnn
    clear hF hR hst0 hc0 hnn
    obtain ⟨p, hp⟩ : ∃ p, p = P.length := ⟨_, rfl⟩
    rw [← hp] at hln ⊢
    have HP := Lib.hid hp
    clear hp
    cases S with
    | nil =>
      simp only [List.length_nil, Nat.zero_add] at hln
      subst hln
      have hfz := fun i => HR.out.frozen rfl i
      obtain ⟨_, e, c0, c1, c2, c3⟩ := HR.out.at p (by omega)
      cases e
      have hclr := fun (ty : TypeId) (c : Nat) => clear_one (w := wr) (g := g) (o := p * 4) (c := c) ty (by intro j hj; rcases j with _ | _ | _ | _ | j <;> first | omega | simp [c0, c1, c2, c3]) (fun j _ => hfz _)
      have hcap : ¬ cap = p := by have := HR.out.cap_le; omega
      have hcap2 : p ≤ cap := by have := HR.out.cap_le; omega
      clear c0 c1 c2 c3 hfz
      go_wp2_with fail
      go_ret
      have hz := HR.out.put p (by omega) (⟨#[]⟩, false, 0)
      have hPC := hPS.out
      rw [List.append_nil] at hPC
      rw [HP.out, set_last, ← HP.out] at hz
      have hz2 := hz.cut
      rw [← hPC, ← HP.out]
      rw [← HP.out] at hz2
      exact ⟨rfl, hz2, Fr.put ((Fr.of_below HB1.out).trans HF.out (fun _ e => e) (fun _ _ e => e)) (.inl rfl) (p * 4) _ _ _ _⟩
    | cons c S =>
      have HLN := Lib.hid hln
      simp only [List.length_cons] at hln
      have hR2 := HR.out
      obtain ⟨_, e, c0, c1, c2, c3⟩ := hR2.at (p + 1) (by omega)
      cases e
      rw [HP.out, get_mid2, ← HP.out] at c0 c1 c2
      have hcs : same c.1 t = false := hS.out c (List.mem_cons_self ..)
      obtain ⟨s, o, m⟩ := c
      simp only at c0 c1 c2 hcs
      have hfz := fun i => HR.out.frozen rfl i
      have hD := Lib.hid (drop2_calls s t o m bn (wr.alloc (.cells #[.string s, .bool o, .int .i64 m, .slice none 0 0] 71)) ((World.cell?_alloc_lt _ _ _ hbz).trans HNN.out))
      rw [hcs] at hD
      have hj0 : (0 : Int) ≤ (p : Int) := by omega
      have hj1 : (p : Int) < (n : Int) := by omega
      have hj2 : (p : Int) + 1 < (n : Int) := by omega
      have hj4 : (0 : Int) ≤ (p : Int) + 1 := by omega
      have hj5 : ((p : Int) + 1).toNat = p + 1 := by omega
      clear hln hR2 hcs
      go_wp2_with fail
      refine hD.out.mono ?_
      rintro e w2 ⟨rfl, hb2⟩
      have HB2 := Lib.hid hb2
      have hcc : ∀ i, w2.cell? ⟨wr.heap.size, i, none⟩ = (wr.alloc (.cells #[.string s, .bool o, .int .i64 m, .slice none 0 0] 71)).cell? ⟨wr.heap.size, i, none⟩ := fun i => hb2.cell (p := ⟨wr.heap.size, i, none⟩) (by show wr.heap.size < (wr.alloc _).heap.size; rw [World.size_alloc]; omega)
      have hb3 := Lib.hid (below_step (below_alloc (Below.refl _ wr) (.cells #[.string s, .bool o, .int .i64 m, .slice none 0 0] 71) (Nat.le_refl _)) hb2)
      have HR2 := Lib.hid (HR.out.below hb3.out)
      have hf2 := fun i => HR2.out.frozen rfl i
      clear hb2 hfz c0 c1 c2 c3
      obtain ⟨_, e, d0, d1, d2, d3⟩ := HR2.out.at p (by have := HLN.out; simp only [List.length_cons] at this; omega)
      cases e
      go_wp2_with fail
      have hl : ((P ++ [(s, o, m)]).length : Int) = (p : Int) + 1 := by rw [HP.out]; simp
      have hput := HR2.out.put p (by have := HLN.out; simp only [List.length_cons] at this; omega) (s, o, m)
      rw [HP.out, set_mid, ← HP.out] at hput
      have hnp : p + 1 < n := by have := HLN.out; simp only [List.length_cons] at this; omega
      go_roundw
      case rel => exact ⟨P ++ [(s, o, m)], S, (s, o, m), by rw [hl], by rw [hl], Fr.put (HF.out.then_below hb3.out) (.inl rfl) (p * 4) _ _ _ _, by rw [List.append_assoc]; exact hput, by rw [List.append_assoc]; exact hPS.out, fun q hq => hS.out q (List.mem_cons_of_mem _ hq)⟩
      case measure => simp [intOf]; omega
set_option maxHeartbeats 16000000 in
set_option maxRecDepth 100000 in
theorem drop_none (l : List Px) (hg : Good l) (t : ByteArray) (hi : idx t l = -1) (a : Option Addr) (n cap : Nat) (w : World) (h : RegAt w a n cap l) : Calls Tryz.prog 84 #[.slice a n cap, .string t] w (Told w l 142) := by
  have hB : Below w.heap.size w (w.alloc (.cells #[.string t] 9)) := below_alloc (Below.refl _ w) _ (Nat.le_refl _)
  have hC := Lib.hid (change_none l hg t hi 145 #[] a n cap _ (h.below hB))
  have HB := Lib.hid hB
  clear h hi hB
  go_enter Tryz.func84, Tryz.ntmps84
  go_wp2_with fail
  refine hC.out.mono ?_
  rintro e w1 ⟨a1, c1, rfl, hr, hb⟩
  have HR := Lib.hid hr
  have HB1 := Lib.hid hb
  clear hr hb
  go_wp2_with fail
  go_ret2
  exact ⟨a1, c1, rfl, HR.out, below_step HB.out HB1.out⟩
set_option maxHeartbeats 16000000 in
set_option maxRecDepth 100000 in
theorem drop_calls (A C : List Px) (x0 : Px) (t : ByteArray) (hg : Good (A ++ x0 :: C)) (hx : same x0.1 t = true) (hC : ∀ q ∈ C, same q.1 t = false) (hi : idx t (A ++ x0 :: C) = A.length) (a : Option Addr) (n cap : Nat) (w : World) (h : RegAt w a n cap (A ++ x0 :: C)) : Calls Tryz.prog 84 #[.slice a n cap, .string t] w (Told w (A ++ C) 0) := by
  have hn8 : n ≤ 8 := by have := hg.few; have := h.len; omega
  have hB : Below w.heap.size w (w.alloc (.cells #[.string t] 9)) := below_alloc (Below.refl _ w) _ (Nat.le_refl _)
  have hCh := Lib.hid (change_drop _ hg t A.length (by simp) hi a n cap _ (h.below hB))
  have HB := Lib.hid hB
  have HI := Lib.hid hi
  clear h hi hB
  go_enter Tryz.func84, Tryz.ntmps84
  go_wp2_with fail
  refine hCh.out.mono ?_
  rintro e w1 ⟨g1, c1, rfl, hr, hb, hgB⟩
  have hbg : w.heap.size ≠ g1 := by rw [World.size_alloc] at hgB; omega
  have hcell : w1.cell? ⟨w.heap.size, 0, none⟩ = some (.string t) := (hb.cell (p := ⟨w.heap.size, 0, none⟩) (by show w.heap.size < (w.alloc _).heap.size; rw [World.size_alloc]; omega)).trans (by go_simp)
  have hD := Lib.hid (delete_calls A C x0 t hx hC HI.out w.heap.size g1 n c1 w1 hr hn8 hcell hbg)
  have HB1 := Lib.hid (below_step HB.out hb)
  have hgw : w.heap.size ≤ g1 := by rw [World.size_alloc] at hgB; omega
  clear hr hb hgB hcell
  go_wp2_with fail
  refine hD.out.mono ?_
  rintro e w2 ⟨rfl, hr2, hf2⟩
  have HR2 := Lib.hid hr2
  have HF2 := Lib.hid hf2
  clear hr2 hf2
  go_wp2_with fail
  go_ret2
  exact ⟨some ⟨g1, 0, none⟩, c1, by rw [List.length_append]; rfl, HR2.out, HB1.out.trans (HF2.out.below HB1.out.size (fun i hi => by omega))⟩
end Go.Proofs.YtdpfmemcpipbkaaGreatDoor.Hand
end
section
/- desk.changes: what each verb does. -/
namespace Go.Proofs.YtdpfmemcpipbkaaGreatDoor.Hand
open Go.RowKit
set_option linter.unusedVariables false
set_option linter.unusedSimpArgs false
theorem map_in {w : World} {b : Nat} {es : Array MapEntry} {c : Nat} (k : Int) (f : Value) (hb : w.heap[b]? = some (.map es c)) (hk : Instr.findNow (.int .i64) (.int .i64 k) es.toList 0 = some none) : ∃ w', (Instr.mapUpdate 126 (.map (some b)) (.int .i64 k) f).run Tryz.prog w = .ok () w' ∧ w'.heap[b]? = some (.map (es.push ⟨.int .i64 k, f, c⟩) (c + 1)) ∧ Below b w w' := by
  have hlt := blk_lt hb
  refine ⟨{ w with heap := w.heap.setIfInBounds b (.map (es.push ⟨.int .i64 k, f, c⟩) (c + 1)) }, ?_, ?_, ?_⟩
  · simp [Instr.mapUpdate, run_underlying Tryz.underlying126, MapKept.run_getObj_map hb, MapKept.run_checkKey (k := .int .i64 k) Tryz.underlying3 (show MapKept.IsKey (.int .i64) (.int .i64 k) from rfl), MapKept.run_findKey Tryz.underlying3 hk, MapKept.run_setObj_map _ hb, Result.andThen]
  · simp [hlt]
  · exact ⟨rfl, rfl, rfl, by simp, fun i hi => by simp [Array.getElem?_setIfInBounds, Nat.ne_of_gt hi]⟩
def fn (f : Nat) : Value := .func (.func f) #[] #[]
def ents : Array MapEntry := #[⟨.int .i64 1, fn 81, 0⟩, ⟨.int .i64 2, fn 83, 1⟩, ⟨.int .i64 3, fn 85, 2⟩, ⟨.int .i64 4, fn 87, 3⟩, ⟨.int .i64 5, fn 88, 4⟩, ⟨.int .i64 6, fn 90, 5⟩, ⟨.int .i64 7, fn 92, 6⟩, ⟨.int .i64 10, fn 94, 7⟩, ⟨.int .i64 8, fn 80, 8⟩, ⟨.int .i64 9, fn 96, 9⟩]
set_option maxHeartbeats 4000000 in
set_option maxRecDepth 100000 in
theorem changes_calls (w : World) : Calls Tryz.prog 52 #[] w fun e w' => e = .returned (.map (some w.heap.size)) ∧ w'.heap[w.heap.size]? = some (.map ents 10) ∧ Below w.heap.size w w' := by
  have hmm := @run_makeMap Tryz.prog
  have h0 : (w.alloc (.map #[] 0)).heap[w.heap.size]? = some (.map #[] 0) := heap_alloc_new w _
  have hb0 : Below w.heap.size w (w.alloc (.map #[] 0)) := below_alloc (Below.refl _ w) _ (Nat.le_refl _)
  obtain ⟨w1, r1, h1, b1⟩ := map_in 1 (fn 81) h0 rfl
  obtain ⟨w2, r2, h2, b2⟩ := map_in 2 (fn 83) h1 rfl
  obtain ⟨w3, r3, h3, b3⟩ := map_in 3 (fn 85) h2 rfl
  obtain ⟨w4, r4, h4, b4⟩ := map_in 4 (fn 87) h3 rfl
  obtain ⟨w5, r5, h5, b5⟩ := map_in 5 (fn 88) h4 rfl
  obtain ⟨w6, r6, h6, b6⟩ := map_in 6 (fn 90) h5 rfl
  obtain ⟨w7, r7, h7, b7⟩ := map_in 7 (fn 92) h6 rfl
  obtain ⟨w8, r8, h8, b8⟩ := map_in 10 (fn 94) h7 rfl
  obtain ⟨w9, r9, h9, b9⟩ := map_in 8 (fn 80) h8 rfl
  obtain ⟨w10, r10, h10, b10⟩ := map_in 9 (fn 96) h9 rfl
  have HB := Lib.hid (((((((((((hb0.trans b1).trans b2).trans b3).trans b4).trans b5).trans b6).trans b7).trans b8).trans b9).trans b10))
  have H10 : Hid (w10.heap[w.heap.size]? = some (.map ents 10)) := h10
  clear h0 hb0 h1 h2 h3 h4 h5 h6 h7 h8 h9 h10 b1 b2 b3 b4 b5 b6 b7 b8 b9 b10
  unfold fn at r1 r2 r3 r4 r5 r6 r7 r8 r9 r10
  go_enter Tryz.func52, Tryz.ntmps52
  go_wp2_with fail
  go_ret
  exact ⟨rfl, H10.out, HB.out⟩
theorem look_at {w : World} {b : Nat} (hb : w.heap[b]? = some (.map ents 10)) (k : Int) (f i : Nat) (hk : Instr.findNow (.int .i64) (.int .i64 k) ents.toList 0 = some (some (i, fn f))) : (Instr.lookup 126 (.map (some b)) (.int .i64 k) true).run Tryz.prog w = .ok (.tuple #[.func (.func f) #[] #[], .bool true]) w := by
  simp [Instr.lookup, run_underlying Tryz.underlying126, MapKept.run_getObj_map hb, MapKept.run_checkKey (k := .int .i64 k) Tryz.underlying3 (show MapKept.IsKey (.int .i64) (.int .i64 k) from rfl), MapKept.run_findKey Tryz.underlying3 hk, Result.andThen, fn]
end Go.Proofs.YtdpfmemcpipbkaaGreatDoor.Hand
end
section
/- names.Lines of a proxy without toxics. -/
namespace Go.Proofs.YtdpfmemcpipbkaaGreatDoor.Hand
open Go.RowKit
set_option linter.unusedVariables false
set_option linter.unusedSimpArgs false
set_option maxHeartbeats 4000000 in
set_option maxRecDepth 100000 in
theorem near_1 (w : World) : Calls Tryz.prog 207 #[.int .i64 1] w fun e w' => e = .returned (.int .i64 1) ∧ Below w.heap.size w w' := by
  go_enter Tryz.func207, Tryz.ntmps207
  go_wp2_with fail
  go_ret
  exact ⟨rfl, Below.refl _ w⟩
set_option maxHeartbeats 4000000 in
set_option maxRecDepth 100000 in
theorem text_1 (w : World) : Calls Tryz.prog 156 #[.int .i64 1] w fun e w' => e = .returned (.string ⟨#[49]⟩) ∧ Below w.heap.size w w' := by
  go_enter Tryz.func156, Tryz.ntmps156
  go_wp2_with fail
  refine (near_1 _).mono ?_
  rintro e w1 ⟨rfl, hb⟩
  go_wp2_with fail
  go_ret
  exact ⟨rfl, hb⟩
/-- The sign of one or three. -/
def dig (m : Int) : ByteArray := if m = 3 then ⟨#[51]⟩ else ⟨#[49]⟩
theorem text_dig (m : Int) (h : m = 3 ∨ m = 1) (w : World) : Calls Tryz.prog 156 #[.int .i64 m] w fun e w' => e = .returned (.string (dig m)) ∧ Below w.heap.size w w' := by
  rcases h with rfl | rfl
  · exact text_3 w
  · exact text_1 w
theorem dig_size (m : Int) : (dig m).size = 1 := by unfold dig; split <;> rfl
def onoff (b : Bool) : ByteArray := if b then ⟨#[111, 110]⟩ else ⟨#[111, 102, 102]⟩
/-- A proxy's signs. -/
def lineOf (p : Px) : ByteArray := ((((p.1 ++ ⟨#[32]⟩ ++ onoff p.2.1) ++ ⟨#[32]⟩) ++ dig p.2.2) ++ ⟨#[32]⟩) ++ ⟨#[48]⟩
set_option maxHeartbeats 8000000 in
set_option maxRecDepth 100000 in
theorem lines_calls (s : ByteArray) (on : Bool) (m : Int) (hm : m = 3 ∨ m = 1) (h : Ok (s, on, m)) (w : World) : Calls Tryz.prog 97 #[.agg #[.string s, .bool on, .int .i64 m, .slice none 0 0]] w fun e w' => ∃ g, e = .returned (.slice (some ⟨g, 0, none⟩) 1 1) ∧ w'.cell? ⟨g, 0, none⟩ = some (.string (lineOf (s, on, m))) ∧ g < w'.heap.size ∧ Below w.heap.size w w' := by
  have hck := fun W => Lib.hid (check_calls s on m h W)
  have hT := fun W => Lib.hid (text_dig m hm W)
  have h16 : s.size ≤ 16 := h.n2
  obtain ⟨dm, hdm⟩ : ∃ dm, dm = dig m := ⟨_, rfl⟩
  simp only [← hdm] at hT
  have hd1 : dm.size ≤ 1 := by rw [hdm, dig_size]; exact Nat.le_refl _
  have HDM := Lib.hid hdm
  clear hm h hdm
  cases on
  all_goals
    go_enter Tryz.func97, Tryz.ntmps97
    go_wp2_with fail
    refine ((hck _).out).mono ?_
    rintro e w1 ⟨rfl, hb1⟩
    have HB1 := Lib.hid (below_step (below_alloc (Below.refl _ w) _ (Nat.le_refl _)) hb1)
    have hcc : ∀ i, w1.cell? ⟨w.heap.size, i, none⟩ = _ := fun i => hb1.cell (p := ⟨w.heap.size, i, none⟩) (by show w.heap.size < (w.alloc _).heap.size; rw [World.size_alloc]; omega)
    have hwz : w.heap.size < w1.heap.size := Nat.lt_of_lt_of_le (by show w.heap.size < (w.alloc _).heap.size; rw [World.size_alloc]; omega) hb1.size
    clear hb1
    go_wp2_with fail
    refine start_n (S := fun W => W.cell? ⟨w.heap.size, 0, none⟩ = some (.string s) ∧ W.cell? ⟨w.heap.size, 2, none⟩ = some (.int .i64 m) ∧ W.cell? ⟨w.heap.size, 3, none⟩ = some (.slice none 0 0)) 18 #[false, false, false, false, false, false, false, false, false, false, false, false, false, false, false, false, false, false] (by kernel_rfl) rfl rfl ?_ (fun hHeld => ?_)
    · (try dsimp only)
      go_keep
    refine take_n 0 (some 12) #[true, false, false, false, false, false, false, false, false, false, false, false, false, false, false, false, false, false] (v := ?_) (a' := ?_) rfl rfl rfl (by kernel_rfl) (by kernel_rfl) (by kernel_rfl) (fun _ _ _ _ h => h) (Or.inl ⟨by rfl, ?_⟩) hHeld ?_ ?_
    rotate_left 2
    · intro w hSw
      (try dsimp only at hSw)
      go_simp
      all_goals (with_reducible rfl)
    · simp only [Act.put, List.setIfInBounds_toArray, List.set_cons_zero, List.set_cons_succ]
      rfl
    refine take_n 1 (some 13) #[true, true, false, false, false, false, false, false, false, false, false, false, false, false, false, false, false, false] (v := ?_) (a' := ?_) rfl rfl rfl (by kernel_rfl) (by kernel_rfl) (by kernel_rfl) (fun _ _ _ _ h => h) (Or.inl ⟨by rfl, ?_⟩) hHeld ?_ ?_
    rotate_left 2
    · intro w hSw
      (try dsimp only at hSw)
      go_simp
      all_goals (with_reducible rfl)
    · simp only [Act.put, List.setIfInBounds_toArray, List.set_cons_zero, List.set_cons_succ]
      rfl
    refine take_n 2 (some 14) #[true, true, true, false, false, false, false, false, false, false, false, false, false, false, false, false, false, false] (v := ?_) (a' := ?_) rfl rfl rfl (by kernel_rfl) (by kernel_rfl) (by kernel_rfl) (fun _ _ _ _ h => h) (Or.inl ⟨by rfl, ?_⟩) hHeld ?_ ?_
    rotate_left 2
    · intro w hSw
      (try dsimp only at hSw)
      go_simp
      (try rw [if_neg (by omega)])
      all_goals (with_reducible rfl)
    · simp only [Act.put, List.setIfInBounds_toArray, List.set_cons_zero, List.set_cons_succ]
      rfl
    refine take_n 3 (some 15) #[true, true, true, true, false, false, false, false, false, false, false, false, false, false, false, false, false, false] (v := ?_) (a' := ?_) rfl rfl rfl (by kernel_rfl) (by kernel_rfl) (by kernel_rfl) (fun _ _ _ _ h => h) (Or.inl ⟨by rfl, ?_⟩) hHeld ?_ ?_
    rotate_left 2
    · intro w hSw
      (try dsimp only at hSw)
      go_simp
      all_goals (with_reducible rfl)
    · simp only [Act.put, List.setIfInBounds_toArray, List.set_cons_zero, List.set_cons_succ]
      rfl
    refine take_n 4 (some 16) #[true, true, true, true, true, false, false, false, false, false, false, false, false, false, false, false, false, false] (v := ?_) (a' := ?_) rfl rfl rfl (by kernel_rfl) (by kernel_rfl) (by kernel_rfl) (fun _ _ _ _ h => h) (Or.inl ⟨by rfl, ?_⟩) hHeld ?_ ?_
    rotate_left 2
    · intro w hSw
      (try dsimp only at hSw)
      go_simp
      (try rw [if_neg (by omega)])
      all_goals (with_reducible rfl)
    · simp only [Act.put, List.setIfInBounds_toArray, List.set_cons_zero, List.set_cons_succ]
      rfl
    refine take_n 5 (some 17) #[true, true, true, true, true, true, false, false, false, false, false, false, false, false, false, false, false, false] (v := ?_) (a' := ?_) rfl rfl rfl (by kernel_rfl) (by kernel_rfl) (by kernel_rfl) (fun _ _ _ _ h => h) (Or.inl ⟨by rfl, ?_⟩) hHeld ?_ ?_
    rotate_left 2
    · intro w hSw
      (try dsimp only at hSw)
      go_simp
      (try rw [if_neg (by omega)])
      all_goals (with_reducible rfl)
    · simp only [Act.put, List.setIfInBounds_toArray, List.set_cons_zero, List.set_cons_succ]
      rfl
    refine take_n 6 (some 18) #[true, true, true, true, true, true, true, false, false, false, false, false, false, false, false, false, false, false] (v := ?_) (a' := ?_) rfl rfl rfl (by kernel_rfl) (by kernel_rfl) (by kernel_rfl) (fun _ _ _ _ h => h) (Or.inl ⟨by rfl, ?_⟩) hHeld ?_ ?_
    rotate_left 2
    · intro w hSw
      (try dsimp only at hSw)
      go_simp
      all_goals (with_reducible rfl)
    · simp only [Act.put, List.setIfInBounds_toArray, List.set_cons_zero, List.set_cons_succ]
      rfl
    refine take_n 7 (some 19) #[true, true, true, true, true, true, true, true, false, false, false, false, false, false, false, false, false, false] (v := ?_) (a' := ?_) rfl rfl rfl (by kernel_rfl) (by kernel_rfl) (by kernel_rfl) (fun _ _ _ _ h => h) (Or.inl ⟨by rfl, ?_⟩) hHeld ?_ ?_
    rotate_left 2
    · intro w hSw
      (try dsimp only at hSw)
      go_simp
      all_goals (with_reducible rfl)
    · simp only [Act.put, List.setIfInBounds_toArray, List.set_cons_zero, List.set_cons_succ]
      rfl
    refine take_n 11 (some 23) #[true, true, true, true, true, true, true, true, false, false, false, true, false, false, false, false, false, false] (v := ?_) (a' := ?_) rfl rfl rfl (by kernel_rfl) (by kernel_rfl) (by kernel_rfl) (fun _ _ _ _ h => h) (Or.inl ⟨by rfl, ?_⟩) hHeld ?_ ?_
    rotate_left 2
    · intro w hSw
      (try dsimp only at hSw)
      go_simp
      all_goals (with_reducible rfl)
    · simp only [Act.put, List.setIfInBounds_toArray, List.set_cons_zero, List.set_cons_succ]
      rfl
    refine take_n 12 (some 24) #[true, true, true, true, true, true, true, true, false, false, false, true, true, false, false, false, false, false] (v := ?_) (a' := ?_) rfl rfl rfl (by kernel_rfl) (by kernel_rfl) (by kernel_rfl) (fun _ _ _ _ h => h) (Or.inl ⟨by rfl, ?_⟩) hHeld ?_ ?_
    rotate_left 2
    · intro w hSw
      (try dsimp only at hSw)
      go_simp
      all_goals (with_reducible rfl)
    · simp only [Act.put, List.setIfInBounds_toArray, List.set_cons_zero, List.set_cons_succ]
      rfl
    refine take_n 13 (some 25) #[true, true, true, true, true, true, true, true, false, false, false, true, true, true, false, false, false, false] (v := ?_) (a' := ?_) rfl rfl rfl (by kernel_rfl) (by kernel_rfl) (by kernel_rfl) (fun _ _ _ _ h => h) (Or.inl ⟨by rfl, ?_⟩) hHeld ?_ ?_
    rotate_left 2
    · intro w hSw
      (try dsimp only at hSw)
      go_simp
      all_goals (with_reducible rfl)
    · simp only [Act.put, List.setIfInBounds_toArray, List.set_cons_zero, List.set_cons_succ]
      rfl
    refine one_n 8 #[true, true, true, true, true, true, true, true, true, false, false, true, true, true, false, false, false, false] rfl rfl (by kernel_rfl) (fun K hK => ?_)
    go_simp
    refine ((hT _).out).mono ?_
    rintro e w2 ⟨rfl, hb2⟩
    have HB2 := Lib.hid (below_step HB1.out (below_drew hb2))
    have hwz2 : w.heap.size < w2.heap.size := Nat.lt_of_lt_of_le hwz hb2.size
    refine hK.out _ ?_ _ ?_ ?_ (fun hHeld => ?_)
    rotate_left
    · (try simp only [Act.put, List.setIfInBounds_toArray, List.set_cons_zero, List.set_cons_succ])
      rfl
    · (try dsimp only)
      exact ⟨(hb2.cell (p := ⟨w.heap.size, 0, none⟩) hwz).trans hHeld.1, (hb2.cell (p := ⟨w.heap.size, 2, none⟩) hwz).trans hHeld.2.1, (hb2.cell (p := ⟨w.heap.size, 3, none⟩) hwz).trans hHeld.2.2⟩
    clear hK K
    refine take_n 9 (some 21) #[true, true, true, true, true, true, true, true, true, true, false, true, true, true, false, false, false, false] (v := ?_) (a' := ?_) rfl rfl rfl (by kernel_rfl) (by kernel_rfl) (by kernel_rfl) (fun _ _ _ _ h => h) (Or.inl ⟨by rfl, ?_⟩) hHeld ?_ ?_
    rotate_left 2
    · intro w hSw
      (try dsimp only at hSw)
      go_simp
      (try rw [if_neg (by omega)])
      all_goals (with_reducible rfl)
    · simp only [Act.put, List.setIfInBounds_toArray, List.set_cons_zero, List.set_cons_succ]
      rfl
    refine take_n 10 (some 22) #[true, true, true, true, true, true, true, true, true, true, true, true, true, true, false, false, false, false] (v := ?_) (a' := ?_) rfl rfl rfl (by kernel_rfl) (by kernel_rfl) (by kernel_rfl) (fun _ _ _ _ h => h) (Or.inl ⟨by rfl, ?_⟩) hHeld ?_ ?_
    rotate_left 2
    · intro w hSw
      (try dsimp only at hSw)
      go_simp
      (try rw [if_neg (by omega)])
      all_goals (with_reducible rfl)
    · simp only [Act.put, List.setIfInBounds_toArray, List.set_cons_zero, List.set_cons_succ]
      rfl
    refine one_n 14 #[true, true, true, true, true, true, true, true, true, true, true, true, true, true, true, false, false, false] rfl rfl (by kernel_rfl) (fun K hK => ?_)
    go_simp
    refine (text_0 _).mono ?_
    rintro e w3 ⟨rfl, hb3⟩
    have HB3 := Lib.hid (below_step HB2.out hb3)
    have hwz3 : w.heap.size < w3.heap.size := Nat.lt_of_lt_of_le hwz2 hb3.size
    refine hK.out _ ?_ _ ?_ ?_ (fun hHeld => ?_)
    rotate_left
    · (try simp only [Act.put, List.setIfInBounds_toArray, List.set_cons_zero, List.set_cons_succ])
      rfl
    · (try dsimp only)
      exact ⟨(hb3.cell (p := ⟨w.heap.size, 0, none⟩) hwz2).trans hHeld.1, (hb3.cell (p := ⟨w.heap.size, 2, none⟩) hwz2).trans hHeld.2.1, (hb3.cell (p := ⟨w.heap.size, 3, none⟩) hwz2).trans hHeld.2.2⟩
    clear hK K
    refine take_n 15 (some 27) #[true, true, true, true, true, true, true, true, true, true, true, true, true, true, true, true, false, false] (v := ?_) (a' := ?_) rfl rfl rfl (by kernel_rfl) (by kernel_rfl) (by kernel_rfl) (fun _ _ _ _ h => h) (Or.inl ⟨by rfl, ?_⟩) hHeld ?_ ?_
    rotate_left 2
    · intro w hSw
      (try dsimp only at hSw)
      go_simp
      (try rw [if_neg (by omega)])
      all_goals (with_reducible rfl)
    · simp only [Act.put, List.setIfInBounds_toArray, List.set_cons_zero, List.set_cons_succ]
      rfl
    refine one_n 16 #[true, true, true, true, true, true, true, true, true, true, true, true, true, true, true, true, true, false] rfl rfl (by kernel_rfl) (fun K hK => ?_)
    go_simp
    refine hK.out _ ?_ _ ?_ ?_ (fun hHeld => ?_)
    rotate_left
    · (try simp only [Act.put, List.setIfInBounds_toArray, List.set_cons_zero, List.set_cons_succ])
      rfl
    · (try dsimp only)
      go_keep
    clear hK K
    refine take_n 17 (some 4) #[true, true, true, true, true, true, true, true, true, true, true, true, true, true, true, true, true, true] (v := ?_) (a' := ?_) rfl rfl rfl (by kernel_rfl) (by kernel_rfl) (by kernel_rfl) (fun _ _ _ _ h => h) (Or.inl ⟨by rfl, ?_⟩) hHeld ?_ ?_
    rotate_left 2
    · intro w hSw
      (try dsimp only at hSw)
      go_simp
      all_goals (with_reducible rfl)
    · simp only [Act.put, List.setIfInBounds_toArray, List.set_cons_zero, List.set_cons_succ]
      rfl
    refine wpAnyH_done (by kernel_rfl) ?_ _
    go_wp2_with fail
    clear hHeld hcc
    refine wp_loop_rounds 1 ?_
    rw [rounds_succ]
    go_wp2_with fail
    go_ret
    refine ⟨w3.heap.size, rfl, ?_, by rw [World.size_alloc]; omega, HB3.out.alloc (by omega) _⟩
    rw [blk_cell (heap_alloc_new w3 _), HDM.out]
    rfl
end Go.Proofs.YtdpfmemcpipbkaaGreatDoor.Hand
end
section
/- desk.lines: what is told of an order that is done. -/
namespace Go.Proofs.YtdpfmemcpipbkaaGreatDoor.Hand
open Go.RowKit
set_option linter.unusedVariables false
set_option linter.unusedSimpArgs false
/-- An order's cells. -/
def ordC (v : Int) (p : ByteArray) (n : Int) : Array Value := #[.int .i64 v, .string p, .string ⟨#[]⟩, .int .i64 n, .string ⟨#[]⟩, .int .i64 0, .bool false, .int .i64 0, .int .i64 0, .int .i64 0]
structure GoodM (l : List Px) : Prop where
  good : Good l
  m : ∀ k, k < l.length → (l.getD k default).2.2 = 3 ∨ (l.getD k default).2.2 = 1
theorem infoStr : (Tryz.prog.info? 9).map (fun i => (i.zero, i.size, i.bytes)) = some (some (.string ⟨#[]⟩), 1, 16) := by kernel_rfl
set_option maxHeartbeats 8000000 in
set_option maxRecDepth 100000 in
theorem dlines_none (v : Int) (p : ByteArray) (n0 : Int) (hv8 : (v == 8) = false) (hv9 : (v == 9) = false) (l : List Px) (hg : GoodM l) (dk n cap : Nat) (a : Option Addr) (d r : Value) (w : World) (hd : w.heap[dk]? = some (.cells #[.slice a n cap, d, r] 94 (0, 0))) (h : RegAt w a n cap l) : Calls Tryz.prog 53 #[.pointer (some ⟨dk, 0, none⟩), .agg (ordC v p n0)] w fun e w' => e = .returned (.slice none 0 0) ∧ Below w.heap.size w w' := by
  have hc := (blk_cell hd 0)
  simp only [List.getElem?_toArray, List.getElem?_cons_zero] at hc
  have hdk := blk_lt hd
  have hl := Lib.hid h.len
  have hn8 : n ≤ 8 := by have := hg.good.few; have := h.len; omega
  unfold ordC
  have HD := Lib.hid hd
  clear hd
  go_enter Tryz.func53, Tryz.ntmps53
  go_wp2_with fail
  obtain ⟨w0, hw0⟩ : ∃ w0, w0 = w.alloc (.cells #[.int .i64 v, .string p, .string ⟨#[]⟩, .int .i64 n0, .string ⟨#[]⟩, .int .i64 0, .bool false, .int .i64 0, .int .i64 0, .int .i64 0] 57) := ⟨_, rfl⟩
  have hb0 : Below w.heap.size w w0 := by rw [hw0]; exact below_alloc (Below.refl _ w) _ (Nat.le_refl _)
  have hv0 : w0.cell? ⟨w.heap.size, 0, none⟩ = some (.int .i64 v) := by rw [hw0]; go_simp
  have hz0 : w.heap.size < w0.heap.size := by rw [hw0, World.size_alloc]; omega
  have hr0 := h.below hb0
  rw [← hw0]
  have HW0 := Lib.hid hw0
  have HB0 := Lib.hid hb0
  have HV0 := Lib.hid hv0
  have HR0 := Lib.hid hr0
  clear hw0 hb0 hv0 hr0 h hc

  go_loopw [5, 14] (fun u i wr => ∃ k : Nat, k ≤ n ∧ u = .slice none 0 0 ∧ i = .int .i64 k ∧ Below w0.heap.size w0 wr) (fun _ i _ => n - (intOf i).toNat)
  case atStart => exact ⟨0, Nat.zero_le _, rfl, rfl, Below.refl _ _⟩
  case round =>
    obtain ⟨k, hk, rfl, rfl, hb⟩ := hrel
    have hB := Lib.hid hb
    have H := Lib.hid (HR0.out.below hb)
    by_cases hlt : k < n
    · obtain ⟨g, rfl, c0, c1, c2, c3⟩ := H.out.at k hlt
      have hok := hg.good.ok k (by rw [hl.out]; exact hlt)
      have hmm := hg.m k (by rw [hl.out]; exact hlt)
      obtain ⟨⟨s, on, m⟩, hp⟩ : ∃ p, p = l.getD k default := ⟨_, rfl⟩
      rw [← hp] at hok hmm
      simp only [← hp] at c0 c1 c2 c3
      have HP := Lib.hid hp
      clear hp
      have hL := fun W => Lib.hid (lines_calls s on m hmm hok W)
      have hv := (hb.cell (p := ⟨w.heap.size, 0, none⟩) hz0).trans HV0.out
      have hwz : w.heap.size < wr.heap.size := Nat.lt_of_lt_of_le hz0 hb.size
      have HV := Lib.hid hv
      clear hb hok hmm hv
      go_wp2_with fail
      refine ((hL _).out).mono ?_
      rintro e w2 ⟨g2, rfl, hc2, hg2, hb2⟩
      have HB2 := Lib.hid (below_step (below_alloc (Below.refl _ wr) _ (Nat.le_refl _)) hb2)
      have hv2 := (HB2.out.cell (p := ⟨w.heap.size, 0, none⟩) hwz).trans HV.out
      clear hc2 hb2
      go_wp2_with fail
      go_roundw
      case rel => exact ⟨k + 1, by omega, rfl, by go_num, below_step hB.out HB2.out⟩
      case measure => simp [intOf]; omega
    · go_wp2_with fail
      go_ret
      exact ⟨rfl, below_step HB0.out hB.out⟩
set_option maxHeartbeats 8000000 in
set_option maxRecDepth 100000 in
theorem dlines_list (p : ByteArray) (n0 : Int) (l : List Px) (hg : GoodM l) (dk n cap : Nat) (a : Option Addr) (d r : Value) (w : World) (hd : w.heap[dk]? = some (.cells #[.slice a n cap, d, r] 94 (0, 0))) (h : RegAt w a n cap l) : Calls Tryz.prog 53 #[.pointer (some ⟨dk, 0, none⟩), .agg (ordC 8 p n0)] w fun e w' => ∃ u, e = .returned u ∧ w'.ownsRow w.heap.size 9 1 u l.length (l.map fun p => .string (lineOf p)) ∧ Below w.heap.size w w' := by
  obtain ⟨i0, hi0, hz0', hz1, hz2⟩ := info_parts infoStr
  have hc := (blk_cell hd 0)
  simp only [List.getElem?_toArray, List.getElem?_cons_zero] at hc
  have hdk := blk_lt hd
  have hl := Lib.hid h.len
  have hn8 : n ≤ 8 := by have := hg.good.few; have := h.len; omega
  unfold ordC
  have HD := Lib.hid hd
  clear hd
  go_enter Tryz.func53, Tryz.ntmps53
  go_wp2_with fail
  obtain ⟨w0, hw0⟩ : ∃ w0, w0 = w.alloc (.cells #[.int .i64 8, .string p, .string ⟨#[]⟩, .int .i64 n0, .string ⟨#[]⟩, .int .i64 0, .bool false, .int .i64 0, .int .i64 0, .int .i64 0] 57) := ⟨_, rfl⟩
  have hb0 : Below w.heap.size w w0 := by rw [hw0]; exact below_alloc (Below.refl _ w) _ (Nat.le_refl _)
  have hv0 : w0.cell? ⟨w.heap.size, 0, none⟩ = some (.int .i64 8) := by rw [hw0]; go_simp
  have hz0 : w.heap.size < w0.heap.size := by rw [hw0, World.size_alloc]; omega
  have hr0 := h.below hb0
  rw [← hw0]
  have HW0 := Lib.hid hw0
  have HB0 := Lib.hid hb0
  have HV0 := Lib.hid hv0
  have HR0 := Lib.hid hr0
  clear hw0 hb0 hv0 hr0 h hc

  go_loopw [5, 14] (fun u i wr => ∃ k : Nat, k ≤ n ∧ i = .int .i64 k ∧ Below w0.heap.size w0 wr ∧ wr.ownsRow w0.heap.size 9 1 u k ((l.take k).map fun p => .string (lineOf p))) (fun _ i _ => n - (intOf i).toNat)
  case atStart => exact ⟨0, Nat.zero_le _, rfl, Below.refl _ _, World.ownsRow_nil _ _ _ _⟩
  case round =>
    obtain ⟨k, hk, rfl, hb, hown⟩ := hrel
    have HOWN := Lib.hid hown
    clear hown
    have hB := Lib.hid hb
    have H := Lib.hid (HR0.out.below hb)
    by_cases hlt : k < n
    · obtain ⟨g, rfl, c0, c1, c2, c3⟩ := H.out.at k hlt
      have hok := hg.good.ok k (by rw [hl.out]; exact hlt)
      have hmm := hg.m k (by rw [hl.out]; exact hlt)
      obtain ⟨⟨s, on, m⟩, hp⟩ : ∃ p, p = l.getD k default := ⟨_, rfl⟩
      rw [← hp] at hok hmm
      simp only [← hp] at c0 c1 c2 c3
      have HP := Lib.hid hp
      clear hp
      have hL := fun W => Lib.hid (lines_calls s on m hmm hok W)
      have hv := (hb.cell (p := ⟨w.heap.size, 0, none⟩) hz0).trans HV0.out
      have hwz : w.heap.size < wr.heap.size := Nat.lt_of_lt_of_le hz0 hb.size
      have HV := Lib.hid hv
      clear hb hok hmm hv
      go_wp2_with fail
      refine ((hL _).out).mono ?_
      rintro e w2 ⟨g2, rfl, hc2, hg2, hb2⟩
      have HB2 := Lib.hid (below_step (below_alloc (Below.refl _ wr) _ (Nat.le_refl _)) hb2)
      have hv2 := (HB2.out.cell (p := ⟨w.heap.size, 0, none⟩) hwz).trans HV.out
      have hw2z : w0.heap.size ≤ w2.heap.size := Nat.le_trans hB.out.size HB2.out.size
      have ho2 : w2.ownsRow w0.heap.size 9 1 u5 k ((l.take k).map fun p => .string (lineOf p)) := HOWN.out.kept (row := none) ⟨HB2.out.os, HB2.out.tape, HB2.out.output, HB2.out.size, fun i hi _ => HB2.out.block i hi⟩ (by cases u5.ownBlock <;> simp)
      have HO2 := Lib.hid ho2
      clear hb2 ho2
      go_wp2_with (at_builtin; refine wpList_append_own _ rfl (.tmp 24) (.tmp 28) 38 rfl w0.heap.size 9 i0 _ 1 16 Tryz.underlying38 hi0 hz0' hz1 hz2 rfl (by omega) _ _ _ rfl (HO2.out.alloc _) ⟨w2.heap.size, 0, none⟩ 1 1 [.string (lineOf (s, on, m))] rfl rfl ?qc2 ?qc3 ?qc4 ?qc5 ?qc6 ?_)
      case qc2 =>
        intro j u hj
        rw [Addr.add_lit, Nat.zero_add]
        exact (blk_cell (heap_alloc_new w2 _) j).trans (by rw [← hj]; simp)
      case qc3 => simp [Value.oneCell']
      case qc4 => simp only [maxLen]; omega
      case qc5 => omega
      case qc6 => simp; omega
      intro v5 w5 hown5 hgrow5 hnil5
      have hgr : Below w0.heap.size w0 w5 := (((hB.out.trans (HB2.out.mono hB.out.size)).alloc hw2z _)).grown hgrow5 (by simp; omega) (fun k hk => (HO2.out.lt k hk).1)
      have HGR := Lib.hid hgr
      have hst : (l.take (k + 1)).map (fun p : Px => Value.string (lineOf p)) = (l.take k).map (fun p : Px => Value.string (lineOf p)) ++ [.string (lineOf (s, on, m))] := by
        rw [List.take_succ_eq_append_getElem (by rw [hl.out]; exact hlt), List.map_append, HP.out]
        simp [hl.out, hlt]
      have HO5 : Hid (w5.ownsRow w0.heap.size 9 1 v5 (k + 1) ((l.take (k + 1)).map fun p : Px => Value.string (lineOf p))) := by rw [hst, List.map_take]; exact hown5
      clear hown5 hgrow5 hnil5 hgr hst
      go_wp2_with fail
      go_roundw
      case rel => exact ⟨k + 1, by omega, by go_num, HGR.out, HO5.out⟩
      case measure => simp [intOf]; omega
    · go_wp2_with fail
      go_ret
      have hkn : k = l.length := by rw [hl.out]; omega
      have ho := HOWN.out
      rw [hkn, List.take_length] at ho
      exact ⟨_, rfl, ⟨ho.1, ho.2.imp id (fun ⟨g, c, cu, a1, a2, a3⟩ => ⟨g, c, cu, a1, by omega, a3⟩)⟩, below_step HB0.out hB.out⟩
end Go.Proofs.YtdpfmemcpipbkaaGreatDoor.Hand
end
