/- does: a call on a ring, as the document says. -/
import Derived.Test.YtbplfoanhfmheaaRing10
namespace Go.Proofs.Ytbplfoanhfmheaa.Hand
open Go.RowKit Go.Proofs.YtbplfoanhfmheaaW.PrintWords Go.Proofs.YtbplfoanhfmheaaW.PrintLast Go.Proofs.YtbplfoanhfmheaaW.PrintMore
set_option linter.unusedVariables false
set_option linter.unusedSimpArgs false
def TDoesR : Bool × List (List Nat × List Nat) := (true, [([], []), ([], []), ([1], [1]), ([0, 2], [0, 2]), ([3], [3]), ([3], []), ([4, 5, 0, 1, 2, 3, 4, 5], [4])])
def BDoesR : List Nat := [0, 0, 2, 7, 15, 15, 63]
theorem tabDoesR : rtab .any (opsOf Try.f20 7) = TDoesR := by kernel_rfl
theorem bitsDoesR : waitsOk TDoesR.2 BDoesR = true := by kernel_rfl
def TDoesP : Bool × List (List Nat × List Nat) := (true, [([], []), ([], []), ([1], [1]), ([0, 2], [0, 2]), ([3], [3]), ([3], []), ([4, 5, 0, 1, 2, 3, 4, 5], [4])])
def BDoesP : List Nat := [0, 0, 2, 7, 15, 15, 63]
theorem tabDoesP : rtab .any (opsOf Try.f20 9) = TDoesP := by kernel_rfl
theorem bitsDoesP : waitsOk TDoesP.2 BDoesP = true := by kernel_rfl
/-- What a call does with a text: the text behind it, a number, a text. -/
def doT (room : Int) (s : ByteArray) (k n : Int) (t : ByteArray) : ByteArray × Int × ByteArray :=
  if k = 0 then (s ++ t.extract 0 (wrT room s t), (wrT room s t : Int), ⟨#[]⟩)
  else if k = 1 then (s ++ t, 0, ⟨#[]⟩)
  else if k = 2 then (s.extract (cutN n s.size) s.size, 0, s.extract 0 (cutN n s.size))
  else if k = 3 then (s, 0, s.extract 0 (cutN n s.size))
  else if k = 4 then (s.extract (cutN n s.size) s.size, (cutN n s.size : Int), ⟨#[]⟩)
  else if k = 5 then (⟨#[]⟩, (s.size : Int), ⟨#[]⟩)
  else (s, 0, ⟨#[]⟩)
section
variable {w : World} {g b : Nat} {room : Int} {s : ByteArray}
def Did (w w' : World) (g b : Nat) (room : Int) (s' : ByteArray) : Prop := ∃ b', Txt w' g b' room s' ∧ (b' = b ∨ w.heap.size ≤ b') ∧ Fr (fun i => i = g ∨ i = b) w w'
theorem Did.of_below {w' : World} (h : Txt w g b room s) (hb : Below w.heap.size w w') : Did w w' g b room s := ⟨b, h.below hb, .inl rfl, Fr.of_below hb⟩
theorem Did.after {wa w' : World} {s' : ByteArray} (hba : Below w.heap.size w wa) (hd : Did wa w' g b room s') : Did w w' g b room s' := by
  obtain ⟨b', hr, hb, hf⟩ := hd
  have := hba.size
  exact ⟨b', hr, by omega, Fr.trans (Fr.of_below hba) hf (fun i h => h) (fun i _ h => h)⟩
theorem alloc_size (w : World) (o : Obj) : w.heap.size + 1 = (w.alloc o).heap.size := by rw [World.size_alloc]
set_option maxHeartbeats 2000000 in
theorem does_write (h : Txt w g b room s) (h0 : 0 ≤ room) (h1 : room ≤ 1000000) (n : Int) (t : ByteArray) (hk : s.size + t.size ≤ 1000000) :
    Calls Try.prog 20 #[.pointer (some ⟨g, 0, none⟩), .agg #[.int .i64 0, .int .i64 n, .string t]] w fun e w' => e = .returned (.tuple #[.int .i64 (wrT room s t), .string ⟨#[]⟩]) ∧ Did w w' g b room (s ++ t.extract 0 (wrT room s t)) := by
  have kb := fun W (s : ByteArray) => print_bytes (P := Try.prog) 9 32 5 Try.underlying9 Try.underlying32 Try.underlying5 s W
  have H := Lib.hid h
  clear h
  go_enter Try.func20, Try.ntmps20
  go_wp2_with fail
  rw [alloc_size w (.cells #[.int .i64 0, .int .i64 n, .string t] 30)]
  generalize hwa : w.alloc _ = wa
  have hba : Below w.heap.size w wa := hwa ▸ below_alloc (Below.refl _ _) _
  have HA := H.out.below hba
  have HBA := Lib.hid hba
  clear hwa hba H
  have hgc := grownCap_ge wa t.size 0 5
  refine (Txt.write HA h0 h1 t _ hgc (by omega)).mono ?_
  rintro e w1 ⟨rfl, hd⟩
  have HD := Lib.hid (Did.after HBA.out hd)
  clear hd hgc HA HBA
  go_wp2_with fail
  go_ret2
  exact ⟨rfl, HD.out⟩
set_option maxHeartbeats 2000000 in
theorem does_force (h : Txt w g b room s) (h0 : 0 ≤ room) (h1 : room ≤ 1000000) (n : Int) (t : ByteArray) (hk : s.size + t.size ≤ 1000000) :
    Calls Try.prog 20 #[.pointer (some ⟨g, 0, none⟩), .agg #[.int .i64 1, .int .i64 n, .string t]] w fun e w' => e = .returned (.tuple #[.int .i64 0, .string ⟨#[]⟩]) ∧ Did w w' g b room (s ++ t) := by
  have kb := fun W (s : ByteArray) => print_bytes (P := Try.prog) 9 32 5 Try.underlying9 Try.underlying32 Try.underlying5 s W
  have H := Lib.hid h
  clear h
  go_enter Try.func20, Try.ntmps20
  go_wp2_with fail
  rw [alloc_size w (.cells #[.int .i64 1, .int .i64 n, .string t] 30)]
  generalize hwa : w.alloc _ = wa
  have hba : Below w.heap.size w wa := hwa ▸ below_alloc (Below.refl _ _) _
  have HA := H.out.below hba
  have HBA := Lib.hid hba
  clear hwa hba H
  refine (Txt.force HA t _ (by omega)).mono ?_
  rintro e w1 ⟨rfl, hd⟩
  have HD := Lib.hid (Did.after HBA.out hd)
  clear hd HA HBA
  go_wp2_with fail
  go_ret2
  exact ⟨rfl, HD.out⟩
set_option maxHeartbeats 2000000 in
theorem does_read (h : Txt w g b room s) (h0 : 0 ≤ room) (h1 : room ≤ 1000000) (n : Int) (t : ByteArray) (hk : s.size + t.size ≤ 1000000) :
    Calls Try.prog 20 #[.pointer (some ⟨g, 0, none⟩), .agg #[.int .i64 2, .int .i64 n, .string t]] w fun e w' => e = .returned (.tuple #[.int .i64 0, .string (s.extract 0 (cutN n s.size))]) ∧ Did w w' g b room (s.extract (cutN n s.size) s.size) := by
  have kb := fun W (s : ByteArray) => print_bytes (P := Try.prog) 9 32 5 Try.underlying9 Try.underlying32 Try.underlying5 s W
  have H := Lib.hid h
  clear h
  go_enter Try.func20, Try.ntmps20
  go_wp2_with fail
  obtain ⟨q, hq⟩ : ∃ q, w.heap.size = q := ⟨_, rfl⟩
  have hcell : (w.alloc (.cells #[.int .i64 2, .int .i64 n, .string t] 30)).cell? ⟨q, 1, none⟩ = some (.int .i64 n) := by rw [← hq]; go_simp
  rw [hq]
  generalize hwa : w.alloc _ = wa at hcell ⊢
  have hba : Below w.heap.size w wa := hwa ▸ below_alloc (Below.refl _ _) _
  have hg := H.out.lt
  have HQ : Hid (¬ q = g) := Lib.hid (by omega)
  have HA := Lib.hid (H.out.below hba)
  have HBA := Lib.hid hba
  have CELL := Lib.hid hcell
  clear hwa hba H hcell hg
  have n0_ : Aside0 (wa.drew.cell? ⟨q, 1, none⟩ = some (.int .i64 n)) := Aside0.mk CELL.out; clear CELL; have CELL := n0_; clear n0_
  have n0_ : Aside0 (Txt wa.drew g b room s) := Aside0.mk (HA.out.below (below_drew1 (Below.refl _ _))); clear HA; have HA := n0_; clear n0_
  have n0_ : Aside0 (Below w.heap.size w wa.drew) := Aside0.mk (below_drew1 HBA.out); clear HBA; have HBA := n0_; clear n0_
  refine start_ (n := 7) (S := fun w' => w'.cell? ⟨q, 1, none⟩ = some (.int .i64 n)) (ds := []) #[false, false, false, false, false, false, false] (by kernel_rfl) rfl rfl CELL.out (fun hHeld => ?_); refine with_tabW tabDoesR bitsDoesR (fun HT_ HW_ => ?_)
  generalize wa.drew = wd at CELL HA HBA hHeld ⊢
  refine pure_ (i := 0) (N := some 24) (v := ?_) (a' := ?_) #[true, false, false, false, false, false, false] rfl rfl (any_of HT_.out (by kernel_rfl)) (fun _ _ _ h => h) (Or.inl ⟨by rfl, ?_⟩) ?_ ?_
  rotate_left
  · intro w'
    go_simp
    with_reducible rfl
  rotate_left
  · simp only [Act.put, List.setIfInBounds_toArray, List.set_cons_zero, List.set_cons_succ, i64_w, i32_w]
    rfl
  refine pure_ (i := 1) (N := some 25) (v := ?_) (a' := ?_) #[true, true, false, false, false, false, false] rfl rfl (any_of HT_.out (by kernel_rfl)) (fun _ _ _ h => h) (Or.inl ⟨by rfl, ?_⟩) ?_ ?_
  rotate_left
  · intro w'
    go_simp
    with_reducible rfl
  rotate_left
  · simp only [Act.put, List.setIfInBounds_toArray, List.set_cons_zero, List.set_cons_succ, i64_w, i32_w]
    rfl
  refine take_ (i := 2) (N := some 26) (v := ?_) (a' := ?_) #[true, true, true, false, false, false, false] rfl rfl (take_ofW HT_.out HW_.out (by kernel_rfl)) (fun _ _ _ h => h) (Or.inl ⟨by rfl, ?_⟩) hHeld ?_ ?_
  rotate_left
  · rintro w' s0
    go_simp
    with_reducible rfl
  rotate_left
  · simp only [Act.put, List.setIfInBounds_toArray, List.set_cons_zero, List.set_cons_succ, i64_w, i32_w]
    rfl
  refine one_ (i := 3) (N := some 27) #[true, true, true, true, false, false, false] rfl rfl (one_of HT_.out (by kernel_rfl)) (by decide) (fun K hK => ?_)
  refine goes_ Try.func15 (by kernel_rfl) rfl #[.pointer (some ⟨g, 0, none⟩), .int .i64 n] (by rfl) rfl rfl (by (try simp only [List.map_toArray, List.map_cons, List.map_nil]); first | done | rfl) ?_
  refine (Txt.read HA.out n (by omega)).mono ?_
  rintro e w1 ⟨rfl, hrow, ht, hf⟩
  have hcell : w1.cell? ⟨q, 1, none⟩ = some (.int .i64 n) := hf.cell HQ.out CELL.out
  have CELL := Aside0.mk hcell
  have HROW := Aside0.mk hrow
  have HD : Aside0 (Did w w1 g b room (s.extract (cutN n s.size) s.size)) := Aside0.mk (Did.after HBA.out ⟨b, ht, .inl rfl, hf.mono (fun i h => .inl h)⟩)
  clear hcell hrow ht hf HA HBA
  refine ⟨_, rfl, ?_⟩
  refine hK.out _ _ CELL.out (fun hHeld => ?_)
  clear hK K
  refine norm_ (a' := ?_) ?_ ?_
  rotate_left
  · show Act.put _ (some 27) _ = _
    simp only [Act.put, List.setIfInBounds_toArray, List.set_cons_zero, List.set_cons_succ, i64_w, i32_w]
    rfl
  refine pure_ (i := 5) (N := some 4) (v := ?_) (a' := ?_) #[true, true, true, true, false, true, false] rfl rfl (any_of HT_.out (by kernel_rfl)) (fun _ _ _ h => h) (Or.inl ⟨by rfl, ?_⟩) ?_ ?_
  rotate_left
  · intro w'
    go_simp
    with_reducible rfl
  rotate_left
  · simp only [Act.put, List.setIfInBounds_toArray, List.set_cons_zero, List.set_cons_succ, i64_w, i32_w]
    rfl
  refine one_ (i := 4) (N := some 28) #[true, true, true, true, true, true, false] rfl rfl (one_of HT_.out (by kernel_rfl)) (by decide) (fun K hK => ?_)
  refine value_ (by rfl) rfl (v := .string (s.extract 0 (cutN n s.size))) (w1 := w1) ?_ ?_
  · have hcv := Row.conv (c := cutN n s.size) HROW.out (cut_size n s) (by have := cut_size n s; have := cutN_le n s.size; omega)
    go_simp
  refine hK.out _ _ CELL.out (fun hHeld => ?_)
  clear hK K
  refine norm_ (a' := ?_) ?_ ?_
  rotate_left
  · show Act.put _ (some 28) _ = _
    simp only [Act.put, List.setIfInBounds_toArray, List.set_cons_zero, List.set_cons_succ, i64_w, i32_w]
    rfl
  refine pure_ (i := 6) (N := some 5) (v := ?_) (a' := ?_) #[true, true, true, true, true, true, true] rfl rfl (any_of HT_.out (by kernel_rfl)) (fun _ _ _ h => h) (Or.inl ⟨by rfl, ?_⟩) ?_ ?_
  rotate_left
  · intro w'
    go_simp
    with_reducible rfl
  rotate_left
  · simp only [Act.put, List.setIfInBounds_toArray, List.set_cons_zero, List.set_cons_succ, i64_w, i32_w]
    rfl
  refine done_ (done_of HT_.out (by kernel_rfl)) ?_
  go_wp2_with fail
  go_ret2
  exact ⟨rfl, HD.out⟩
set_option maxHeartbeats 2000000 in
theorem does_peek (h : Txt w g b room s) (h0 : 0 ≤ room) (h1 : room ≤ 1000000) (n : Int) (t : ByteArray) (hk : s.size + t.size ≤ 1000000) :
    Calls Try.prog 20 #[.pointer (some ⟨g, 0, none⟩), .agg #[.int .i64 3, .int .i64 n, .string t]] w fun e w' => e = .returned (.tuple #[.int .i64 0, .string (s.extract 0 (cutN n s.size))]) ∧ Did w w' g b room s := by
  have kb := fun W (s : ByteArray) => print_bytes (P := Try.prog) 9 32 5 Try.underlying9 Try.underlying32 Try.underlying5 s W
  have H := Lib.hid h
  clear h
  go_enter Try.func20, Try.ntmps20
  go_wp2_with fail
  obtain ⟨q, hq⟩ : ∃ q, w.heap.size = q := ⟨_, rfl⟩
  have hcell : (w.alloc (.cells #[.int .i64 3, .int .i64 n, .string t] 30)).cell? ⟨q, 1, none⟩ = some (.int .i64 n) := by rw [← hq]; go_simp
  rw [hq]
  generalize hwa : w.alloc _ = wa at hcell ⊢
  have hba : Below w.heap.size w wa := hwa ▸ below_alloc (Below.refl _ _) _
  have hg := H.out.lt
  have HQ : Hid (¬ q = g) := Lib.hid (by omega)
  have HA := Lib.hid (H.out.below hba)
  have HBA := Lib.hid hba
  have CELL := Lib.hid hcell
  clear hwa hba H hcell hg
  have n0_ : Aside0 (wa.drew.cell? ⟨q, 1, none⟩ = some (.int .i64 n)) := Aside0.mk CELL.out; clear CELL; have CELL := n0_; clear n0_
  have n0_ : Aside0 (Txt wa.drew g b room s) := Aside0.mk (HA.out.below (below_drew1 (Below.refl _ _))); clear HA; have HA := n0_; clear n0_
  have n0_ : Aside0 (Below w.heap.size w wa.drew) := Aside0.mk (below_drew1 HBA.out); clear HBA; have HBA := n0_; clear n0_
  refine start_ (n := 7) (S := fun w' => w'.cell? ⟨q, 1, none⟩ = some (.int .i64 n)) (ds := []) #[false, false, false, false, false, false, false] (by kernel_rfl) rfl rfl CELL.out (fun hHeld => ?_); refine with_tabW tabDoesP bitsDoesP (fun HT_ HW_ => ?_)
  generalize wa.drew = wd at CELL HA HBA hHeld ⊢
  refine pure_ (i := 0) (N := some 31) (v := ?_) (a' := ?_) #[true, false, false, false, false, false, false] rfl rfl (any_of HT_.out (by kernel_rfl)) (fun _ _ _ h => h) (Or.inl ⟨by rfl, ?_⟩) ?_ ?_
  rotate_left
  · intro w'
    go_simp
    with_reducible rfl
  rotate_left
  · simp only [Act.put, List.setIfInBounds_toArray, List.set_cons_zero, List.set_cons_succ, i64_w, i32_w]
    rfl
  refine pure_ (i := 1) (N := some 32) (v := ?_) (a' := ?_) #[true, true, false, false, false, false, false] rfl rfl (any_of HT_.out (by kernel_rfl)) (fun _ _ _ h => h) (Or.inl ⟨by rfl, ?_⟩) ?_ ?_
  rotate_left
  · intro w'
    go_simp
    with_reducible rfl
  rotate_left
  · simp only [Act.put, List.setIfInBounds_toArray, List.set_cons_zero, List.set_cons_succ, i64_w, i32_w]
    rfl
  refine take_ (i := 2) (N := some 33) (v := ?_) (a' := ?_) #[true, true, true, false, false, false, false] rfl rfl (take_ofW HT_.out HW_.out (by kernel_rfl)) (fun _ _ _ h => h) (Or.inl ⟨by rfl, ?_⟩) hHeld ?_ ?_
  rotate_left
  · rintro w' s0
    go_simp
    with_reducible rfl
  rotate_left
  · simp only [Act.put, List.setIfInBounds_toArray, List.set_cons_zero, List.set_cons_succ, i64_w, i32_w]
    rfl
  refine one_ (i := 3) (N := some 34) #[true, true, true, true, false, false, false] rfl rfl (one_of HT_.out (by kernel_rfl)) (by decide) (fun K hK => ?_)
  refine goes_ Try.func17 (by kernel_rfl) rfl #[.pointer (some ⟨g, 0, none⟩), .int .i64 n] (by rfl) rfl rfl (by (try simp only [List.map_toArray, List.map_cons, List.map_nil]); first | done | rfl) ?_
  refine (Txt.peek HA.out n).mono ?_
  rintro e w1 ⟨rfl, hrow, hf⟩
  have hcell : w1.cell? ⟨q, 1, none⟩ = some (.int .i64 n) := pw_cell_below hf CELL.out
  have CELL := Aside0.mk hcell
  have HROW := Aside0.mk hrow
  have HD : Aside0 (Did w w1 g b room s) := Aside0.mk (Did.after HBA.out (Did.of_below HA.out hf))
  clear hcell hrow hf HA HBA
  refine ⟨_, rfl, ?_⟩
  refine hK.out _ _ CELL.out (fun hHeld => ?_)
  clear hK K
  refine norm_ (a' := ?_) ?_ ?_
  rotate_left
  · show Act.put _ (some 34) _ = _
    simp only [Act.put, List.setIfInBounds_toArray, List.set_cons_zero, List.set_cons_succ, i64_w, i32_w]
    rfl
  refine pure_ (i := 5) (N := some 4) (v := ?_) (a' := ?_) #[true, true, true, true, false, true, false] rfl rfl (any_of HT_.out (by kernel_rfl)) (fun _ _ _ h => h) (Or.inl ⟨by rfl, ?_⟩) ?_ ?_
  rotate_left
  · intro w'
    go_simp
    with_reducible rfl
  rotate_left
  · simp only [Act.put, List.setIfInBounds_toArray, List.set_cons_zero, List.set_cons_succ, i64_w, i32_w]
    rfl
  refine one_ (i := 4) (N := some 35) #[true, true, true, true, true, true, false] rfl rfl (one_of HT_.out (by kernel_rfl)) (by decide) (fun K hK => ?_)
  refine value_ (by rfl) rfl (v := .string (s.extract 0 (cutN n s.size))) (w1 := w1) ?_ ?_
  · have hcv := Row.conv (c := cutN n s.size) HROW.out (cut_size n s) (by have := cut_size n s; have := cutN_le n s.size; omega)
    go_simp
  refine hK.out _ _ CELL.out (fun hHeld => ?_)
  clear hK K
  refine norm_ (a' := ?_) ?_ ?_
  rotate_left
  · show Act.put _ (some 35) _ = _
    simp only [Act.put, List.setIfInBounds_toArray, List.set_cons_zero, List.set_cons_succ, i64_w, i32_w]
    rfl
  refine pure_ (i := 6) (N := some 5) (v := ?_) (a' := ?_) #[true, true, true, true, true, true, true] rfl rfl (any_of HT_.out (by kernel_rfl)) (fun _ _ _ h => h) (Or.inl ⟨by rfl, ?_⟩) ?_ ?_
  rotate_left
  · intro w'
    go_simp
    with_reducible rfl
  rotate_left
  · simp only [Act.put, List.setIfInBounds_toArray, List.set_cons_zero, List.set_cons_succ, i64_w, i32_w]
    rfl
  refine done_ (done_of HT_.out (by kernel_rfl)) ?_
  go_wp2_with fail
  go_ret2
  exact ⟨rfl, HD.out⟩
set_option maxHeartbeats 2000000 in
theorem does_drop (h : Txt w g b room s) (h0 : 0 ≤ room) (h1 : room ≤ 1000000) (n : Int) (t : ByteArray) (hk : s.size + t.size ≤ 1000000) :
    Calls Try.prog 20 #[.pointer (some ⟨g, 0, none⟩), .agg #[.int .i64 4, .int .i64 n, .string t]] w fun e w' => e = .returned (.tuple #[.int .i64 (cutN n s.size), .string ⟨#[]⟩]) ∧ Did w w' g b room (s.extract (cutN n s.size) s.size) := by
  have kb := fun W (s : ByteArray) => print_bytes (P := Try.prog) 9 32 5 Try.underlying9 Try.underlying32 Try.underlying5 s W
  have H := Lib.hid h
  clear h
  go_enter Try.func20, Try.ntmps20
  go_wp2_with fail
  generalize hwa : w.alloc _ = wa
  have hba : Below w.heap.size w wa := hwa ▸ below_alloc (Below.refl _ _) _
  have HA := H.out.below hba
  have HBA := Lib.hid hba
  clear hwa hba H
  refine (Txt.drop HA n).mono ?_
  rintro e w1 ⟨rfl, ht, hf⟩
  have HD : Hid (Did w w1 g b room (s.extract (cutN n s.size) s.size)) := Lib.hid (Did.after HBA.out ⟨b, ht, .inl rfl, hf.mono (fun i h => .inl h)⟩)
  clear ht hf HA HBA
  go_wp2_with fail
  go_ret2
  exact ⟨rfl, HD.out⟩
set_option maxHeartbeats 2000000 in
theorem does_clear (h : Txt w g b room s) (h0 : 0 ≤ room) (h1 : room ≤ 1000000) (n : Int) (t : ByteArray) (hk : s.size + t.size ≤ 1000000) :
    Calls Try.prog 20 #[.pointer (some ⟨g, 0, none⟩), .agg #[.int .i64 5, .int .i64 n, .string t]] w fun e w' => e = .returned (.tuple #[.int .i64 (s.size : Int), .string ⟨#[]⟩]) ∧ Did w w' g b room ⟨#[]⟩ := by
  have kb := fun W (s : ByteArray) => print_bytes (P := Try.prog) 9 32 5 Try.underlying9 Try.underlying32 Try.underlying5 s W
  have H := Lib.hid h
  clear h
  go_enter Try.func20, Try.ntmps20
  go_wp2_with fail
  generalize hwa : w.alloc _ = wa
  have hba : Below w.heap.size w wa := hwa ▸ below_alloc (Below.refl _ _) _
  have HA := H.out.below hba
  have HBA := Lib.hid hba
  clear hwa hba H
  refine (Txt.clear HA).mono ?_
  rintro e w1 ⟨rfl, ht, hf⟩
  have HD : Hid (Did w w1 g b room ⟨#[]⟩) := Lib.hid (Did.after HBA.out ⟨b, ht, .inl rfl, hf⟩)
  clear ht hf HA HBA
  go_wp2_with fail
  go_ret2
  exact ⟨rfl, HD.out⟩
set_option maxHeartbeats 2000000 in
theorem does_none (h : Txt w g b room s) (h0 : 0 ≤ room) (h1 : room ≤ 1000000) (k : Int) (hk0 : k ≠ 0) (hk1 : k ≠ 1) (hk2 : k ≠ 2) (hk3 : k ≠ 3) (hk4 : k ≠ 4) (hk5 : k ≠ 5) (n : Int) (t : ByteArray) (hk : s.size + t.size ≤ 1000000) :
    Calls Try.prog 20 #[.pointer (some ⟨g, 0, none⟩), .agg #[.int .i64 k, .int .i64 n, .string t]] w fun e w' => e = .returned (.tuple #[.int .i64 0, .string ⟨#[]⟩]) ∧ Did w w' g b room s := by
  have kb := fun W (s : ByteArray) => print_bytes (P := Try.prog) 9 32 5 Try.underlying9 Try.underlying32 Try.underlying5 s W
  have H := Lib.hid h
  clear h
  go_enter Try.func20, Try.ntmps20
  go_wp2_with fail
  go_ret2
  exact ⟨rfl, Did.of_below H.out (below_alloc (Below.refl _ _) _)⟩
end
theorem does_calls {w : World} {g b : Nat} {room : Int} {s : ByteArray} (h : Txt w g b room s) (h0 : 0 ≤ room) (h1 : room ≤ 1000000) (k n : Int) (t : ByteArray) (hk : s.size + t.size ≤ 1000000) :
    Calls Try.prog 20 #[.pointer (some ⟨g, 0, none⟩), .agg #[.int .i64 k, .int .i64 n, .string t]] w fun e w' => e = .returned (.tuple #[.int .i64 (doT room s k n t).2.1, .string (doT room s k n t).2.2]) ∧ Did w w' g b room (doT room s k n t).1 := by
  unfold doT
  by_cases k0 : k = 0
  · subst k0; exact does_write h h0 h1 n t hk
  rw [if_neg k0]
  by_cases k1 : k = 1
  · subst k1; exact does_force h h0 h1 n t hk
  rw [if_neg k1]
  by_cases k2 : k = 2
  · subst k2; exact does_read h h0 h1 n t hk
  rw [if_neg k2]
  by_cases k3 : k = 3
  · subst k3; exact does_peek h h0 h1 n t hk
  rw [if_neg k3]
  by_cases k4 : k = 4
  · subst k4; exact does_drop h h0 h1 n t hk
  rw [if_neg k4]
  by_cases k5 : k = 5
  · subst k5; exact does_clear h h0 h1 n t hk
  rw [if_neg k5]
  exact does_none h h0 h1 k k0 k1 k2 k3 k4 k5 n t hk
end Go.Proofs.Ytbplfoanhfmheaa.Hand
