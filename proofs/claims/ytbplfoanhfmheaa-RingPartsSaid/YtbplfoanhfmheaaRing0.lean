/- What a ring is in memory: a struct block, and the block of its bytes. Definitions and small lemmas. -/
import Derived.Test.YtbplfoanhfmheaaProg
import Derived.Test.YtbplfoanhfmheaaWMore
import Derived.Test.YtbplfoanhfmheaaWNEv
import Derived.Lib.Hide
namespace Go.Proofs.Ytbplfoanhfmheaa.Hand
open Go.RowKit Go.Proofs.YtbplfoanhfmheaaW.PrintWords Go.Proofs.YtbplfoanhfmheaaW.PrintLast Go.Proofs.YtbplfoanhfmheaaW.PrintMore
set_option linter.unusedVariables false

def bytesV (cs : List Int) : List Value := cs.map (Value.int .u8)
theorem bytesV_length (cs : List Int) : (bytesV cs).length = cs.length := List.length_map _
structure RingAt (w : World) (g b at_ many n : Nat) (room : Int) (cs : List Int) : Prop where
  hg : w.heap[g]? = some (.cells #[.slice (some ⟨b, 0, none⟩) n n, .int .i64 at_, .int .i64 many, .int .i64 room] 53 (0, 0))
  hb : w.heap[b]? = some (.cells (bytesV cs).toArray 5 (0, 0))
  len : cs.length = n
  ne : g ≠ b
  hm : many ≤ n
  hn : n ≤ 2199023255552
/-- What is in a ring, the first one first. -/
def content (at_ many : Nat) (cs : List Int) : List Int := (cs.drop at_ ++ cs.take at_).take many
/-- All blocks but those of X stay. -/
structure Fr (X : Nat → Prop) (w w' : World) : Prop where
  os : w'.os = w.os
  tape : w'.tape = w.tape
  output : w'.output = w.output
  size : w.heap.size ≤ w'.heap.size
  block : ∀ k, k < w.heap.size → ¬ X k → w'.heap[k]? = w.heap[k]?
theorem Fr.refl (X : Nat → Prop) (w : World) : Fr X w w := ⟨rfl, rfl, rfl, Nat.le_refl _, fun _ _ _ => rfl⟩
theorem Fr.trans {X Y Z : Nat → Prop} {a b c : World} (h : Fr X a b) (k : Fr Y b c) (hx : ∀ i, X i → Z i) (hy : ∀ i, i < a.heap.size → Y i → Z i) : Fr Z a c :=
  ⟨k.os.trans h.os, k.tape.trans h.tape, k.output.trans h.output, Nat.le_trans h.size k.size, fun i hi hz => (k.block i (Nat.lt_of_lt_of_le hi h.size) (fun e => hz (hy i hi e))).trans (h.block i hi (fun e => hz (hx i e)))⟩
theorem Fr.mono {X Y : Nat → Prop} {a b : World} (h : Fr X a b) (hx : ∀ i, X i → Y i) : Fr Y a b := ⟨h.os, h.tape, h.output, h.size, fun i hi hy => h.block i hi (fun e => hy (hx i e))⟩
theorem Fr.of_below {X : Nat → Prop} {a b : World} (h : Below a.heap.size a b) : Fr X a b := ⟨h.os, h.tape, h.output, h.size, fun i hi _ => h.block i hi⟩
theorem Fr.drewN {X : Nat → Prop} {a b : World} (h : Fr X a b) (n : Nat) : Fr X a (b.drewN n) := ⟨h.os, h.tape, h.output, h.size, h.block⟩
theorem Fr.drew {X : Nat → Prop} {a b : World} (h : Fr X a b) : Fr X a b.drew := ⟨h.os, h.tape, h.output, h.size, h.block⟩
theorem Fr.set {X : Nat → Prop} {a b : World} (h : Fr X a b) {p : Addr} (hp : X p.block) (v : Value) : Fr X a (b.setCell p v) := by
  have hs := Below.setCell (Below.refl 0 b) (Nat.zero_le p.block) v
  exact ⟨hs.os.trans h.os, hs.tape.trans h.tape, hs.output.trans h.output, Nat.le_trans h.size hs.size, fun i hi hx => (Below.heap_setCell b p v i (fun e => hx (e ▸ hp))).trans (h.block i hi hx)⟩
theorem Fr.below {X : Nat → Prop} {B : Nat} {w0 a b : World} (hB : Below B w0 a) (h : Fr X a b) (hl : B ≤ a.heap.size) (hx : ∀ i, X i → B ≤ i) : Below B w0 b :=
  ⟨h.os.trans hB.os, h.tape.trans hB.tape, h.output.trans hB.output, Nat.le_trans hB.size h.size, fun i hi => (h.block i (Nat.lt_of_lt_of_le hi hl) (fun e => by have := hx i e; omega)).trans (hB.block i hi)⟩
section
variable {w : World} {g b at_ many n : Nat} {room : Int} {cs : List Int}
theorem RingAt.c0 (h : RingAt w g b at_ many n room cs) : w.cell? ⟨g, 0, none⟩ = some (.slice (some ⟨b, 0, none⟩) n n) := by rw [blk_cell h.hg]; rfl
theorem RingAt.c1 (h : RingAt w g b at_ many n room cs) : w.cell? ⟨g, 1, none⟩ = some (.int .i64 at_) := by rw [blk_cell h.hg]; rfl
theorem RingAt.c2 (h : RingAt w g b at_ many n room cs) : w.cell? ⟨g, 2, none⟩ = some (.int .i64 many) := by rw [blk_cell h.hg]; rfl
theorem RingAt.c3 (h : RingAt w g b at_ many n room cs) : w.cell? ⟨g, 3, none⟩ = some (.int .i64 room) := by rw [blk_cell h.hg]; rfl
theorem RingAt.fr (h : RingAt w g b at_ many n room cs) (i : Nat) : w.frozen? ⟨g, i, none⟩ = false := blk_frozen h.hg i
theorem RingAt.lg (h : RingAt w g b at_ many n room cs) : g < w.heap.size := blk_lt h.hg
theorem RingAt.lb (h : RingAt w g b at_ many n room cs) : b < w.heap.size := blk_lt h.hb
theorem RingAt.cb (h : RingAt w g b at_ many n room cs) (i : Nat) (hi : i < n) : w.cell? ⟨b, i, none⟩ = some (.int .u8 (cs.getD i 0)) := by
  rw [blk_cell h.hb, ← Array.getElem?_toList]
  have : i < cs.length := by rw [h.len]; exact hi
  simp [bytesV, this]
/-- Where other blocks change, it stays. -/
theorem RingAt.keep {X : Nat → Prop} {w' : World} (h : RingAt w g b at_ many n room cs) (hf : Fr X w w') (hg : ¬ X g) (hb : ¬ X b) : RingAt w' g b at_ many n room cs :=
  ⟨(hf.block g h.lg hg).trans h.hg, (hf.block b h.lb hb).trans h.hb, h.len, h.ne, h.hm, h.hn⟩
end
end Go.Proofs.Ytbplfoanhfmheaa.Hand
