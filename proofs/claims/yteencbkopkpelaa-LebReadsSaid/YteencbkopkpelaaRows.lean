/-
  No cell of these rows narrows 'for every input' (looked for: loops, veiled, ifaces, maps, wideKeys, modest, calm, conditions, laid).
  DERIVED. THE GIVEN ROWS OF THIS SEAT. 5 by the template 'for every input the law returns true; each argument reads behind the call as it read before'; 0 by the template 'total and deterministic' (their statements: YteencbkopkpelaaTotals.lean).
  GIVEN WITH THE SEED: the statements are not yours to turn. If you find one false, say at which input.
  Laid BY PROGRAM, IN A SANDBOX (cutbox-rows.mjs): the forced cells as the released guide's own fill.sh prints them over the translation 38f4a70f0ff6cced… (all of the seat's roots in one cut). By AI agents, Wed Nov 11 2026. No macro, syntax, notation, axiom, sorry.
-/
import Derived.Test.YteencbkopkpelaaChecked
import GoSem.Claim
import GoSem.ClaimJoined
import GoSem.ClaimMapViews
import Derived.JoinedTies
import Derived.KernelRfl
namespace Go.Proofs.Yteencbkopkpelaa
/- THE CELL 'sum', in the pinned program and in every row, IS THE sha256 OF THE DUMP (.gsa) THAT YteencbkopkpelaaProg.lean LOADS. Nothing in Lean hashes anything: it is a label: what it is worth is what the hold of that sum in a sandbox is worth. -/
noncomputable def Try.pinned : Pinned := { name := "yteencbkopkpelaa", sum := "38f4a70f0ff6ccedbac5f46d756c0f1652a4bb460d3e8b996d183466a9c712c9", checked := Try.checked }
namespace Rows
def none {H : Type} : Left H := { results := [], args := [] }

/-- 'chicanelaw04.LebReads': WHATEVER THE INPUT: true; the input reads as it did. -/
def lebReadsSpec : ChangeSpec := { name := "lebReads", fn := fun _ => fun
  | [d1, d2] => { results := [.lit (.bool true)], args := [d1, d2] }
  | _ => none }
def lebReadsRow : OpenClaim := { program := "yteencbkopkpelaa", sum := "38f4a70f0ff6ccedbac5f46d756c0f1652a4bb460d3e8b996d183466a9c712c9", func := "chicane/chicanelaw04.LebReads", spec := "lebReads", unfollowed := true, recurses := true, apart := false }
def LebReadsSaid : Prop := lebReadsRow.holds Try.pinned (OpenSpec.ofChange lebReadsSpec)

/-- ITS FALSE NEIGHBOUR: 'it returns false'. Refute it at one input. -/
def lebReadsWrong : ChangeSpec := { name := "lebReads", fn := fun _ => fun
  | [d1, d2] => { results := [.lit (.bool false)], args := [d1, d2] }
  | _ => none }
def LebReadsWrongFalsely : Prop := lebReadsRow.holds Try.pinned (OpenSpec.ofChange lebReadsWrong)

/-- 'chicanelaw04.LebOne': WHATEVER THE INPUT: true; the input reads as it did. -/
def lebOneSpec : ChangeSpec := { name := "lebOne", fn := fun _ => fun
  | [d] => { results := [.lit (.bool true)], args := [d] }
  | _ => none }
def lebOneRow : OpenClaim := { program := "yteencbkopkpelaa", sum := "38f4a70f0ff6ccedbac5f46d756c0f1652a4bb460d3e8b996d183466a9c712c9", func := "chicane/chicanelaw04.LebOne", spec := "lebOne", unfollowed := true, recurses := true, apart := false }
def LebOneSaid : Prop := lebOneRow.holds Try.pinned (OpenSpec.ofChange lebOneSpec)

/-- ITS FALSE NEIGHBOUR: 'it returns false'. Refute it at one input. -/
def lebOneWrong : ChangeSpec := { name := "lebOne", fn := fun _ => fun
  | [d] => { results := [.lit (.bool false)], args := [d] }
  | _ => none }
def LebOneWrongFalsely : Prop := lebOneRow.holds Try.pinned (OpenSpec.ofChange lebOneWrong)

/-- 'chicanelaw04.LebSizes': WHATEVER THE INPUT: true; the input reads as it did. -/
def lebSizesSpec : ChangeSpec := { name := "lebSizes", fn := fun _ => fun
  | [d1, d2] => { results := [.lit (.bool true)], args := [d1, d2] }
  | _ => none }
def lebSizesRow : OpenClaim := { program := "yteencbkopkpelaa", sum := "38f4a70f0ff6ccedbac5f46d756c0f1652a4bb460d3e8b996d183466a9c712c9", func := "chicane/chicanelaw04.LebSizes", spec := "lebSizes", unfollowed := true, recurses := true, apart := false }
def LebSizesSaid : Prop := lebSizesRow.holds Try.pinned (OpenSpec.ofChange lebSizesSpec)

/-- ITS FALSE NEIGHBOUR: 'it returns false'. Refute it at one input. -/
def lebSizesWrong : ChangeSpec := { name := "lebSizes", fn := fun _ => fun
  | [d1, d2] => { results := [.lit (.bool false)], args := [d1, d2] }
  | _ => none }
def LebSizesWrongFalsely : Prop := lebSizesRow.holds Try.pinned (OpenSpec.ofChange lebSizesWrong)

/-- 'chicanelaw04.LebRows': WHATEVER THE INPUT: true; the input reads as it did. -/
def lebRowsSpec : ChangeSpec := { name := "lebRows", fn := fun _ => fun
  | [d1, d2] => { results := [.lit (.bool true)], args := [d1, d2] }
  | _ => none }
def lebRowsRow : OpenClaim := { program := "yteencbkopkpelaa", sum := "38f4a70f0ff6ccedbac5f46d756c0f1652a4bb460d3e8b996d183466a9c712c9", func := "chicane/chicanelaw04.LebRows", spec := "lebRows", unfollowed := true, recurses := true, apart := false }
def LebRowsSaid : Prop := lebRowsRow.holds Try.pinned (OpenSpec.ofChange lebRowsSpec)

/-- ITS FALSE NEIGHBOUR: 'it returns false'. Refute it at one input. -/
def lebRowsWrong : ChangeSpec := { name := "lebRows", fn := fun _ => fun
  | [d1, d2] => { results := [.lit (.bool false)], args := [d1, d2] }
  | _ => none }
def LebRowsWrongFalsely : Prop := lebRowsRow.holds Try.pinned (OpenSpec.ofChange lebRowsWrong)

/-- 'chicanelaw04.LebOwn': WHATEVER THE INPUT: true; the input reads as it did. -/
def lebOwnSpec : ChangeSpec := { name := "lebOwn", fn := fun _ => fun
  | [d1, d2] => { results := [.lit (.bool true)], args := [d1, d2] }
  | _ => none }
def lebOwnRow : OpenClaim := { program := "yteencbkopkpelaa", sum := "38f4a70f0ff6ccedbac5f46d756c0f1652a4bb460d3e8b996d183466a9c712c9", func := "chicane/chicanelaw04.LebOwn", spec := "lebOwn", unfollowed := true, recurses := true, apart := false }
def LebOwnSaid : Prop := lebOwnRow.holds Try.pinned (OpenSpec.ofChange lebOwnSpec)

/-- ITS FALSE NEIGHBOUR: 'it returns false'. Refute it at one input. -/
def lebOwnWrong : ChangeSpec := { name := "lebOwn", fn := fun _ => fun
  | [d1, d2] => { results := [.lit (.bool false)], args := [d1, d2] }
  | _ => none }
def LebOwnWrongFalsely : Prop := lebOwnRow.holds Try.pinned (OpenSpec.ofChange lebOwnWrong)

/- THE SECOND FORM. 'bulk': how many values and letters a reading holds, each counted each time it is reached (what is shared counts as often as it is met; a slice's spare places count too). A statement '..UptoSaid' is the law's where the arguments, and the package variables that the reading takes, are together of bulk at most 1048576: NARROWER than '..Said'. Prove '..Said' where nothing that the law and all that it calls make is longer than what came in: it says more and counts as full. Else prove '..UptoSaid'. A law counts once. -/
mutual
def uptoBulk {H : Type} : DataW H → Nat
  | .lit (.string bytes) => bytes.length + 1
  | .lit _ => 1
  | .nil => 1
  | .ptr d => uptoBulk d + 1
  | .slice elems spare => uptoBulkAll elems + uptoBulkAll spare + 1
  | .agg parts => uptoBulkAll parts + 1
  | .iface _ d => uptoBulk d + 1
  | .map entries => uptoBulkEntries entries + 1
  | .held _ => 1
def uptoBulkAll {H : Type} : List (DataW H) → Nat
  | [] => 0
  | d :: r => uptoBulk d + uptoBulkAll r
def uptoBulkEntries {H : Type} : List (Lit × DataW H) → Nat
  | [] => 0
  | x :: r => uptoBulkEntry x + uptoBulkEntries r
def uptoBulkEntry {H : Type} : Lit × DataW H → Nat
  | (.string bytes, d) => bytes.length + uptoBulk d + 1
  | (_, d) => uptoBulk d + 1
 end
def uptoSmall : (H : Type) → List (DataW H) → Bool := fun _ ds => decide (uptoBulkAll ds ≤ 1048576)
def OpenSpec.upto (s : _root_.Go.ChangeSpec) : _root_.Go.OpenSpec := { _root_.Go.OpenSpec.ofChange s with cond := some uptoSmall }

/-- 'chicanelaw04.LebReads', WHERE WHAT IT READS IS OF BULK AT MOST 1048576: true; the input reads as it did. -/
def lebReadsUptoRow : OpenClaim := { program := "yteencbkopkpelaa", sum := "38f4a70f0ff6ccedbac5f46d756c0f1652a4bb460d3e8b996d183466a9c712c9", func := "chicane/chicanelaw04.LebReads", spec := "lebReads", unfollowed := true, recurses := true, apart := false, narrowed := true }
def LebReadsUptoSaid : Prop := lebReadsUptoRow.holds Try.pinned (OpenSpec.upto lebReadsSpec)

/-- 'chicanelaw04.LebOne', WHERE WHAT IT READS IS OF BULK AT MOST 1048576: true; the input reads as it did. -/
def lebOneUptoRow : OpenClaim := { program := "yteencbkopkpelaa", sum := "38f4a70f0ff6ccedbac5f46d756c0f1652a4bb460d3e8b996d183466a9c712c9", func := "chicane/chicanelaw04.LebOne", spec := "lebOne", unfollowed := true, recurses := true, apart := false, narrowed := true }
def LebOneUptoSaid : Prop := lebOneUptoRow.holds Try.pinned (OpenSpec.upto lebOneSpec)

/-- 'chicanelaw04.LebSizes', WHERE WHAT IT READS IS OF BULK AT MOST 1048576: true; the input reads as it did. -/
def lebSizesUptoRow : OpenClaim := { program := "yteencbkopkpelaa", sum := "38f4a70f0ff6ccedbac5f46d756c0f1652a4bb460d3e8b996d183466a9c712c9", func := "chicane/chicanelaw04.LebSizes", spec := "lebSizes", unfollowed := true, recurses := true, apart := false, narrowed := true }
def LebSizesUptoSaid : Prop := lebSizesUptoRow.holds Try.pinned (OpenSpec.upto lebSizesSpec)

/-- 'chicanelaw04.LebRows', WHERE WHAT IT READS IS OF BULK AT MOST 1048576: true; the input reads as it did. -/
def lebRowsUptoRow : OpenClaim := { program := "yteencbkopkpelaa", sum := "38f4a70f0ff6ccedbac5f46d756c0f1652a4bb460d3e8b996d183466a9c712c9", func := "chicane/chicanelaw04.LebRows", spec := "lebRows", unfollowed := true, recurses := true, apart := false, narrowed := true }
def LebRowsUptoSaid : Prop := lebRowsUptoRow.holds Try.pinned (OpenSpec.upto lebRowsSpec)

/-- 'chicanelaw04.LebOwn', WHERE WHAT IT READS IS OF BULK AT MOST 1048576: true; the input reads as it did. -/
def lebOwnUptoRow : OpenClaim := { program := "yteencbkopkpelaa", sum := "38f4a70f0ff6ccedbac5f46d756c0f1652a4bb460d3e8b996d183466a9c712c9", func := "chicane/chicanelaw04.LebOwn", spec := "lebOwn", unfollowed := true, recurses := true, apart := false, narrowed := true }
def LebOwnUptoSaid : Prop := lebOwnUptoRow.holds Try.pinned (OpenSpec.upto lebOwnSpec)

end Rows
end Go.Proofs.Yteencbkopkpelaa
