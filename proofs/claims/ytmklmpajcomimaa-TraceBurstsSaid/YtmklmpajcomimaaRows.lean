/-
  No cell of these rows narrows 'for every input' (looked for: loops, veiled, ifaces, maps, wideKeys, modest, calm, conditions, laid).
  DERIVED. THE GIVEN ROWS OF THIS SEAT. 6 by the template 'for every input the law returns true; each argument reads behind the call as it read before'; 0 by the template 'total and deterministic' (their statements: YtmklmpajcomimaaTotals.lean).
  GIVEN WITH THE SEED: the statements are not yours to turn. If you find one false, say at which input.
  Laid BY PROGRAM, IN A SANDBOX (cutbox-rows.mjs): the forced cells as the released guide's own fill.sh prints them over the translation 5bfd17ab71782b85… (all of the seat's roots in one cut). By AI agents, Wed Nov 11 2026. No macro, syntax, notation, axiom, sorry.
-/
import Derived.Test.YtmklmpajcomimaaChecked
import GoSem.Claim
import GoSem.ClaimJoined
import GoSem.ClaimMapViews
import Derived.JoinedTies
import Derived.KernelRfl
namespace Go.Proofs.Ytmklmpajcomimaa
/- THE CELL 'sum', in the pinned program and in every row, IS THE sha256 OF THE DUMP (.gsa) THAT YtmklmpajcomimaaProg.lean LOADS. Nothing in Lean hashes anything: it is a label: what it is worth is what the hold of that sum in a sandbox is worth. -/
noncomputable def Try.pinned : Pinned := { name := "ytmklmpajcomimaa", sum := "5bfd17ab71782b852ff50378538bdfee61ad50cf2c0a60d3109fc93fd01148ab", checked := Try.checked }
namespace Rows
def none {H : Type} : Left H := { results := [], args := [] }

/-- 'chicanelaw21.TraceWrites': WHATEVER THE INPUT: true; the input reads as it did. -/
def traceWritesSpec : ChangeSpec := { name := "traceWrites", fn := fun _ => fun
  | [d1, d2] => { results := [.lit (.bool true)], args := [d1, d2] }
  | _ => none }
def traceWritesRow : OpenClaim := { program := "ytmklmpajcomimaa", sum := "5bfd17ab71782b852ff50378538bdfee61ad50cf2c0a60d3109fc93fd01148ab", func := "chicane/chicanelaw21.TraceWrites", spec := "traceWrites", unfollowed := true, recurses := true, apart := false }
def TraceWritesSaid : Prop := traceWritesRow.holds Try.pinned (OpenSpec.ofChange traceWritesSpec)

/-- ITS FALSE NEIGHBOUR: 'it returns false'. Refute it at one input. -/
def traceWritesWrong : ChangeSpec := { name := "traceWrites", fn := fun _ => fun
  | [d1, d2] => { results := [.lit (.bool false)], args := [d1, d2] }
  | _ => none }
def TraceWritesWrongFalsely : Prop := traceWritesRow.holds Try.pinned (OpenSpec.ofChange traceWritesWrong)

/-- 'chicanelaw21.TraceBack': WHATEVER THE INPUT: true; the input reads as it did. -/
def traceBackSpec : ChangeSpec := { name := "traceBack", fn := fun _ => fun
  | [d1, d2] => { results := [.lit (.bool true)], args := [d1, d2] }
  | _ => none }
def traceBackRow : OpenClaim := { program := "ytmklmpajcomimaa", sum := "5bfd17ab71782b852ff50378538bdfee61ad50cf2c0a60d3109fc93fd01148ab", func := "chicane/chicanelaw21.TraceBack", spec := "traceBack", unfollowed := true, recurses := true, apart := false }
def TraceBackSaid : Prop := traceBackRow.holds Try.pinned (OpenSpec.ofChange traceBackSpec)

/-- ITS FALSE NEIGHBOUR: 'it returns false'. Refute it at one input. -/
def traceBackWrong : ChangeSpec := { name := "traceBack", fn := fun _ => fun
  | [d1, d2] => { results := [.lit (.bool false)], args := [d1, d2] }
  | _ => none }
def TraceBackWrongFalsely : Prop := traceBackRow.holds Try.pinned (OpenSpec.ofChange traceBackWrong)

/-- 'chicanelaw21.TracePrefixes': WHATEVER THE INPUT: true; the input reads as it did. -/
def tracePrefixesSpec : ChangeSpec := { name := "tracePrefixes", fn := fun _ => fun
  | [d1, d2, d3] => { results := [.lit (.bool true)], args := [d1, d2, d3] }
  | _ => none }
def tracePrefixesRow : OpenClaim := { program := "ytmklmpajcomimaa", sum := "5bfd17ab71782b852ff50378538bdfee61ad50cf2c0a60d3109fc93fd01148ab", func := "chicane/chicanelaw21.TracePrefixes", spec := "tracePrefixes", unfollowed := true, recurses := true, apart := false }
def TracePrefixesSaid : Prop := tracePrefixesRow.holds Try.pinned (OpenSpec.ofChange tracePrefixesSpec)

/-- ITS FALSE NEIGHBOUR: 'it returns false'. Refute it at one input. -/
def tracePrefixesWrong : ChangeSpec := { name := "tracePrefixes", fn := fun _ => fun
  | [d1, d2, d3] => { results := [.lit (.bool false)], args := [d1, d2, d3] }
  | _ => none }
def TracePrefixesWrongFalsely : Prop := tracePrefixesRow.holds Try.pinned (OpenSpec.ofChange tracePrefixesWrong)

/-- 'chicanelaw21.TraceBursts': WHATEVER THE INPUT: true; the input reads as it did. -/
def traceBurstsSpec : ChangeSpec := { name := "traceBursts", fn := fun _ => fun
  | [d1, d2, d3] => { results := [.lit (.bool true)], args := [d1, d2, d3] }
  | _ => none }
def traceBurstsRow : OpenClaim := { program := "ytmklmpajcomimaa", sum := "5bfd17ab71782b852ff50378538bdfee61ad50cf2c0a60d3109fc93fd01148ab", func := "chicane/chicanelaw21.TraceBursts", spec := "traceBursts", unfollowed := true, recurses := true, apart := false }
def TraceBurstsSaid : Prop := traceBurstsRow.holds Try.pinned (OpenSpec.ofChange traceBurstsSpec)

/-- ITS FALSE NEIGHBOUR: 'it returns false'. Refute it at one input. -/
def traceBurstsWrong : ChangeSpec := { name := "traceBursts", fn := fun _ => fun
  | [d1, d2, d3] => { results := [.lit (.bool false)], args := [d1, d2, d3] }
  | _ => none }
def TraceBurstsWrongFalsely : Prop := traceBurstsRow.holds Try.pinned (OpenSpec.ofChange traceBurstsWrong)

/-- 'chicanelaw21.TraceMore': WHATEVER THE INPUT: true; the input reads as it did. -/
def traceMoreSpec : ChangeSpec := { name := "traceMore", fn := fun _ => fun
  | [d1, d2, d3] => { results := [.lit (.bool true)], args := [d1, d2, d3] }
  | _ => none }
def traceMoreRow : OpenClaim := { program := "ytmklmpajcomimaa", sum := "5bfd17ab71782b852ff50378538bdfee61ad50cf2c0a60d3109fc93fd01148ab", func := "chicane/chicanelaw21.TraceMore", spec := "traceMore", unfollowed := true, recurses := true, apart := false }
def TraceMoreSaid : Prop := traceMoreRow.holds Try.pinned (OpenSpec.ofChange traceMoreSpec)

/-- ITS FALSE NEIGHBOUR: 'it returns false'. Refute it at one input. -/
def traceMoreWrong : ChangeSpec := { name := "traceMore", fn := fun _ => fun
  | [d1, d2, d3] => { results := [.lit (.bool false)], args := [d1, d2, d3] }
  | _ => none }
def TraceMoreWrongFalsely : Prop := traceMoreRow.holds Try.pinned (OpenSpec.ofChange traceMoreWrong)

/-- 'chicanelaw21.TraceFrames': WHATEVER THE INPUT: true; the input reads as it did. -/
def traceFramesSpec : ChangeSpec := { name := "traceFrames", fn := fun _ => fun
  | [d1, d2, d3] => { results := [.lit (.bool true)], args := [d1, d2, d3] }
  | _ => none }
def traceFramesRow : OpenClaim := { program := "ytmklmpajcomimaa", sum := "5bfd17ab71782b852ff50378538bdfee61ad50cf2c0a60d3109fc93fd01148ab", func := "chicane/chicanelaw21.TraceFrames", spec := "traceFrames", unfollowed := true, recurses := true, apart := false }
def TraceFramesSaid : Prop := traceFramesRow.holds Try.pinned (OpenSpec.ofChange traceFramesSpec)

/-- ITS FALSE NEIGHBOUR: 'it returns false'. Refute it at one input. -/
def traceFramesWrong : ChangeSpec := { name := "traceFrames", fn := fun _ => fun
  | [d1, d2, d3] => { results := [.lit (.bool false)], args := [d1, d2, d3] }
  | _ => none }
def TraceFramesWrongFalsely : Prop := traceFramesRow.holds Try.pinned (OpenSpec.ofChange traceFramesWrong)

/- THE SECOND FORM. 'bulk': how many values and letters a reading holds, each counted each time it is reached (what is shared counts as often as it is met; a slice's spare places count too). A statement '..UptoSaid' is the law's where the arguments, and the package variables that the reading takes, are together of bulk at most 1048576: NARROWER than '..Said'. Prove '..Said' where nothing that the law and all that it calls make is longer than what came in: it says more and counts as full. Else prove '..UptoSaid'. A law counts once. -/
mutual
def uptoBulk {H : Type} : DataW H → Nat
  | .lit (.string bytes) => bytes.length + 1
  | .lit _ => 1
  | .nil => 1
  | .ptr d => uptoBulk d + 1
  | .slice elems spare => uptoBulkAll elems + uptoBulkAll spare + 1
  | .agg parts => uptoBulkAll parts + 1
  | .iface _ d => uptoBulk d + 1
  | .map entries => uptoBulkEntries entries + 1
  | .held _ => 1
def uptoBulkAll {H : Type} : List (DataW H) → Nat
  | [] => 0
  | d :: r => uptoBulk d + uptoBulkAll r
def uptoBulkEntries {H : Type} : List (Lit × DataW H) → Nat
  | [] => 0
  | x :: r => uptoBulkEntry x + uptoBulkEntries r
def uptoBulkEntry {H : Type} : Lit × DataW H → Nat
  | (.string bytes, d) => bytes.length + uptoBulk d + 1
  | (_, d) => uptoBulk d + 1
 end
def uptoSmall : (H : Type) → List (DataW H) → Bool := fun _ ds => decide (uptoBulkAll ds ≤ 1048576)
def OpenSpec.upto (s : _root_.Go.ChangeSpec) : _root_.Go.OpenSpec := { _root_.Go.OpenSpec.ofChange s with cond := some uptoSmall }

/-- 'chicanelaw21.TraceWrites', WHERE WHAT IT READS IS OF BULK AT MOST 1048576: true; the input reads as it did. -/
def traceWritesUptoRow : OpenClaim := { program := "ytmklmpajcomimaa", sum := "5bfd17ab71782b852ff50378538bdfee61ad50cf2c0a60d3109fc93fd01148ab", func := "chicane/chicanelaw21.TraceWrites", spec := "traceWrites", unfollowed := true, recurses := true, apart := false, narrowed := true }
def TraceWritesUptoSaid : Prop := traceWritesUptoRow.holds Try.pinned (OpenSpec.upto traceWritesSpec)

/-- 'chicanelaw21.TraceBack', WHERE WHAT IT READS IS OF BULK AT MOST 1048576: true; the input reads as it did. -/
def traceBackUptoRow : OpenClaim := { program := "ytmklmpajcomimaa", sum := "5bfd17ab71782b852ff50378538bdfee61ad50cf2c0a60d3109fc93fd01148ab", func := "chicane/chicanelaw21.TraceBack", spec := "traceBack", unfollowed := true, recurses := true, apart := false, narrowed := true }
def TraceBackUptoSaid : Prop := traceBackUptoRow.holds Try.pinned (OpenSpec.upto traceBackSpec)

/-- 'chicanelaw21.TracePrefixes', WHERE WHAT IT READS IS OF BULK AT MOST 1048576: true; the input reads as it did. -/
def tracePrefixesUptoRow : OpenClaim := { program := "ytmklmpajcomimaa", sum := "5bfd17ab71782b852ff50378538bdfee61ad50cf2c0a60d3109fc93fd01148ab", func := "chicane/chicanelaw21.TracePrefixes", spec := "tracePrefixes", unfollowed := true, recurses := true, apart := false, narrowed := true }
def TracePrefixesUptoSaid : Prop := tracePrefixesUptoRow.holds Try.pinned (OpenSpec.upto tracePrefixesSpec)

/-- 'chicanelaw21.TraceBursts', WHERE WHAT IT READS IS OF BULK AT MOST 1048576: true; the input reads as it did. -/
def traceBurstsUptoRow : OpenClaim := { program := "ytmklmpajcomimaa", sum := "5bfd17ab71782b852ff50378538bdfee61ad50cf2c0a60d3109fc93fd01148ab", func := "chicane/chicanelaw21.TraceBursts", spec := "traceBursts", unfollowed := true, recurses := true, apart := false, narrowed := true }
def TraceBurstsUptoSaid : Prop := traceBurstsUptoRow.holds Try.pinned (OpenSpec.upto traceBurstsSpec)

/-- 'chicanelaw21.TraceMore', WHERE WHAT IT READS IS OF BULK AT MOST 1048576: true; the input reads as it did. -/
def traceMoreUptoRow : OpenClaim := { program := "ytmklmpajcomimaa", sum := "5bfd17ab71782b852ff50378538bdfee61ad50cf2c0a60d3109fc93fd01148ab", func := "chicane/chicanelaw21.TraceMore", spec := "traceMore", unfollowed := true, recurses := true, apart := false, narrowed := true }
def TraceMoreUptoSaid : Prop := traceMoreUptoRow.holds Try.pinned (OpenSpec.upto traceMoreSpec)

/-- 'chicanelaw21.TraceFrames', WHERE WHAT IT READS IS OF BULK AT MOST 1048576: true; the input reads as it did. -/
def traceFramesUptoRow : OpenClaim := { program := "ytmklmpajcomimaa", sum := "5bfd17ab71782b852ff50378538bdfee61ad50cf2c0a60d3109fc93fd01148ab", func := "chicane/chicanelaw21.TraceFrames", spec := "traceFrames", unfollowed := true, recurses := true, apart := false, narrowed := true }
def TraceFramesUptoSaid : Prop := traceFramesUptoRow.holds Try.pinned (OpenSpec.upto traceFramesSpec)

end Rows
end Go.Proofs.Ytmklmpajcomimaa
