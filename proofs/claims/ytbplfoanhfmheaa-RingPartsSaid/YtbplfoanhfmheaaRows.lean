/-
  No cell of these rows narrows 'for every input' (looked for: loops, veiled, ifaces, maps, wideKeys, modest, calm, conditions, laid).
  DERIVED. THE GIVEN ROWS OF THIS SEAT. 7 by the template 'for every input the law returns true; each argument reads behind the call as it read before'; 0 by the template 'total and deterministic' (their statements: YtbplfoanhfmheaaTotals.lean).
  GIVEN WITH THE SEED: the statements are not yours to turn. If you find one false, say at which input.
  Laid BY PROGRAM, IN A SANDBOX (cutbox-rows.mjs): the forced cells as the released guide's own fill.sh prints them over the translation d6abbd4850986729… (all of the seat's roots in one cut). By AI agents, Wed Nov 11 2026. No macro, syntax, notation, axiom, sorry.
-/
import Derived.Test.YtbplfoanhfmheaaChecked
import GoSem.Claim
import GoSem.ClaimJoined
import GoSem.ClaimMapViews
import Derived.JoinedTies
import Derived.KernelRfl
namespace Go.Proofs.Ytbplfoanhfmheaa
/- THE CELL 'sum', in the pinned program and in every row, IS THE sha256 OF THE DUMP (.gsa) THAT YtbplfoanhfmheaaProg.lean LOADS. Nothing in Lean hashes anything: it is a label: what it is worth is what the hold of that sum in a sandbox is worth. -/
noncomputable def Try.pinned : Pinned := { name := "ytbplfoanhfmheaa", sum := "d6abbd4850986729aa9054501556c050caa4a55e21efddfcc539590c51b7170b", checked := Try.checked }
namespace Rows
def none {H : Type} : Left H := { results := [], args := [] }

/-- 'chicanelaw05.RingKeeps': WHATEVER THE INPUT: true; the input reads as it did. -/
def ringKeepsSpec : ChangeSpec := { name := "ringKeeps", fn := fun _ => fun
  | [d1, d2] => { results := [.lit (.bool true)], args := [d1, d2] }
  | _ => none }
def ringKeepsRow : OpenClaim := { program := "ytbplfoanhfmheaa", sum := "d6abbd4850986729aa9054501556c050caa4a55e21efddfcc539590c51b7170b", func := "chicane/chicanelaw05.RingKeeps", spec := "ringKeeps", apart := false }
def RingKeepsSaid : Prop := ringKeepsRow.holds Try.pinned (OpenSpec.ofChange ringKeepsSpec)

/-- ITS FALSE NEIGHBOUR: 'it returns false'. Refute it at one input. -/
def ringKeepsWrong : ChangeSpec := { name := "ringKeeps", fn := fun _ => fun
  | [d1, d2] => { results := [.lit (.bool false)], args := [d1, d2] }
  | _ => none }
def RingKeepsWrongFalsely : Prop := ringKeepsRow.holds Try.pinned (OpenSpec.ofChange ringKeepsWrong)

/-- 'chicanelaw05.RingParts': WHATEVER THE INPUT: true; the input reads as it did. -/
def ringPartsSpec : ChangeSpec := { name := "ringParts", fn := fun _ => fun
  | [d1, d2, d3] => { results := [.lit (.bool true)], args := [d1, d2, d3] }
  | _ => none }
def ringPartsRow : OpenClaim := { program := "ytbplfoanhfmheaa", sum := "d6abbd4850986729aa9054501556c050caa4a55e21efddfcc539590c51b7170b", func := "chicane/chicanelaw05.RingParts", spec := "ringParts", apart := false }
def RingPartsSaid : Prop := ringPartsRow.holds Try.pinned (OpenSpec.ofChange ringPartsSpec)

/-- ITS FALSE NEIGHBOUR: 'it returns false'. Refute it at one input. -/
def ringPartsWrong : ChangeSpec := { name := "ringParts", fn := fun _ => fun
  | [d1, d2, d3] => { results := [.lit (.bool false)], args := [d1, d2, d3] }
  | _ => none }
def RingPartsWrongFalsely : Prop := ringPartsRow.holds Try.pinned (OpenSpec.ofChange ringPartsWrong)

/-- 'chicanelaw05.RingOwn': WHATEVER THE INPUT: true; the input reads as it did. -/
def ringOwnSpec : ChangeSpec := { name := "ringOwn", fn := fun _ => fun
  | [d1, d2] => { results := [.lit (.bool true)], args := [d1, d2] }
  | _ => none }
def ringOwnRow : OpenClaim := { program := "ytbplfoanhfmheaa", sum := "d6abbd4850986729aa9054501556c050caa4a55e21efddfcc539590c51b7170b", func := "chicane/chicanelaw05.RingOwn", spec := "ringOwn", apart := false }
def RingOwnSaid : Prop := ringOwnRow.holds Try.pinned (OpenSpec.ofChange ringOwnSpec)

/-- ITS FALSE NEIGHBOUR: 'it returns false'. Refute it at one input. -/
def ringOwnWrong : ChangeSpec := { name := "ringOwn", fn := fun _ => fun
  | [d1, d2] => { results := [.lit (.bool false)], args := [d1, d2] }
  | _ => none }
def RingOwnWrongFalsely : Prop := ringOwnRow.holds Try.pinned (OpenSpec.ofChange ringOwnWrong)

/-- 'chicanelaw05.RingForced': WHATEVER THE INPUT: true; the input reads as it did. -/
def ringForcedSpec : ChangeSpec := { name := "ringForced", fn := fun _ => fun
  | [d1, d2, d3] => { results := [.lit (.bool true)], args := [d1, d2, d3] }
  | _ => none }
def ringForcedRow : OpenClaim := { program := "ytbplfoanhfmheaa", sum := "d6abbd4850986729aa9054501556c050caa4a55e21efddfcc539590c51b7170b", func := "chicane/chicanelaw05.RingForced", spec := "ringForced", apart := false }
def RingForcedSaid : Prop := ringForcedRow.holds Try.pinned (OpenSpec.ofChange ringForcedSpec)

/-- ITS FALSE NEIGHBOUR: 'it returns false'. Refute it at one input. -/
def ringForcedWrong : ChangeSpec := { name := "ringForced", fn := fun _ => fun
  | [d1, d2, d3] => { results := [.lit (.bool false)], args := [d1, d2, d3] }
  | _ => none }
def RingForcedWrongFalsely : Prop := ringForcedRow.holds Try.pinned (OpenSpec.ofChange ringForcedWrong)

/-- 'chicanelaw05.RingRooms': WHATEVER THE INPUT: true; the input reads as it did. -/
def ringRoomsSpec : ChangeSpec := { name := "ringRooms", fn := fun _ => fun
  | [d1, d2] => { results := [.lit (.bool true)], args := [d1, d2] }
  | _ => none }
def ringRoomsRow : OpenClaim := { program := "ytbplfoanhfmheaa", sum := "d6abbd4850986729aa9054501556c050caa4a55e21efddfcc539590c51b7170b", func := "chicane/chicanelaw05.RingRooms", spec := "ringRooms", apart := false }
def RingRoomsSaid : Prop := ringRoomsRow.holds Try.pinned (OpenSpec.ofChange ringRoomsSpec)

/-- ITS FALSE NEIGHBOUR: 'it returns false'. Refute it at one input. -/
def ringRoomsWrong : ChangeSpec := { name := "ringRooms", fn := fun _ => fun
  | [d1, d2] => { results := [.lit (.bool false)], args := [d1, d2] }
  | _ => none }
def RingRoomsWrongFalsely : Prop := ringRoomsRow.holds Try.pinned (OpenSpec.ofChange ringRoomsWrong)

/-- 'chicanelaw05.RingAll': WHATEVER THE INPUT: true; the input reads as it did. -/
def ringAllSpec : ChangeSpec := { name := "ringAll", fn := fun _ => fun
  | [d1, d2] => { results := [.lit (.bool true)], args := [d1, d2] }
  | _ => none }
def ringAllRow : OpenClaim := { program := "ytbplfoanhfmheaa", sum := "d6abbd4850986729aa9054501556c050caa4a55e21efddfcc539590c51b7170b", func := "chicane/chicanelaw05.RingAll", spec := "ringAll", apart := false }
def RingAllSaid : Prop := ringAllRow.holds Try.pinned (OpenSpec.ofChange ringAllSpec)

/-- ITS FALSE NEIGHBOUR: 'it returns false'. Refute it at one input. -/
def ringAllWrong : ChangeSpec := { name := "ringAll", fn := fun _ => fun
  | [d1, d2] => { results := [.lit (.bool false)], args := [d1, d2] }
  | _ => none }
def RingAllWrongFalsely : Prop := ringAllRow.holds Try.pinned (OpenSpec.ofChange ringAllWrong)

/-- 'chicanelaw05.RingCopies': WHATEVER THE INPUT: true; the input reads as it did. -/
def ringCopiesSpec : ChangeSpec := { name := "ringCopies", fn := fun _ => fun
  | [d1, d2, d3] => { results := [.lit (.bool true)], args := [d1, d2, d3] }
  | _ => none }
def ringCopiesRow : OpenClaim := { program := "ytbplfoanhfmheaa", sum := "d6abbd4850986729aa9054501556c050caa4a55e21efddfcc539590c51b7170b", func := "chicane/chicanelaw05.RingCopies", spec := "ringCopies", apart := false }
def RingCopiesSaid : Prop := ringCopiesRow.holds Try.pinned (OpenSpec.ofChange ringCopiesSpec)

/-- ITS FALSE NEIGHBOUR: 'it returns false'. Refute it at one input. -/
def ringCopiesWrong : ChangeSpec := { name := "ringCopies", fn := fun _ => fun
  | [d1, d2, d3] => { results := [.lit (.bool false)], args := [d1, d2, d3] }
  | _ => none }
def RingCopiesWrongFalsely : Prop := ringCopiesRow.holds Try.pinned (OpenSpec.ofChange ringCopiesWrong)

/- THE SECOND FORM. 'bulk': how many values and letters a reading holds, each counted each time it is reached (what is shared counts as often as it is met; a slice's spare places count too). A statement '..UptoSaid' is the law's where the arguments, and the package variables that the reading takes, are together of bulk at most 1048576: NARROWER than '..Said'. Prove '..Said' where nothing that the law and all that it calls make is longer than what came in: it says more and counts as full. Else prove '..UptoSaid'. A law counts once. -/
mutual
def uptoBulk {H : Type} : DataW H → Nat
  | .lit (.string bytes) => bytes.length + 1
  | .lit _ => 1
  | .nil => 1
  | .ptr d => uptoBulk d + 1
  | .slice elems spare => uptoBulkAll elems + uptoBulkAll spare + 1
  | .agg parts => uptoBulkAll parts + 1
  | .iface _ d => uptoBulk d + 1
  | .map entries => uptoBulkEntries entries + 1
  | .held _ => 1
def uptoBulkAll {H : Type} : List (DataW H) → Nat
  | [] => 0
  | d :: r => uptoBulk d + uptoBulkAll r
def uptoBulkEntries {H : Type} : List (Lit × DataW H) → Nat
  | [] => 0
  | x :: r => uptoBulkEntry x + uptoBulkEntries r
def uptoBulkEntry {H : Type} : Lit × DataW H → Nat
  | (.string bytes, d) => bytes.length + uptoBulk d + 1
  | (_, d) => uptoBulk d + 1
 end
def uptoSmall : (H : Type) → List (DataW H) → Bool := fun _ ds => decide (uptoBulkAll ds ≤ 1048576)
def OpenSpec.upto (s : _root_.Go.ChangeSpec) : _root_.Go.OpenSpec := { _root_.Go.OpenSpec.ofChange s with cond := some uptoSmall }

/-- 'chicanelaw05.RingKeeps', WHERE WHAT IT READS IS OF BULK AT MOST 1048576: true; the input reads as it did. -/
def ringKeepsUptoRow : OpenClaim := { program := "ytbplfoanhfmheaa", sum := "d6abbd4850986729aa9054501556c050caa4a55e21efddfcc539590c51b7170b", func := "chicane/chicanelaw05.RingKeeps", spec := "ringKeeps", apart := false, narrowed := true }
def RingKeepsUptoSaid : Prop := ringKeepsUptoRow.holds Try.pinned (OpenSpec.upto ringKeepsSpec)

/-- 'chicanelaw05.RingParts', WHERE WHAT IT READS IS OF BULK AT MOST 1048576: true; the input reads as it did. -/
def ringPartsUptoRow : OpenClaim := { program := "ytbplfoanhfmheaa", sum := "d6abbd4850986729aa9054501556c050caa4a55e21efddfcc539590c51b7170b", func := "chicane/chicanelaw05.RingParts", spec := "ringParts", apart := false, narrowed := true }
def RingPartsUptoSaid : Prop := ringPartsUptoRow.holds Try.pinned (OpenSpec.upto ringPartsSpec)

/-- 'chicanelaw05.RingOwn', WHERE WHAT IT READS IS OF BULK AT MOST 1048576: true; the input reads as it did. -/
def ringOwnUptoRow : OpenClaim := { program := "ytbplfoanhfmheaa", sum := "d6abbd4850986729aa9054501556c050caa4a55e21efddfcc539590c51b7170b", func := "chicane/chicanelaw05.RingOwn", spec := "ringOwn", apart := false, narrowed := true }
def RingOwnUptoSaid : Prop := ringOwnUptoRow.holds Try.pinned (OpenSpec.upto ringOwnSpec)

/-- 'chicanelaw05.RingForced', WHERE WHAT IT READS IS OF BULK AT MOST 1048576: true; the input reads as it did. -/
def ringForcedUptoRow : OpenClaim := { program := "ytbplfoanhfmheaa", sum := "d6abbd4850986729aa9054501556c050caa4a55e21efddfcc539590c51b7170b", func := "chicane/chicanelaw05.RingForced", spec := "ringForced", apart := false, narrowed := true }
def RingForcedUptoSaid : Prop := ringForcedUptoRow.holds Try.pinned (OpenSpec.upto ringForcedSpec)

/-- 'chicanelaw05.RingRooms', WHERE WHAT IT READS IS OF BULK AT MOST 1048576: true; the input reads as it did. -/
def ringRoomsUptoRow : OpenClaim := { program := "ytbplfoanhfmheaa", sum := "d6abbd4850986729aa9054501556c050caa4a55e21efddfcc539590c51b7170b", func := "chicane/chicanelaw05.RingRooms", spec := "ringRooms", apart := false, narrowed := true }
def RingRoomsUptoSaid : Prop := ringRoomsUptoRow.holds Try.pinned (OpenSpec.upto ringRoomsSpec)

/-- 'chicanelaw05.RingAll', WHERE WHAT IT READS IS OF BULK AT MOST 1048576: true; the input reads as it did. -/
def ringAllUptoRow : OpenClaim := { program := "ytbplfoanhfmheaa", sum := "d6abbd4850986729aa9054501556c050caa4a55e21efddfcc539590c51b7170b", func := "chicane/chicanelaw05.RingAll", spec := "ringAll", apart := false, narrowed := true }
def RingAllUptoSaid : Prop := ringAllUptoRow.holds Try.pinned (OpenSpec.upto ringAllSpec)

/-- 'chicanelaw05.RingCopies', WHERE WHAT IT READS IS OF BULK AT MOST 1048576: true; the input reads as it did. -/
def ringCopiesUptoRow : OpenClaim := { program := "ytbplfoanhfmheaa", sum := "d6abbd4850986729aa9054501556c050caa4a55e21efddfcc539590c51b7170b", func := "chicane/chicanelaw05.RingCopies", spec := "ringCopies", apart := false, narrowed := true }
def RingCopiesUptoSaid : Prop := ringCopiesUptoRow.holds Try.pinned (OpenSpec.upto ringCopiesSpec)

end Rows
end Go.Proofs.Ytbplfoanhfmheaa
