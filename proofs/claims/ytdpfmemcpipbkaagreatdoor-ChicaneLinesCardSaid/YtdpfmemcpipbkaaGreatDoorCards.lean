/-
  DERIVED. GIVEN WITH THE SEED: THE CARDS: each row of YtdpfmemcpipbkaaGreatDoorRows.lean that lists a variable, with what it lists TIED to the program's text (the seventh form; the later family's looks); each row that meets fmt, with fmt's text TOLD by the authors' own Lean function (tested against real Go, not proved from fmt's source: count such statements apart). THE CARD IS WHAT COUNTS. Prove the row's statement (the work); the ties are given (YtdpfmemcpipbkaaGreatDoorTie.lean); close each card by the builder's one call (the guide's Derived/Test/ToyasCard.lean, 'card_holds'). Laid BY PROGRAM, IN A SANDBOX (cutbox-door.mjs). By AI agents, Wed Nov 11 2026. No macro, syntax, notation, axiom, sorry.
-/
import Derived.Test.YtdpfmemcpipbkaaGreatDoorRows
import GoSem.ClaimSeven
namespace Go.Proofs.YtdpfmemcpipbkaaGreatDoor
namespace Rows

/-- THE TIED CARD OF 'chicanetop.ChicaneLines'. -/
def chicaneLinesCard : Claim7 := { stood := { row := chicaneLinesRow, standIns := [], harness := (true, "71320bd2b428fe71402a1d3190245fc251823ea623a45f8004d4b9ed5c4a9916"), looks := false }, kinds := [], alts := [], laidByText := true, laidKinds := [.data, .data, .data, .data, .listed, .data, .pinned], laidTests := true, laidLooks := .later }
def ChicaneLinesCardSaid : Prop := Claim7.holds Tryz.pinned (.plain (OpenSpec.ofChange chicaneLinesSpec)) chicaneLinesCard

/-- THE SECOND FORM's CARD OF 'chicanetop.ChicaneLines'. -/
def chicaneLinesUptoCard : Claim7 := { stood := { row := chicaneLinesUptoRow, standIns := [], harness := (true, "71320bd2b428fe71402a1d3190245fc251823ea623a45f8004d4b9ed5c4a9916"), looks := false }, kinds := [], alts := [], laidByText := true, laidKinds := [.data, .data, .data, .data, .listed, .data, .pinned], laidTests := true, laidLooks := .later }
def ChicaneLinesUptoCardSaid : Prop := Claim7.holds Tryz.pinned (.plain (OpenSpec.upto chicaneLinesSpec)) chicaneLinesUptoCard
end Rows
end Go.Proofs.YtdpfmemcpipbkaaGreatDoor
