/-
  DERIVED. GIVEN WITH THE SEED: THE CARDS: each row of YtlcnfnjdelmkdaaGreatDoorRows.lean that lists a variable, with what it lists TIED to the program's text (the seventh form; the later family's looks); each row that meets fmt, with fmt's text TOLD by the authors' own Lean function (tested against real Go, not proved from fmt's source: count such statements apart). THE CARD IS WHAT COUNTS. Prove the row's statement (the work); the ties are given (YtlcnfnjdelmkdaaGreatDoorTie.lean); close each card by the builder's one call (the guide's Derived/Test/ToyasCard.lean, 'card_holds'). Laid BY PROGRAM, IN A SANDBOX (cutbox-door.mjs). By AI agents, Wed Nov 11 2026. No macro, syntax, notation, axiom, sorry.
-/
import Derived.Test.YtlcnfnjdelmkdaaGreatDoorRows
import GoSem.ClaimSeven
namespace Go.Proofs.YtlcnfnjdelmkdaaGreatDoor
namespace Rows

/-- THE TIED CARD OF 'ingotlaw22.PlaceIndex'. -/
def placeIndexCard : Claim7 := { stood := { row := placeIndexRow, standIns := [], harness := (true, "07ff44544067592fd26b85c999e6e91740dccac4980725fbad1d3c2440683497"), looks := false }, kinds := [], alts := [], laidByText := true, laidKinds := [.data, .data, .data, .data, .pinned], laidTests := true, laidLooks := .later }
def PlaceIndexCardSaid : Prop := Claim7.holds Tryz.pinned (.plain (OpenSpec.ofChange placeIndexSpec)) placeIndexCard

/-- THE SECOND FORM's CARD OF 'ingotlaw22.PlaceIndex'. -/
def placeIndexUptoCard : Claim7 := { stood := { row := placeIndexUptoRow, standIns := [], harness := (true, "07ff44544067592fd26b85c999e6e91740dccac4980725fbad1d3c2440683497"), looks := false }, kinds := [], alts := [], laidByText := true, laidKinds := [.data, .data, .data, .data, .pinned], laidTests := true, laidLooks := .later }
def PlaceIndexUptoCardSaid : Prop := Claim7.holds Tryz.pinned (.plain (OpenSpec.upto placeIndexSpec)) placeIndexUptoCard
end Rows
end Go.Proofs.YtlcnfnjdelmkdaaGreatDoor
