/-
  DERIVED. GIVEN WITH THE SEED: THE CARDS: each row of YtmeohcmbohicoaaGreatDoorRows.lean that lists a variable, with what it lists TIED to the program's text (the seventh form; the later family's looks); each row that meets fmt, with fmt's text TOLD by the authors' own Lean function (tested against real Go, not proved from fmt's source: count such statements apart). THE CARD IS WHAT COUNTS. Prove the row's statement (the work); the ties are given (YtmeohcmbohicoaaGreatDoorTie.lean); close each card by the builder's one call (the guide's Derived/Test/ToyasCard.lean, 'card_holds'). Laid BY PROGRAM, IN A SANDBOX (cutbox-door.mjs). By AI agents, Wed Nov 11 2026. No macro, syntax, notation, axiom, sorry.
-/
import Derived.Test.YtmeohcmbohicoaaGreatDoorRows
import GoSem.ClaimSeven
namespace Go.Proofs.YtmeohcmbohicoaaGreatDoor
namespace Rows

/-- THE TIED CARD OF 'ingotlaw21.FootOthers'. -/
def footOthersCard : Claim7 := { stood := { row := footOthersRow, standIns := [], harness := (true, "dd8f48630a5ad58e3a2957d54b1d3ac4533c3e7d8cb0d6cddb74779878654ae2"), looks := false }, kinds := [], alts := [], laidByText := true, laidKinds := [.data, .data, .data, .data, .pinned], laidTests := true, laidLooks := .later }
def FootOthersCardSaid : Prop := Claim7.holds Tryz.pinned (.plain (OpenSpec.ofChange footOthersSpec)) footOthersCard

/-- THE SECOND FORM's CARD OF 'ingotlaw21.FootOthers'. -/
def footOthersUptoCard : Claim7 := { stood := { row := footOthersUptoRow, standIns := [], harness := (true, "dd8f48630a5ad58e3a2957d54b1d3ac4533c3e7d8cb0d6cddb74779878654ae2"), looks := false }, kinds := [], alts := [], laidByText := true, laidKinds := [.data, .data, .data, .data, .pinned], laidTests := true, laidLooks := .later }
def FootOthersUptoCardSaid : Prop := Claim7.holds Tryz.pinned (.plain (OpenSpec.upto footOthersSpec)) footOthersUptoCard
end Rows
end Go.Proofs.YtmeohcmbohicoaaGreatDoor
