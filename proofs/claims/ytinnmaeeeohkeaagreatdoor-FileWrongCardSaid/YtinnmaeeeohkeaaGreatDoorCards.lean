/-
  DERIVED. GIVEN WITH THE SEED: THE CARDS: each row of YtinnmaeeeohkeaaGreatDoorRows.lean that lists a variable, with what it lists TIED to the program's text (the seventh form; the later family's looks); each row that meets fmt, with fmt's text TOLD by the authors' own Lean function (tested against real Go, not proved from fmt's source: count such statements apart). THE CARD IS WHAT COUNTS. Prove the row's statement (the work); the ties are given (YtinnmaeeeohkeaaGreatDoorTie.lean); close each card by the builder's one call (the guide's Derived/Test/ToyasCard.lean, 'card_holds'). Laid BY PROGRAM, IN A SANDBOX (cutbox-door.mjs). By AI agents, Wed Nov 11 2026. No macro, syntax, notation, axiom, sorry.
-/
import Derived.Test.YtinnmaeeeohkeaaGreatDoorRows
import GoSem.ClaimSeven
namespace Go.Proofs.YtinnmaeeeohkeaaGreatDoor
namespace Rows

/-- THE TIED CARD OF 'ingotlaw26.FileWrong'. -/
def fileWrongCard : Claim7 := { stood := { row := fileWrongRow, standIns := [], harness := (true, "d9ae5dab00e13106963de4c038f5852f82de09d356360aa9f09b181e05ee39ff"), looks := true }, kinds := [], alts := [], laidByText := true, laidKinds := [.data, .data, .data, .handle], laidTests := true, laidLooks := .later }
def FileWrongCardSaid : Prop := Claim7.holds Tryz.pinned (.plain (OpenSpec.ofChange fileWrongSpec)) fileWrongCard

/-- THE SECOND FORM's CARD OF 'ingotlaw26.FileWrong'. -/
def fileWrongUptoCard : Claim7 := { stood := { row := fileWrongUptoRow, standIns := [], harness := (true, "d9ae5dab00e13106963de4c038f5852f82de09d356360aa9f09b181e05ee39ff"), looks := true }, kinds := [], alts := [], laidByText := true, laidKinds := [.data, .data, .data, .handle], laidTests := true, laidLooks := .later }
def FileWrongUptoCardSaid : Prop := Claim7.holds Tryz.pinned (.plain (OpenSpec.upto fileWrongSpec)) fileWrongUptoCard
end Rows
end Go.Proofs.YtinnmaeeeohkeaaGreatDoor
