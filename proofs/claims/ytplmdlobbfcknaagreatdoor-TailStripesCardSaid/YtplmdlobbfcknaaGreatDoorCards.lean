/-
  DERIVED. GIVEN WITH THE SEED: THE CARDS: each row of YtplmdlobbfcknaaGreatDoorRows.lean that lists a variable, with what it lists TIED to the program's text (the seventh form; the later family's looks); each row that meets fmt, with fmt's text TOLD by the authors' own Lean function (tested against real Go, not proved from fmt's source: count such statements apart). THE CARD IS WHAT COUNTS. Prove the row's statement (the work); the ties are given (YtplmdlobbfcknaaGreatDoorTie.lean); close each card by the builder's one call (the guide's Derived/Test/ToyasCard.lean, 'card_holds'). Laid BY PROGRAM, IN A SANDBOX (cutbox-door.mjs). By AI agents, Wed Nov 11 2026. No macro, syntax, notation, axiom, sorry.
-/
import Derived.Test.YtplmdlobbfcknaaGreatDoorRows
import GoSem.ClaimSeven
namespace Go.Proofs.YtplmdlobbfcknaaGreatDoor
namespace Rows

/-- THE TIED CARD OF 'ingotlaw24.TailStripes'. -/
def tailStripesCard : Claim7 := { stood := { row := tailStripesRow, standIns := [], harness := (true, "7ece3b66118b387358e6e25237bb63aae4c8e1ca558dd5035c326c122dec18d6"), looks := true }, kinds := [], alts := [], laidByText := true, laidKinds := [.data, .data, .data, .data, .handle, .pinned], laidTests := true, laidLooks := .later }
def TailStripesCardSaid : Prop := Claim7.holds Tryz.pinned (.plain (OpenSpec.ofChange tailStripesSpec)) tailStripesCard

/-- THE TIED CARD OF 'ingotlaw24.TailBegins'. -/
def tailBeginsCard : Claim7 := { stood := { row := tailBeginsRow, standIns := [], harness := (true, "7ece3b66118b387358e6e25237bb63aae4c8e1ca558dd5035c326c122dec18d6"), looks := true }, kinds := [], alts := [], laidByText := true, laidKinds := [.data, .data, .data, .data, .handle, .pinned], laidTests := true, laidLooks := .later }
def TailBeginsCardSaid : Prop := Claim7.holds Tryz.pinned (.plain (OpenSpec.ofChange tailBeginsSpec)) tailBeginsCard

/-- THE SECOND FORM's CARD OF 'ingotlaw24.TailStripes'. -/
def tailStripesUptoCard : Claim7 := { stood := { row := tailStripesUptoRow, standIns := [], harness := (true, "7ece3b66118b387358e6e25237bb63aae4c8e1ca558dd5035c326c122dec18d6"), looks := true }, kinds := [], alts := [], laidByText := true, laidKinds := [.data, .data, .data, .data, .handle, .pinned], laidTests := true, laidLooks := .later }
def TailStripesUptoCardSaid : Prop := Claim7.holds Tryz.pinned (.plain (OpenSpec.upto tailStripesSpec)) tailStripesUptoCard

/-- THE SECOND FORM's CARD OF 'ingotlaw24.TailBegins'. -/
def tailBeginsUptoCard : Claim7 := { stood := { row := tailBeginsUptoRow, standIns := [], harness := (true, "7ece3b66118b387358e6e25237bb63aae4c8e1ca558dd5035c326c122dec18d6"), looks := true }, kinds := [], alts := [], laidByText := true, laidKinds := [.data, .data, .data, .data, .handle, .pinned], laidTests := true, laidLooks := .later }
def TailBeginsUptoCardSaid : Prop := Claim7.holds Tryz.pinned (.plain (OpenSpec.upto tailBeginsSpec)) tailBeginsUptoCard
end Rows
end Go.Proofs.YtplmdlobbfcknaaGreatDoor
