/-
  DERIVED. GIVEN WITH THE SEED: THE CARDS: each row of YtpnhljhciibfnaaGreatDoorRows.lean that lists a variable, with what it lists TIED to the program's text (the seventh form; the later family's looks); each row that meets fmt, with fmt's text TOLD by the authors' own Lean function (tested against real Go, not proved from fmt's source: count such statements apart). THE CARD IS WHAT COUNTS. Prove the row's statement (the work); the ties are given (YtpnhljhciibfnaaGreatDoorTie.lean); close each card by the builder's one call (the guide's Derived/Test/ToyasCard.lean, 'card_holds'). Laid BY PROGRAM, IN A SANDBOX (cutbox-door.mjs). By AI agents, Wed Nov 11 2026. No macro, syntax, notation, axiom, sorry.
-/
import Derived.Test.YtpnhljhciibfnaaGreatDoorRows
import GoSem.ClaimSeven
namespace Go.Proofs.YtpnhljhciibfnaaGreatDoor
namespace Rows

/-- THE TIED CARD OF 'ingotlaw21.FootStats'. -/
def footStatsCard : Claim7 := { stood := { row := footStatsRow, standIns := [], harness := (true, "23459ff7512288cfba7d52c5e658cce1b5e4efe91e017b4e499720f09896d041"), looks := false }, kinds := [], alts := [], laidByText := true, laidKinds := [.data, .data, .data, .data, .pinned], laidTests := true, laidLooks := .later }
def FootStatsCardSaid : Prop := Claim7.holds Tryz.pinned (.plain (OpenSpec.ofChange footStatsSpec)) footStatsCard

/-- THE TIED CARD OF 'ingotlaw21.FootTypes'. -/
def footTypesCard : Claim7 := { stood := { row := footTypesRow, standIns := [], harness := (true, "23459ff7512288cfba7d52c5e658cce1b5e4efe91e017b4e499720f09896d041"), looks := false }, kinds := [], alts := [], laidByText := true, laidKinds := [.data, .data, .data, .data, .pinned], laidTests := true, laidLooks := .later }
def FootTypesCardSaid : Prop := Claim7.holds Tryz.pinned (.plain (OpenSpec.ofChange footTypesSpec)) footTypesCard

/-- THE TIED CARD OF 'ingotlaw21.FootPairs'. -/
def footPairsCard : Claim7 := { stood := { row := footPairsRow, standIns := [], harness := (true, "23459ff7512288cfba7d52c5e658cce1b5e4efe91e017b4e499720f09896d041"), looks := false }, kinds := [], alts := [], laidByText := true, laidKinds := [.data, .data, .data, .data, .pinned], laidTests := true, laidLooks := .later }
def FootPairsCardSaid : Prop := Claim7.holds Tryz.pinned (.plain (OpenSpec.ofChange footPairsSpec)) footPairsCard

/-- THE TIED CARD OF 'ingotlaw21.FootOthers'. -/
def footOthersCard : Claim7 := { stood := { row := footOthersRow, standIns := [], harness := (true, "23459ff7512288cfba7d52c5e658cce1b5e4efe91e017b4e499720f09896d041"), looks := false }, kinds := [], alts := [], laidByText := true, laidKinds := [.data, .data, .data, .data, .pinned], laidTests := true, laidLooks := .later }
def FootOthersCardSaid : Prop := Claim7.holds Tryz.pinned (.plain (OpenSpec.ofChange footOthersSpec)) footOthersCard

/-- THE TIED CARD OF 'ingotlaw21.FootTwice'. -/
def footTwiceCard : Claim7 := { stood := { row := footTwiceRow, standIns := [], harness := (true, "23459ff7512288cfba7d52c5e658cce1b5e4efe91e017b4e499720f09896d041"), looks := false }, kinds := [], alts := [], laidByText := true, laidKinds := [.data, .data, .data, .data, .pinned], laidTests := true, laidLooks := .later }
def FootTwiceCardSaid : Prop := Claim7.holds Tryz.pinned (.plain (OpenSpec.ofChange footTwiceSpec)) footTwiceCard

/-- THE SECOND FORM's CARD OF 'ingotlaw21.FootStats'. -/
def footStatsUptoCard : Claim7 := { stood := { row := footStatsUptoRow, standIns := [], harness := (true, "23459ff7512288cfba7d52c5e658cce1b5e4efe91e017b4e499720f09896d041"), looks := false }, kinds := [], alts := [], laidByText := true, laidKinds := [.data, .data, .data, .data, .pinned], laidTests := true, laidLooks := .later }
def FootStatsUptoCardSaid : Prop := Claim7.holds Tryz.pinned (.plain (OpenSpec.upto footStatsSpec)) footStatsUptoCard

/-- THE SECOND FORM's CARD OF 'ingotlaw21.FootTypes'. -/
def footTypesUptoCard : Claim7 := { stood := { row := footTypesUptoRow, standIns := [], harness := (true, "23459ff7512288cfba7d52c5e658cce1b5e4efe91e017b4e499720f09896d041"), looks := false }, kinds := [], alts := [], laidByText := true, laidKinds := [.data, .data, .data, .data, .pinned], laidTests := true, laidLooks := .later }
def FootTypesUptoCardSaid : Prop := Claim7.holds Tryz.pinned (.plain (OpenSpec.upto footTypesSpec)) footTypesUptoCard

/-- THE SECOND FORM's CARD OF 'ingotlaw21.FootPairs'. -/
def footPairsUptoCard : Claim7 := { stood := { row := footPairsUptoRow, standIns := [], harness := (true, "23459ff7512288cfba7d52c5e658cce1b5e4efe91e017b4e499720f09896d041"), looks := false }, kinds := [], alts := [], laidByText := true, laidKinds := [.data, .data, .data, .data, .pinned], laidTests := true, laidLooks := .later }
def FootPairsUptoCardSaid : Prop := Claim7.holds Tryz.pinned (.plain (OpenSpec.upto footPairsSpec)) footPairsUptoCard

/-- THE SECOND FORM's CARD OF 'ingotlaw21.FootOthers'. -/
def footOthersUptoCard : Claim7 := { stood := { row := footOthersUptoRow, standIns := [], harness := (true, "23459ff7512288cfba7d52c5e658cce1b5e4efe91e017b4e499720f09896d041"), looks := false }, kinds := [], alts := [], laidByText := true, laidKinds := [.data, .data, .data, .data, .pinned], laidTests := true, laidLooks := .later }
def FootOthersUptoCardSaid : Prop := Claim7.holds Tryz.pinned (.plain (OpenSpec.upto footOthersSpec)) footOthersUptoCard

/-- THE SECOND FORM's CARD OF 'ingotlaw21.FootTwice'. -/
def footTwiceUptoCard : Claim7 := { stood := { row := footTwiceUptoRow, standIns := [], harness := (true, "23459ff7512288cfba7d52c5e658cce1b5e4efe91e017b4e499720f09896d041"), looks := false }, kinds := [], alts := [], laidByText := true, laidKinds := [.data, .data, .data, .data, .pinned], laidTests := true, laidLooks := .later }
def FootTwiceUptoCardSaid : Prop := Claim7.holds Tryz.pinned (.plain (OpenSpec.upto footTwiceSpec)) footTwiceUptoCard
end Rows
end Go.Proofs.YtpnhljhciibfnaaGreatDoor
