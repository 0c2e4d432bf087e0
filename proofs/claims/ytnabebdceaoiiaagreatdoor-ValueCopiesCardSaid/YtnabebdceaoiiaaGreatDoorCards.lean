/-
  DERIVED. GIVEN WITH THE SEED: THE CARDS: each row of YtnabebdceaoiiaaGreatDoorRows.lean that lists a variable, with what it lists TIED to the program's text (the seventh form; the later family's looks); each row that meets fmt, with fmt's text TOLD by the authors' own Lean function (tested against real Go, not proved from fmt's source: count such statements apart). THE CARD IS WHAT COUNTS. Prove the row's statement (the work); the ties are given (YtnabebdceaoiiaaGreatDoorTie.lean); close each card by the builder's one call (the guide's Derived/Test/ToyasCard.lean, 'card_holds'). Laid BY PROGRAM, IN A SANDBOX (cutbox-door.mjs). By AI agents, Wed Nov 11 2026. No macro, syntax, notation, axiom, sorry.
-/
import Derived.Test.YtnabebdceaoiiaaGreatDoorRows
import GoSem.ClaimSeven
namespace Go.Proofs.YtnabebdceaoiiaaGreatDoor
namespace Rows

/-- THE TIED CARD OF 'ingotlaw14.ValueTwo'. -/
def valueTwoCard : Claim7 := { stood := { row := valueTwoRow, standIns := [], harness := (true, "d7e6c777f0c814462e73523d4802d63177132d2a84c9f895226d4dee7ef51cdb"), looks := false }, kinds := [], alts := [], laidByText := true, laidKinds := [.data, .data, .data, .data, .pinned], laidTests := true, laidLooks := .later }
def ValueTwoCardSaid : Prop := Claim7.holds Tryz.pinned (.plain (OpenSpec.ofChange valueTwoSpec)) valueTwoCard

/-- THE TIED CARD OF 'ingotlaw14.ValueProjects'. -/
def valueProjectsCard : Claim7 := { stood := { row := valueProjectsRow, standIns := [], harness := (true, "d7e6c777f0c814462e73523d4802d63177132d2a84c9f895226d4dee7ef51cdb"), looks := false }, kinds := [], alts := [], laidByText := true, laidKinds := [.data, .data, .data, .data, .pinned], laidTests := true, laidLooks := .later }
def ValueProjectsCardSaid : Prop := Claim7.holds Tryz.pinned (.plain (OpenSpec.ofChange valueProjectsSpec)) valueProjectsCard

/-- THE TIED CARD OF 'ingotlaw14.ValueCopies'. -/
def valueCopiesCard : Claim7 := { stood := { row := valueCopiesRow, standIns := [], harness := (true, "d7e6c777f0c814462e73523d4802d63177132d2a84c9f895226d4dee7ef51cdb"), looks := false }, kinds := [], alts := [], laidByText := true, laidKinds := [.data, .data, .data, .data, .pinned], laidTests := true, laidLooks := .later }
def ValueCopiesCardSaid : Prop := Claim7.holds Tryz.pinned (.plain (OpenSpec.ofChange valueCopiesSpec)) valueCopiesCard

/-- THE TIED CARD OF 'ingotlaw14.ValueRanges'. -/
def valueRangesCard : Claim7 := { stood := { row := valueRangesRow, standIns := [], harness := (true, "d7e6c777f0c814462e73523d4802d63177132d2a84c9f895226d4dee7ef51cdb"), looks := false }, kinds := [], alts := [], laidByText := true, laidKinds := [.data, .data, .data, .data, .pinned], laidTests := true, laidLooks := .later }
def ValueRangesCardSaid : Prop := Claim7.holds Tryz.pinned (.plain (OpenSpec.ofChange valueRangesSpec)) valueRangesCard

/-- THE TIED CARD OF 'ingotlaw14.ValueLengths'. -/
def valueLengthsCard : Claim7 := { stood := { row := valueLengthsRow, standIns := [], harness := (true, "d7e6c777f0c814462e73523d4802d63177132d2a84c9f895226d4dee7ef51cdb"), looks := false }, kinds := [], alts := [], laidByText := true, laidKinds := [.data, .data, .data, .data, .pinned], laidTests := true, laidLooks := .later }
def ValueLengthsCardSaid : Prop := Claim7.holds Tryz.pinned (.plain (OpenSpec.ofChange valueLengthsSpec)) valueLengthsCard

/-- THE TIED CARD OF 'ingotlaw14.ValueNulls'. -/
def valueNullsCard : Claim7 := { stood := { row := valueNullsRow, standIns := [], harness := (true, "d7e6c777f0c814462e73523d4802d63177132d2a84c9f895226d4dee7ef51cdb"), looks := false }, kinds := [], alts := [], laidByText := true, laidKinds := [.data, .data, .data, .data, .pinned], laidTests := true, laidLooks := .later }
def ValueNullsCardSaid : Prop := Claim7.holds Tryz.pinned (.plain (OpenSpec.ofChange valueNullsSpec)) valueNullsCard

/-- THE TIED CARD OF 'ingotlaw14.ValueOrders'. -/
def valueOrdersCard : Claim7 := { stood := { row := valueOrdersRow, standIns := [], harness := (true, "d7e6c777f0c814462e73523d4802d63177132d2a84c9f895226d4dee7ef51cdb"), looks := false }, kinds := [], alts := [], laidByText := true, laidKinds := [.data, .data, .data, .data, .pinned], laidTests := true, laidLooks := .later }
def ValueOrdersCardSaid : Prop := Claim7.holds Tryz.pinned (.plain (OpenSpec.ofChange valueOrdersSpec)) valueOrdersCard

/-- THE SECOND FORM's CARD OF 'ingotlaw14.ValueTwo'. -/
def valueTwoUptoCard : Claim7 := { stood := { row := valueTwoUptoRow, standIns := [], harness := (true, "d7e6c777f0c814462e73523d4802d63177132d2a84c9f895226d4dee7ef51cdb"), looks := false }, kinds := [], alts := [], laidByText := true, laidKinds := [.data, .data, .data, .data, .pinned], laidTests := true, laidLooks := .later }
def ValueTwoUptoCardSaid : Prop := Claim7.holds Tryz.pinned (.plain (OpenSpec.upto valueTwoSpec)) valueTwoUptoCard

/-- THE SECOND FORM's CARD OF 'ingotlaw14.ValueProjects'. -/
def valueProjectsUptoCard : Claim7 := { stood := { row := valueProjectsUptoRow, standIns := [], harness := (true, "d7e6c777f0c814462e73523d4802d63177132d2a84c9f895226d4dee7ef51cdb"), looks := false }, kinds := [], alts := [], laidByText := true, laidKinds := [.data, .data, .data, .data, .pinned], laidTests := true, laidLooks := .later }
def ValueProjectsUptoCardSaid : Prop := Claim7.holds Tryz.pinned (.plain (OpenSpec.upto valueProjectsSpec)) valueProjectsUptoCard

/-- THE SECOND FORM's CARD OF 'ingotlaw14.ValueCopies'. -/
def valueCopiesUptoCard : Claim7 := { stood := { row := valueCopiesUptoRow, standIns := [], harness := (true, "d7e6c777f0c814462e73523d4802d63177132d2a84c9f895226d4dee7ef51cdb"), looks := false }, kinds := [], alts := [], laidByText := true, laidKinds := [.data, .data, .data, .data, .pinned], laidTests := true, laidLooks := .later }
def ValueCopiesUptoCardSaid : Prop := Claim7.holds Tryz.pinned (.plain (OpenSpec.upto valueCopiesSpec)) valueCopiesUptoCard

/-- THE SECOND FORM's CARD OF 'ingotlaw14.ValueRanges'. -/
def valueRangesUptoCard : Claim7 := { stood := { row := valueRangesUptoRow, standIns := [], harness := (true, "d7e6c777f0c814462e73523d4802d63177132d2a84c9f895226d4dee7ef51cdb"), looks := false }, kinds := [], alts := [], laidByText := true, laidKinds := [.data, .data, .data, .data, .pinned], laidTests := true, laidLooks := .later }
def ValueRangesUptoCardSaid : Prop := Claim7.holds Tryz.pinned (.plain (OpenSpec.upto valueRangesSpec)) valueRangesUptoCard

/-- THE SECOND FORM's CARD OF 'ingotlaw14.ValueLengths'. -/
def valueLengthsUptoCard : Claim7 := { stood := { row := valueLengthsUptoRow, standIns := [], harness := (true, "d7e6c777f0c814462e73523d4802d63177132d2a84c9f895226d4dee7ef51cdb"), looks := false }, kinds := [], alts := [], laidByText := true, laidKinds := [.data, .data, .data, .data, .pinned], laidTests := true, laidLooks := .later }
def ValueLengthsUptoCardSaid : Prop := Claim7.holds Tryz.pinned (.plain (OpenSpec.upto valueLengthsSpec)) valueLengthsUptoCard

/-- THE SECOND FORM's CARD OF 'ingotlaw14.ValueNulls'. -/
def valueNullsUptoCard : Claim7 := { stood := { row := valueNullsUptoRow, standIns := [], harness := (true, "d7e6c777f0c814462e73523d4802d63177132d2a84c9f895226d4dee7ef51cdb"), looks := false }, kinds := [], alts := [], laidByText := true, laidKinds := [.data, .data, .data, .data, .pinned], laidTests := true, laidLooks := .later }
def ValueNullsUptoCardSaid : Prop := Claim7.holds Tryz.pinned (.plain (OpenSpec.upto valueNullsSpec)) valueNullsUptoCard

/-- THE SECOND FORM's CARD OF 'ingotlaw14.ValueOrders'. -/
def valueOrdersUptoCard : Claim7 := { stood := { row := valueOrdersUptoRow, standIns := [], harness := (true, "d7e6c777f0c814462e73523d4802d63177132d2a84c9f895226d4dee7ef51cdb"), looks := false }, kinds := [], alts := [], laidByText := true, laidKinds := [.data, .data, .data, .data, .pinned], laidTests := true, laidLooks := .later }
def ValueOrdersUptoCardSaid : Prop := Claim7.holds Tryz.pinned (.plain (OpenSpec.upto valueOrdersSpec)) valueOrdersUptoCard
end Rows
end Go.Proofs.YtnabebdceaoiiaaGreatDoor
