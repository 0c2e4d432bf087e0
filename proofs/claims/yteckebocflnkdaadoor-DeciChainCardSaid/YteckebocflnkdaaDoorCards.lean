/-
  DERIVED. GIVEN WITH THE SEED: THE CARDS: each row of YteckebocflnkdaaDoorRows.lean that lists a variable, with what it lists TIED to the program's text (the seventh form; the later family's looks); each row that meets fmt, with fmt's text TOLD by the authors' own Lean function (tested against real Go, not proved from fmt's source: count such statements apart). THE CARD IS WHAT COUNTS. Prove the row's statement (the work); the ties are given (YteckebocflnkdaaDoorTie.lean); close each card by the builder's one call (the guide's Derived/Test/ToyasCard.lean, 'card_holds'). Laid BY PROGRAM, IN A SANDBOX (cutbox-door.mjs). By AI agents, Wed Nov 11 2026. No macro, syntax, notation, axiom, sorry.
-/
import Derived.Test.YteckebocflnkdaaDoorRows
import GoSem.ClaimSeven
namespace Go.Proofs.YteckebocflnkdaaDoor
namespace Rows

/-- THE TIED CARD OF 'ingotlaw11.DeciStreams'. -/
def deciStreamsCard : Claim7 := { stood := { row := deciStreamsRow, standIns := [], harness := (true, "373e4fc5b8b2c070bb25db474d9106f728deb77b4cb42bafd398538d9b8351cc"), looks := false }, kinds := [], alts := [], laidByText := true, laidKinds := [.data, .data, .data, .data, .pinned], laidTests := true, laidLooks := .later }
def DeciStreamsCardSaid : Prop := Claim7.holds Tryd.pinned (.plain (OpenSpec.ofChange deciStreamsSpec)) deciStreamsCard

/-- THE TIED CARD OF 'ingotlaw11.DeciTexts'. -/
def deciTextsCard : Claim7 := { stood := { row := deciTextsRow, standIns := [], harness := (true, "373e4fc5b8b2c070bb25db474d9106f728deb77b4cb42bafd398538d9b8351cc"), looks := false }, kinds := [], alts := [], laidByText := true, laidKinds := [.data, .data, .data, .data, .pinned], laidTests := true, laidLooks := .later }
def DeciTextsCardSaid : Prop := Claim7.holds Tryd.pinned (.plain (OpenSpec.ofChange deciTextsSpec)) deciTextsCard

/-- THE TIED CARD OF 'ingotlaw11.DeciScales'. -/
def deciScalesCard : Claim7 := { stood := { row := deciScalesRow, standIns := [], harness := (true, "373e4fc5b8b2c070bb25db474d9106f728deb77b4cb42bafd398538d9b8351cc"), looks := false }, kinds := [], alts := [], laidByText := true, laidKinds := [.data, .data, .data, .data, .pinned], laidTests := true, laidLooks := .later }
def DeciScalesCardSaid : Prop := Claim7.holds Tryd.pinned (.plain (OpenSpec.ofChange deciScalesSpec)) deciScalesCard

/-- THE TIED CARD OF 'ingotlaw11.DeciOrder'. -/
def deciOrderCard : Claim7 := { stood := { row := deciOrderRow, standIns := [], harness := (true, "373e4fc5b8b2c070bb25db474d9106f728deb77b4cb42bafd398538d9b8351cc"), looks := false }, kinds := [], alts := [], laidByText := true, laidKinds := [.data, .data, .data, .data, .pinned], laidTests := true, laidLooks := .later }
def DeciOrderCardSaid : Prop := Claim7.holds Tryd.pinned (.plain (OpenSpec.ofChange deciOrderSpec)) deciOrderCard

/-- THE TIED CARD OF 'ingotlaw11.DeciAdds'. -/
def deciAddsCard : Claim7 := { stood := { row := deciAddsRow, standIns := [], harness := (true, "373e4fc5b8b2c070bb25db474d9106f728deb77b4cb42bafd398538d9b8351cc"), looks := false }, kinds := [], alts := [], laidByText := true, laidKinds := [.data, .data, .data, .data, .pinned], laidTests := true, laidLooks := .later }
def DeciAddsCardSaid : Prop := Claim7.holds Tryd.pinned (.plain (OpenSpec.ofChange deciAddsSpec)) deciAddsCard

/-- THE TIED CARD OF 'ingotlaw11.DeciSigns'. -/
def deciSignsCard : Claim7 := { stood := { row := deciSignsRow, standIns := [], harness := (true, "373e4fc5b8b2c070bb25db474d9106f728deb77b4cb42bafd398538d9b8351cc"), looks := false }, kinds := [], alts := [], laidByText := true, laidKinds := [.data, .data, .data, .data, .pinned], laidTests := true, laidLooks := .later }
def DeciSignsCardSaid : Prop := Claim7.holds Tryd.pinned (.plain (OpenSpec.ofChange deciSignsSpec)) deciSignsCard

/-- THE TIED CARD OF 'ingotlaw11.DeciChain'. -/
def deciChainCard : Claim7 := { stood := { row := deciChainRow, standIns := [], harness := (true, "373e4fc5b8b2c070bb25db474d9106f728deb77b4cb42bafd398538d9b8351cc"), looks := false }, kinds := [], alts := [], laidByText := true, laidKinds := [.data, .data, .data, .data, .pinned], laidTests := true, laidLooks := .later }
def DeciChainCardSaid : Prop := Claim7.holds Tryd.pinned (.plain (OpenSpec.ofChange deciChainSpec)) deciChainCard

/-- THE SECOND FORM's CARD OF 'ingotlaw11.DeciStreams'. -/
def deciStreamsUptoCard : Claim7 := { stood := { row := deciStreamsUptoRow, standIns := [], harness := (true, "373e4fc5b8b2c070bb25db474d9106f728deb77b4cb42bafd398538d9b8351cc"), looks := false }, kinds := [], alts := [], laidByText := true, laidKinds := [.data, .data, .data, .data, .pinned], laidTests := true, laidLooks := .later }
def DeciStreamsUptoCardSaid : Prop := Claim7.holds Tryd.pinned (.plain (OpenSpec.upto deciStreamsSpec)) deciStreamsUptoCard

/-- THE SECOND FORM's CARD OF 'ingotlaw11.DeciTexts'. -/
def deciTextsUptoCard : Claim7 := { stood := { row := deciTextsUptoRow, standIns := [], harness := (true, "373e4fc5b8b2c070bb25db474d9106f728deb77b4cb42bafd398538d9b8351cc"), looks := false }, kinds := [], alts := [], laidByText := true, laidKinds := [.data, .data, .data, .data, .pinned], laidTests := true, laidLooks := .later }
def DeciTextsUptoCardSaid : Prop := Claim7.holds Tryd.pinned (.plain (OpenSpec.upto deciTextsSpec)) deciTextsUptoCard

/-- THE SECOND FORM's CARD OF 'ingotlaw11.DeciScales'. -/
def deciScalesUptoCard : Claim7 := { stood := { row := deciScalesUptoRow, standIns := [], harness := (true, "373e4fc5b8b2c070bb25db474d9106f728deb77b4cb42bafd398538d9b8351cc"), looks := false }, kinds := [], alts := [], laidByText := true, laidKinds := [.data, .data, .data, .data, .pinned], laidTests := true, laidLooks := .later }
def DeciScalesUptoCardSaid : Prop := Claim7.holds Tryd.pinned (.plain (OpenSpec.upto deciScalesSpec)) deciScalesUptoCard

/-- THE SECOND FORM's CARD OF 'ingotlaw11.DeciOrder'. -/
def deciOrderUptoCard : Claim7 := { stood := { row := deciOrderUptoRow, standIns := [], harness := (true, "373e4fc5b8b2c070bb25db474d9106f728deb77b4cb42bafd398538d9b8351cc"), looks := false }, kinds := [], alts := [], laidByText := true, laidKinds := [.data, .data, .data, .data, .pinned], laidTests := true, laidLooks := .later }
def DeciOrderUptoCardSaid : Prop := Claim7.holds Tryd.pinned (.plain (OpenSpec.upto deciOrderSpec)) deciOrderUptoCard

/-- THE SECOND FORM's CARD OF 'ingotlaw11.DeciAdds'. -/
def deciAddsUptoCard : Claim7 := { stood := { row := deciAddsUptoRow, standIns := [], harness := (true, "373e4fc5b8b2c070bb25db474d9106f728deb77b4cb42bafd398538d9b8351cc"), looks := false }, kinds := [], alts := [], laidByText := true, laidKinds := [.data, .data, .data, .data, .pinned], laidTests := true, laidLooks := .later }
def DeciAddsUptoCardSaid : Prop := Claim7.holds Tryd.pinned (.plain (OpenSpec.upto deciAddsSpec)) deciAddsUptoCard

/-- THE SECOND FORM's CARD OF 'ingotlaw11.DeciSigns'. -/
def deciSignsUptoCard : Claim7 := { stood := { row := deciSignsUptoRow, standIns := [], harness := (true, "373e4fc5b8b2c070bb25db474d9106f728deb77b4cb42bafd398538d9b8351cc"), looks := false }, kinds := [], alts := [], laidByText := true, laidKinds := [.data, .data, .data, .data, .pinned], laidTests := true, laidLooks := .later }
def DeciSignsUptoCardSaid : Prop := Claim7.holds Tryd.pinned (.plain (OpenSpec.upto deciSignsSpec)) deciSignsUptoCard

/-- THE SECOND FORM's CARD OF 'ingotlaw11.DeciChain'. -/
def deciChainUptoCard : Claim7 := { stood := { row := deciChainUptoRow, standIns := [], harness := (true, "373e4fc5b8b2c070bb25db474d9106f728deb77b4cb42bafd398538d9b8351cc"), looks := false }, kinds := [], alts := [], laidByText := true, laidKinds := [.data, .data, .data, .data, .pinned], laidTests := true, laidLooks := .later }
def DeciChainUptoCardSaid : Prop := Claim7.holds Tryd.pinned (.plain (OpenSpec.upto deciChainSpec)) deciChainUptoCard
end Rows
end Go.Proofs.YteckebocflnkdaaDoor
