/-
  DERIVED. GIVEN WITH THE SEED: THE CARDS: each row of YtpflgebgmhnipaaGreatDoorRows.lean that lists a variable, with what it lists TIED to the program's text (the seventh form; the later family's looks); each row that meets fmt, with fmt's text TOLD by the authors' own Lean function (tested against real Go, not proved from fmt's source: count such statements apart). THE CARD IS WHAT COUNTS. Prove the row's statement (the work); the ties are given (YtpflgebgmhnipaaGreatDoorTie.lean); close each card by the builder's one call (the guide's Derived/Test/ToyasCard.lean, 'card_holds'). Laid BY PROGRAM, IN A SANDBOX (cutbox-door.mjs). By AI agents, Wed Nov 11 2026. No macro, syntax, notation, axiom, sorry.
-/
import Derived.Test.YtpflgebgmhnipaaGreatDoorRows
import GoSem.ClaimSeven
namespace Go.Proofs.YtpflgebgmhnipaaGreatDoor
namespace Rows

/-- THE TIED CARD OF 'ingotlaw22.PlaceBytes'. -/
def placeBytesCard : Claim7 := { stood := { row := placeBytesRow, standIns := [], harness := (true, "1241798c8a5a9c6da9398d22336f2850a39e8779e4aa90bb80d1aad6b7792a74"), looks := false }, kinds := [], alts := [], laidByText := true, laidKinds := [.data, .data, .data, .data, .pinned], laidTests := true, laidLooks := .later }
def PlaceBytesCardSaid : Prop := Claim7.holds Tryz.pinned (.plain (OpenSpec.ofChange placeBytesSpec)) placeBytesCard

/-- THE TIED CARD OF 'ingotlaw22.PlaceBack'. -/
def placeBackCard : Claim7 := { stood := { row := placeBackRow, standIns := [], harness := (true, "1241798c8a5a9c6da9398d22336f2850a39e8779e4aa90bb80d1aad6b7792a74"), looks := false }, kinds := [], alts := [], laidByText := true, laidKinds := [.data, .data, .data, .data, .pinned], laidTests := true, laidLooks := .later }
def PlaceBackCardSaid : Prop := Claim7.holds Tryz.pinned (.plain (OpenSpec.ofChange placeBackSpec)) placeBackCard

/-- THE TIED CARD OF 'ingotlaw22.PlaceOrder'. -/
def placeOrderCard : Claim7 := { stood := { row := placeOrderRow, standIns := [], harness := (true, "1241798c8a5a9c6da9398d22336f2850a39e8779e4aa90bb80d1aad6b7792a74"), looks := false }, kinds := [], alts := [], laidByText := true, laidKinds := [.data, .data, .data, .data, .pinned], laidTests := true, laidLooks := .later }
def PlaceOrderCardSaid : Prop := Claim7.holds Tryz.pinned (.plain (OpenSpec.ofChange placeOrderSpec)) placeOrderCard

/-- THE TIED CARD OF 'ingotlaw22.PlaceBounds'. -/
def placeBoundsCard : Claim7 := { stood := { row := placeBoundsRow, standIns := [], harness := (true, "1241798c8a5a9c6da9398d22336f2850a39e8779e4aa90bb80d1aad6b7792a74"), looks := false }, kinds := [], alts := [], laidByText := true, laidKinds := [.data, .data, .data, .data, .pinned], laidTests := true, laidLooks := .later }
def PlaceBoundsCardSaid : Prop := Claim7.holds Tryz.pinned (.plain (OpenSpec.ofChange placeBoundsSpec)) placeBoundsCard

/-- THE TIED CARD OF 'ingotlaw22.PlaceIndex'. -/
def placeIndexCard : Claim7 := { stood := { row := placeIndexRow, standIns := [], harness := (true, "1241798c8a5a9c6da9398d22336f2850a39e8779e4aa90bb80d1aad6b7792a74"), looks := false }, kinds := [], alts := [], laidByText := true, laidKinds := [.data, .data, .data, .data, .pinned], laidTests := true, laidLooks := .later }
def PlaceIndexCardSaid : Prop := Claim7.holds Tryz.pinned (.plain (OpenSpec.ofChange placeIndexSpec)) placeIndexCard

/-- THE SECOND FORM's CARD OF 'ingotlaw22.PlaceBytes'. -/
def placeBytesUptoCard : Claim7 := { stood := { row := placeBytesUptoRow, standIns := [], harness := (true, "1241798c8a5a9c6da9398d22336f2850a39e8779e4aa90bb80d1aad6b7792a74"), looks := false }, kinds := [], alts := [], laidByText := true, laidKinds := [.data, .data, .data, .data, .pinned], laidTests := true, laidLooks := .later }
def PlaceBytesUptoCardSaid : Prop := Claim7.holds Tryz.pinned (.plain (OpenSpec.upto placeBytesSpec)) placeBytesUptoCard

/-- THE SECOND FORM's CARD OF 'ingotlaw22.PlaceBack'. -/
def placeBackUptoCard : Claim7 := { stood := { row := placeBackUptoRow, standIns := [], harness := (true, "1241798c8a5a9c6da9398d22336f2850a39e8779e4aa90bb80d1aad6b7792a74"), looks := false }, kinds := [], alts := [], laidByText := true, laidKinds := [.data, .data, .data, .data, .pinned], laidTests := true, laidLooks := .later }
def PlaceBackUptoCardSaid : Prop := Claim7.holds Tryz.pinned (.plain (OpenSpec.upto placeBackSpec)) placeBackUptoCard

/-- THE SECOND FORM's CARD OF 'ingotlaw22.PlaceOrder'. -/
def placeOrderUptoCard : Claim7 := { stood := { row := placeOrderUptoRow, standIns := [], harness := (true, "1241798c8a5a9c6da9398d22336f2850a39e8779e4aa90bb80d1aad6b7792a74"), looks := false }, kinds := [], alts := [], laidByText := true, laidKinds := [.data, .data, .data, .data, .pinned], laidTests := true, laidLooks := .later }
def PlaceOrderUptoCardSaid : Prop := Claim7.holds Tryz.pinned (.plain (OpenSpec.upto placeOrderSpec)) placeOrderUptoCard

/-- THE SECOND FORM's CARD OF 'ingotlaw22.PlaceBounds'. -/
def placeBoundsUptoCard : Claim7 := { stood := { row := placeBoundsUptoRow, standIns := [], harness := (true, "1241798c8a5a9c6da9398d22336f2850a39e8779e4aa90bb80d1aad6b7792a74"), looks := false }, kinds := [], alts := [], laidByText := true, laidKinds := [.data, .data, .data, .data, .pinned], laidTests := true, laidLooks := .later }
def PlaceBoundsUptoCardSaid : Prop := Claim7.holds Tryz.pinned (.plain (OpenSpec.upto placeBoundsSpec)) placeBoundsUptoCard

/-- THE SECOND FORM's CARD OF 'ingotlaw22.PlaceIndex'. -/
def placeIndexUptoCard : Claim7 := { stood := { row := placeIndexUptoRow, standIns := [], harness := (true, "1241798c8a5a9c6da9398d22336f2850a39e8779e4aa90bb80d1aad6b7792a74"), looks := false }, kinds := [], alts := [], laidByText := true, laidKinds := [.data, .data, .data, .data, .pinned], laidTests := true, laidLooks := .later }
def PlaceIndexUptoCardSaid : Prop := Claim7.holds Tryz.pinned (.plain (OpenSpec.upto placeIndexSpec)) placeIndexUptoCard
end Rows
end Go.Proofs.YtpflgebgmhnipaaGreatDoor
