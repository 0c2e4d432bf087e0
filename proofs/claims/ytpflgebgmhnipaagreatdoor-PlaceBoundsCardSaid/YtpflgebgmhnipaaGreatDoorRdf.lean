/- Arguments of rows: a stripe's footer. -/
import Derived.Test.YtpflgebgmhnipaaGreatDoorSfC
import Derived.Test.YtpflgebgmhnipaaGreatDoorL13
namespace Go.Proofs.YtpflgebgmhnipaaGreatDoor
open Go Go.Ev Go.RowKit
set_option linter.unusedVariables false
set_option linter.unusedSimpArgs false

section
variable {P : Program} {w : World} {n : Nat} {t : TypeId}
end
section
variable {W : World} {H : Type} {enc : TypeId × Value → H} {base : Nat} {spare : Nat → Bool} {held : Bool} {cs : Array Value} {x : DataW H × List MemPlace}
end
end Go.Proofs.YtpflgebgmhnipaaGreatDoor
