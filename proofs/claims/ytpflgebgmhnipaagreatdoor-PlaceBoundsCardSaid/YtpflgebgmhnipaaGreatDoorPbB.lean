/- A field on a wire, the document's reader; all fields. -/
import Derived.Test.YtpflgebgmhnipaaGreatDoorPbA
namespace Go.Proofs.YtpflgebgmhnipaaGreatDoor
open Go Go.Ev
set_option linter.unusedVariables false
set_option linter.unusedSimpArgs false
set_option maxHeartbeats 4000000

end Go.Proofs.YtpflgebgmhnipaaGreatDoor
