/- A stripe's footer written: the document's writer. -/
import Derived.Test.YtpflgebgmhnipaaGreatDoorSfF
namespace Go.Proofs.YtpflgebgmhnipaaGreatDoor
open Go Go.Ev
set_option linter.unusedVariables false
set_option linter.unusedSimpArgs false
set_option maxHeartbeats 4000000

end Go.Proofs.YtpflgebgmhnipaaGreatDoor
