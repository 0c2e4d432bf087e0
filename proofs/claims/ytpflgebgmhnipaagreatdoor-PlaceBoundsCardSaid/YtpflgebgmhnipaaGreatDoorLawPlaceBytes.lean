/- Any bytes as a stripe's footer. -/
import Derived.Test.YtpflgebgmhnipaaGreatDoorSfB
import Derived.Test.YtpflgebgmhnipaaGreatDoorSfC
import Derived.Test.YtpflgebgmhnipaaGreatDoorK
namespace Go.Proofs.YtpflgebgmhnipaaGreatDoor
open Go Go.Ev
set_option linter.unusedVariables false
set_option linter.unusedSimpArgs false
set_option maxHeartbeats 4000000

end Go.Proofs.YtpflgebgmhnipaaGreatDoor
