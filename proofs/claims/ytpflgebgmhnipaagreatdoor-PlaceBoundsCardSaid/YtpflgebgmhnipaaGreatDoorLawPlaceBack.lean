/- Any places and encodings as bytes, and back. -/
import Derived.Test.YtpflgebgmhnipaaGreatDoorSfI
import Derived.Test.YtpflgebgmhnipaaGreatDoorLawPlaceBytes
namespace Go.Proofs.YtpflgebgmhnipaaGreatDoor
open Go Go.Ev
set_option linter.unusedVariables false
set_option linter.unusedSimpArgs false
set_option maxHeartbeats 4000000

theorem utc_len : (bytesF 3 utc).length ≤ 23 := Nat.le_trans (bytesF_le 3 utc) (by decide)
end Go.Proofs.YtpflgebgmhnipaaGreatDoor
