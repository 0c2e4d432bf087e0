/- Fields sought by number: texts. -/
import Derived.Test.YtpnhljhciibfnaaGreatDoorPbD
namespace Go.Proofs.YtpnhljhciibfnaaGreatDoor
open Go Go.Ev
set_option linter.unusedVariables false
set_option linter.unusedSimpArgs false
set_option maxHeartbeats 4000000

end Go.Proofs.YtpnhljhciibfnaaGreatDoor
