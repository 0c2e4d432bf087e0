/- A footer's user data. -/
import Derived.Test.YtpnhljhciibfnaaGreatDoorFtB
namespace Go.Proofs.YtpnhljhciibfnaaGreatDoor
open Go Go.Ev
set_option linter.unusedVariables false
set_option linter.unusedSimpArgs false
set_option maxHeartbeats 4000000

def pairOk (l : List Fld) : Prop := l.length ≤ 1000000 ∧ ∀ f ∈ l, f.b.length ≤ 1000000
end Go.Proofs.YtpnhljhciibfnaaGreatDoor
