/- A footer's numbers, its stripes, its user's data. -/
import Derived.Test.YtpnhljhciibfnaaGreatDoorFtA
namespace Go.Proofs.YtpnhljhciibfnaaGreatDoor
open Go Go.Ev
set_option linter.unusedVariables false
set_option linter.unusedSimpArgs false
set_option maxHeartbeats 4000000

def strOk (l : List Fld) : Prop := l.length ≤ 1000000 ∧ uM l 1 ≤ 262144 ∧ uM l 2 ≤ 262144 ∧ uM l 3 ≤ 262144 ∧ uM l 4 ≤ 262144 ∧ uM l 5 ≤ 262144
end Go.Proofs.YtpnhljhciibfnaaGreatDoor
