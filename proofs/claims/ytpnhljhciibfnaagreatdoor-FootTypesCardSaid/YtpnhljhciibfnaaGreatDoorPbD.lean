/- Fields sought by number: the last of a number, all of a number. -/
import Derived.Test.YtpnhljhciibfnaaGreatDoorPbC
namespace Go.Proofs.YtpnhljhciibfnaaGreatDoor
open Go Go.Ev
set_option linter.unusedVariables false
set_option linter.unusedSimpArgs false
set_option maxHeartbeats 4000000

theorem home_ownZ (z : Nat) (l : List D) : (ownZ z l).home 0 = ownZ z l := by cases l <;> rfl
end Go.Proofs.YtpnhljhciibfnaaGreatDoor

