/- All fields on a wire: the program's and the document's reader. -/
import Derived.Test.YtpnhljhciibfnaaGreatDoorPbA
namespace Go.Proofs.YtpnhljhciibfnaaGreatDoor
open Go Go.Ev
set_option linter.unusedVariables false
set_option linter.unusedSimpArgs false
set_option maxHeartbeats 4000000

/-- an array of the call's own that may have nothing yet -/
def ownZ (z : Nat) (acc : List D) : V := if acc.isEmpty then .d .nilS else .own false z acc
theorem ownZ_nil (z : Nat) : ownZ z [] = .d .nilS := rfl
theorem ownZ_cons (z : Nat) (d : D) (r : List D) : ownZ z (d :: r) = .own false z (d :: r) := rfl
theorem ownZ_snoc (z : Nat) (r : List D) (d : D) : ownZ z (r ++ [d]) = .own false z (r ++ [d]) := by cases r <;> rfl
end Go.Proofs.YtpnhljhciibfnaaGreatDoor
