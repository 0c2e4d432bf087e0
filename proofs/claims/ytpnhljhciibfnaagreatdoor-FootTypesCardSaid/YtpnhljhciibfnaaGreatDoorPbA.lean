/- A field on a wire: what the program's and the document's readers compute. -/
import Derived.Test.YtpnhljhciibfnaaGreatDoorNuA
import Derived.Test.YtpnhljhciibfnaaGreatDoorL14
namespace Go.Proofs.YtpnhljhciibfnaaGreatDoor
open Go Go.Ev
set_option linter.unusedVariables false
set_option linter.unusedSimpArgs false
set_option maxHeartbeats 4000000

/-- facts on a key -/
structure Key (l : List UInt8) (p : Nat) (k : Nat × Nat × Nat) : Prop where
  lt : k.1 < 18446744073709551616
  pos : 1 ≤ k.2.1
  fit : p + k.2.1 ≤ l.length
  few : k.2.1 ≤ 10
end Go.Proofs.YtpnhljhciibfnaaGreatDoor
