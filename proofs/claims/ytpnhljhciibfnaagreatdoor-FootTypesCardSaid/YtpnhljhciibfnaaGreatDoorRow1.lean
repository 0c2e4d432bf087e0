/- What the rows' premise on package-level variables gives; the witness. -/
import Derived.Test.YtpnhljhciibfnaaGreatDoorRows
import Derived.Test.YtpnhljhciibfnaaGreatDoorExt
import Derived.Test.YtpnhljhciibfnaaGreatDoorL12
import Derived.Test.YtpnhljhciibfnaaGreatDoorL13
import Derived.WalkKit
import Derived.ProofKit
import Derived.OpenShut
import Derived.ShutString
import Derived.ChangeOld
import Derived.Below
import Derived.LaidMore
import Derived.Stop.Joined
import Derived.Lib.LaidTab
namespace Go.Proofs.YtpnhljhciibfnaaGreatDoor
open Go Go.Ev Go.ChangeShapes Go.WideShapes Go.ChangeAt Go.RowKit

theorem own : ownKnob Tryz.prog.godebug = none := by kernel_rfl
theorem laidOut : laidOutB Tryz.prog = true := by kernel_rfl

abbrev laids : List (String × DataW Unit) := Rows.footTwiceRow.laid

theorem gobj_of {W : World} (_ : laidMetH Tryz.prog laids W) : ∀ n ob, cfg.gobj n = some ob → HoldsG W n ob := fun _ _ h => by cases h

/-- A world that meets the condition: what the door's run leaves, and the pinned table. -/
def cellOf : DataW Unit → Value
  | .lit (.int k n) => .int k n
  | _ => .bool false
def cellsOf' : DataW Unit → List Value
  | .agg l => l.map cellOf
  | _ => []
def firstCells : Array Value := (cellsOf' Go.Pinned.utf8First).toArray
noncomputable def laidWorld (os : Os) : World :=
  let w0 := World.doorLaid Tryz.prog 2000 os
  { w0 with heap := w0.heap.modify 4 fun
      | .cells _ t frozen => .cells firstCells t frozen
      | o => o }
theorem door_met (os : Os) (args : Array Value) : laidMetH Tryz.prog laids ((laidWorld os).forCall (fun _ _ => 0) ⟨#[], args, []⟩).memory :=
  laidMetH_of_parts3 (fuel := 8) (laidMet_of_run' 8 (by kernel_rfl) (by kernel_rfl)) (by kernel_rfl) (by kernel_rfl)

end Go.Proofs.YtpnhljhciibfnaaGreatDoor
