/- The rows' frame. -/
import Derived.Test.YtkdiccgfbfbjlaaGreatRows
import Derived.WalkKit
import Derived.ProofKit
import Derived.OpenShut
import Derived.ShutString
import Derived.ChangeOld
import Derived.Below
import Derived.Carry
import Derived.LaidMore
import Derived.Handed
import Derived.LaidLaws
namespace Go.Proofs.YtkdiccgfbfbjlaaGreat
open Go Go.ChangeShapes Go.WideShapes Go.ChangeAt Go.RowKit

theorem own : ownKnob Tryz.prog.godebug = none := by kernel_rfl
theorem laidOut : laidOutB Tryz.prog = true := by kernel_rfl
noncomputable def laidWorld (os : Os) : World := World.doorLaid Tryz.prog 2000 os
end Go.Proofs.YtkdiccgfbfbjlaaGreat
