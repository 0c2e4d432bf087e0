/- The rows' frame. -/
import Derived.Test.YtghhloejmikdfaaRows
import Derived.Test.YtghhloejmikdfaaExt
import Derived.Test.YtghhloejmikdfaaL10
import Derived.Test.YtghhloejmikdfaaL11
import Derived.WalkKit
import Derived.ProofKit
import Derived.OpenShut
import Derived.ShutString
import Derived.ChangeOld
import Derived.Below
import Derived.LaidMore
import Derived.Handed
import Derived.LaidLaws
namespace Go.Proofs.Ytghhloejmikdfaa
open Go Go.Ev Go.ChangeShapes Go.WideShapes Go.ChangeAt Go.RowKit

theorem own : ownKnob Try.prog.godebug = none := by kernel_rfl
theorem laidOut : laidOutB Try.prog = true := by kernel_rfl
noncomputable def laidWorld (os : Os) : World := World.doorLaid Try.prog 2000 os
end Go.Proofs.Ytghhloejmikdfaa
