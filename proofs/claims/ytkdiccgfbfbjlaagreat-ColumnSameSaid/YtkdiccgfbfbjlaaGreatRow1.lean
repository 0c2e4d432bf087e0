import Derived.Test.YtkdiccgfbfbjlaaGreatRows
import Derived.Test.YtkdiccgfbfbjlaaGreatExt
import Derived.Test.YtkdiccgfbfbjlaaGreatL8
import Derived.Test.YtkdiccgfbfbjlaaGreatL10
import Derived.WalkKit
import Derived.ProofKit
import Derived.OpenShut
import Derived.ShutString
import Derived.ChangeOld
import Derived.Below
import Derived.LaidMore
import Derived.Handed
import Derived.LaidLaws
namespace Go.Proofs.YtkdiccgfbfbjlaaGreat
open Go Go.Ev Go.ChangeShapes Go.WideShapes Go.ChangeAt Go.RowKit
theorem own:ownKnob Tryz.prog.godebug=none:=abv
theorem ap7:laidOutB Tryz.prog=true:=abv
noncomputable def blt (os:Os):World:=World.doorLaid Tryz.prog 2000 os
end Go.Proofs.YtkdiccgfbfbjlaaGreat
