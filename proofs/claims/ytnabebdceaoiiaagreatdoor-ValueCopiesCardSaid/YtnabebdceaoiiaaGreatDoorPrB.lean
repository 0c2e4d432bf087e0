/- Values without what is not kept: plain; by the program. -/
import Derived.Test.YtnabebdceaoiiaaGreatDoorPrA
import Derived.Test.YtnabebdceaoiiaaGreatDoorTyE
import Derived.Test.YtnabebdceaoiiaaGreatDoorFlD
namespace Go.Proofs.YtnabebdceaoiiaaGreatDoor
open Go Go.Ev
set_option linter.unusedVariables false
set_option linter.unusedSimpArgs false
set_option maxHeartbeats 4000000

/-! what a value without what is not kept is; z: whether numbers go, too -/
mutual
def projV (z : Bool) (keep : List Bool) (p : Nat) : Ty → Va → Va
  | .mk k ns ks l pr s, v => if (v.null || k != 12) = true then v else .mk false (if z then 0 else v.i) (if z then 0 else v.n) [] (an7 z keep (p + 1) ks v.kids)
def an7 (z : Bool) (keep : List Bool) (p : Nat) : List Ty → List Va → List Va
  | k :: r, v :: vs => if keep.getD p false = true then projV z keep p k v :: an7 z keep (p + k.size) r vs else an7 z keep (p + k.size) r vs
  | _, _ => []
end
end Go.Proofs.YtnabebdceaoiiaaGreatDoor
