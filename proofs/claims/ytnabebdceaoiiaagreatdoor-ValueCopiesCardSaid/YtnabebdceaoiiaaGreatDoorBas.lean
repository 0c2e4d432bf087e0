/- Arrays of the call's own that may have nothing yet; numbers as data. -/
import Derived.Test.YtnabebdceaoiiaaGreatDoorK
import Derived.Test.YtnabebdceaoiiaaGreatDoorL9
namespace Go.Proofs.YtnabebdceaoiiaaGreatDoor
open Go Go.Ev
def ownZ (z : Nat) (acc : List D) : V := if acc.isEmpty then .d .nilS else .own false z acc
theorem pg (z : Nat) : ownZ z [] = .d .nilS := rfl
theorem wh (z : Nat) (d : D) (r : List D) : ownZ z (d :: r) = .own false z (d :: r) := rfl
theorem an9 (z : Nat) (r : List D) (d : D) : ownZ z (r ++ [d]) = .own false z (r ++ [d]) := by cases r <;> rfl
theorem lu (z : Nat) (l : List D) : (ownZ z l).home 0 = ownZ z l := by cases l <;> rfl
def intN (k : Nat) : D := .int .i64 (k : Int)
end Go.Proofs.YtnabebdceaoiiaaGreatDoor
