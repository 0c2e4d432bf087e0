/- Types: a tree checked, by the program. -/
import Derived.Test.YtnabebdceaoiiaaGreatDoorTyB
namespace Go.Proofs.YtnabebdceaoiiaaGreatDoor
open Go Go.Ev
set_option linter.unusedVariables false
set_option linter.unusedSimpArgs false
set_option maxHeartbeats 4000000

/-- boxes of calls ahead: data alone -/
def Zok (d : Nat) (Z : List (Cel × V)) : Prop := ∀ p ∈ Z, p.1.d < d ∧ ∃ x, p.2 = .d x
section
variable {d : Nat} {Z : List (Cel × V)} (h : Zok d Z)
include h
end
end Go.Proofs.YtnabebdceaoiiaaGreatDoor
