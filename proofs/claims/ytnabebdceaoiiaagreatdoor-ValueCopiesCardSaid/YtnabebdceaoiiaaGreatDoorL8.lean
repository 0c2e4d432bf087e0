/- The evaluator of Go code and its proofs, part 8. Own work. -/
import Derived.Test.YtnabebdceaoiiaaGreatDoorL7
set_option linter.unusedVariables false
set_option linter.unusedSimpArgs false
set_option linter.unusedSectionVars false
/-! PlDeci -/
/- Decimals, in plain words. Own work. -/
namespace Go.Ev
open Go

/-! streams -/
/-! powers of ten -/
/-! order -/
/-! another scale -/
/-! digits -/
def digN (n : Nat) : Nat := (decF 20 n).length
theorem xn (k n : Nat) : decF (k + 1) n = if n < 10 then [UInt8.ofNat (48 + n)] else decF k (n / 10) ++ [UInt8.ofNat (48 + n % 10)] := rfl
/-! words -/
end Go.Ev

/-! PlParse -/
/- Words of decimals read, in plain words. Own work. -/
namespace Go.Ev
open Go

/-! values of digits -/
/-! cutting -/
/-! byte by byte -/
end Go.Ev
