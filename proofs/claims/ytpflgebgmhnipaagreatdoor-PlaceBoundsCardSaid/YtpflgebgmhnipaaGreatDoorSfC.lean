/- A stripe's footer as the document's; footers held against each other. -/
import Derived.Test.YtpflgebgmhnipaaGreatDoorPbC
namespace Go.Proofs.YtpflgebgmhnipaaGreatDoor
open Go Go.Ev
set_option linter.unusedVariables false
set_option linter.unusedSimpArgs false
set_option maxHeartbeats 4000000

def plI (p : Int × Int × Int) : D := .agg [.int .i64 p.1, .int .i64 p.2.1, .int .i64 p.2.2]
def enI (p : Int × Int) : D := .agg [.int .i64 p.1, .int .i64 p.2]
def fI (ps : List (Int × Int × Int)) (es : List (Int × Int)) : D := .agg [.sl (ps.map plI), .sl (es.map enI)]
theorem take3' (a b c : D) : List.take 3 [a, b, c] = [a, b, c] := rfl
theorem len3' (a b c : D) : [a, b, c].length = 3 := rfl
theorem len2' (a b : D) : [a, b].length = 2 := rfl
end Go.Proofs.YtpflgebgmhnipaaGreatDoor
