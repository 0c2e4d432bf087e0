/- TailBegins: the closed facts of the row, each apart: own work. -/
import Derived.Test.YtplmdlobbfcknaaGreatDoorRow1
import Derived.Test.YtplmdlobbfcknaaGreatDoorMeR0
import Derived.Test.YtplmdlobbfcknaaGreatDoorCards
import Derived.Test.YtplmdlobbfcknaaGreatDoorTie
namespace Go.Proofs.YtplmdlobbfcknaaGreatDoor.tailBegins
open Go Go.Me Go.ChangeShapes Go.WideShapes Go.ChangeAt Go.RowKit
open Go.ChangeMaps (open_string shut_string)
set_option linter.unusedVariables false

set_option maxHeartbeats 40000000 in
theorem closedJ : joinedFacts Tryz.pinned.checked.prog 4 Tryz.f4 Rows.tailBeginsSpec Rows.tailBeginsRow = true := by
  unfold joinedFacts
  simp only [Bool.and_eq_true]
  repeat' apply And.intro
  all_goals (as_aux_lemma => kernel_rfl)
end Go.Proofs.YtplmdlobbfcknaaGreatDoor.tailBegins
