/- FileWrong: the closed facts of the row, each apart: own work. -/
import Derived.Test.YtinnmaeeeohkeaaGreatDoorRow1
import Derived.Test.YtinnmaeeeohkeaaGreatDoorFwN
import Derived.Test.YtinnmaeeeohkeaaGreatDoorMeR0
import Derived.Test.YtinnmaeeeohkeaaGreatDoorCards
import Derived.Test.YtinnmaeeeohkeaaGreatDoorTie
namespace Go.Proofs.YtinnmaeeeohkeaaGreatDoor.fileWrong
open Go Go.Me Go.ChangeShapes Go.WideShapes Go.ChangeAt Go.RowKit
open Go.ChangeMaps (open_string shut_string)
set_option linter.unusedVariables false

set_option maxHeartbeats 40000000 in
theorem closedJ : joinedFacts Tryz.pinned.checked.prog 3 Tryz.f3 Rows.fileWrongSpec Rows.fileWrongRow = true := by
  unfold joinedFacts
  simp only [Bool.and_eq_true]
  repeat' apply And.intro
  all_goals (as_aux_lemma => kernel_rfl)
end Go.Proofs.YtinnmaeeeohkeaaGreatDoor.fileWrong
