import Derived.Test.YtplmdlobbfcknaaGreatDoorRow1
import Derived.Test.YtplmdlobbfcknaaGreatDoorCards
import Derived.Test.YtplmdlobbfcknaaGreatDoorTie
namespace Go.Proofs.YtplmdlobbfcknaaGreatDoor.tailStripes
open Go Go.Ev Go.ChangeShapes Go.WideShapes Go.ChangeAt Go.RowKit
open Go.ChangeMaps (open_string shut_string)
set_option maxHeartbeats 40000000 in
theorem closedJ:joinedFacts Tryz.pinned.checked.prog 3 Tryz.f3 Rows.tailStripesSpec Rows.tailStripesRow=true:=by
 unfold joinedFacts;simp only[yu]
 repeat' apply And.intro
 all_goals (as_aux_lemma=>kernel_rfl)
