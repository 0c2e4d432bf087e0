/- The row of the law TailBegins, and its card: for every input the law returns true, and each argument reads behind the call as it read before. No condition. -/
import Derived.Test.YtplmdlobbfcknaaGreatDoorRowTO
namespace Go.Proofs.YtplmdlobbfcknaaGreatDoor.tailBegins
open Go Go.Me Go.ChangeShapes Go.WideShapes Go.ChangeAt Go.RowKit
open Go.ChangeMaps (open_string shut_string)
set_option linter.unusedVariables false

theorem card_holds : Rows.TailBeginsCardSaid :=
  Claim7.holds_tied_plain_at .later [] [.data, .data, .data, .data, .handle, .pinned] true Rows.tailBeginsCard.stood.harness Rows.tailBeginsCard.stood.looks
    over (fun _ h => by cases h) (by as_aux_lemma => kernel_rfl) (fun _ h => by cases h) tailBegins_row_tie rfl ⟨rfl, rfl⟩ (by as_aux_lemma => kernel_rfl) rfl
    (fun f fn hf hfn => by
      obtain rfl : f = 4 := Option.some.inj ((show Tryz.prog.funcNamed "ingot/ingotlaw24.TailBegins" = some 4 by as_aux_lemma => kernel_rfl).symm.trans hf) |>.symm
      obtain rfl : fn = Tryz.f4 := (Option.some.inj (Tryz.func4.symm.trans hfn)).symm
      exact ⟨by as_aux_lemma => kernel_rfl, fun j t ht => by
        rw [Tryz.params4] at ht
        match j, ht with
        | 0, ht => cases ht; exact (show Tryz.prog.wantsStandIn 22 = false by as_aux_lemma => kernel_rfl)
        | 1, ht => cases ht; exact (show Tryz.prog.wantsStandIn 22 = false by as_aux_lemma => kernel_rfl)
        | j + 2, ht => simp at ht⟩)
    (by as_aux_lemma => kernel_rfl)
end Go.Proofs.YtplmdlobbfcknaaGreatDoor.tailBegins
