/- The row of the law FileWrong, and its card: for every input the law returns true, and each argument reads behind the call as it read before. No condition. -/
import Derived.Test.YtinnmaeeeohkeaaGreatDoorRowFO
namespace Go.Proofs.YtinnmaeeeohkeaaGreatDoor.fileWrong
open Go Go.Me Go.ChangeShapes Go.WideShapes Go.ChangeAt Go.RowKit
open Go.ChangeMaps (open_string shut_string)
set_option linter.unusedVariables false

theorem card_holds : Rows.FileWrongCardSaid :=
  Claim7.holds_tied_plain_at .later [] [.data, .data, .data, .handle] true Rows.fileWrongCard.stood.harness Rows.fileWrongCard.stood.looks
    over (fun _ h => by cases h) (by as_aux_lemma => kernel_rfl) (fun _ h => by cases h) fileWrong_row_tie rfl ⟨rfl, rfl⟩ (by as_aux_lemma => kernel_rfl) rfl
    (fun f fn hf hfn => by
      obtain rfl : f = 3 := Option.some.inj ((show Tryz.prog.funcNamed "ingot/ingotlaw26.FileWrong" = some 3 by as_aux_lemma => kernel_rfl).symm.trans hf) |>.symm
      obtain rfl : fn = Tryz.f3 := (Option.some.inj (Tryz.func3.symm.trans hfn)).symm
      exact ⟨by as_aux_lemma => kernel_rfl, fun j t ht => by
        rw [Tryz.params3] at ht
        match j, ht with
        | 0, ht => cases ht; exact (show Tryz.prog.wantsStandIn 3 = false by as_aux_lemma => kernel_rfl)
        | 1, ht => cases ht; exact (show Tryz.prog.wantsStandIn 3 = false by as_aux_lemma => kernel_rfl)
        | 2, ht => cases ht; exact (show Tryz.prog.wantsStandIn 2 = false by as_aux_lemma => kernel_rfl)
        | 3, ht => cases ht; exact (show Tryz.prog.wantsStandIn 23 = false by as_aux_lemma => kernel_rfl)
        | j + 4, ht => simp at ht⟩)
    (by as_aux_lemma => kernel_rfl)
end Go.Proofs.YtinnmaeeeohkeaaGreatDoor.fileWrong
