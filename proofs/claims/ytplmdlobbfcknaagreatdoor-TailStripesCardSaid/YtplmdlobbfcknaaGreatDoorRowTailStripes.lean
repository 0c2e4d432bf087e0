import Derived.Test.YtplmdlobbfcknaaGreatDoorRowSO
namespace Go.Proofs.YtplmdlobbfcknaaGreatDoor.tailStripes
open Go Go.Ev Go.ChangeShapes Go.WideShapes Go.ChangeAt Go.RowKit
open Go.ChangeMaps (open_string shut_string)
theorem card_holds:Rows.TailStripesCardSaid:=
 Claim7.holds_tied_plain_at .later [] [.data,.data,.data,.data,.handle,.pinned] true Rows.tailStripesCard.stood.harness Rows.tailStripesCard.stood.looks
  over (fun _ h=>by cases h) (by as_aux_lemma=>kernel_rfl) (fun _ h=>by cases h) tailStripes_row_tie rfl ⟨rfl,rfl⟩ (by as_aux_lemma=>kernel_rfl) rfl
  (fun f fn hf hfn=>by
   obtain rfl:f=3:=Option.some.inj ((show Tryz.prog.funcNamed "ingot/ingotlaw24.TailStripes"= some 3 by as_aux_lemma=>kernel_rfl).symm.trans hf) |>.symm
   obtain rfl:fn=Tryz.f3:=(Option.some.inj (Tryz.func3.symm.trans hfn)).symm;exact⟨by as_aux_lemma=>kernel_rfl,fun j t ht=>by
    rw[Tryz.params3] at ht
    match j,ht with
    |0,ht=>cases ht;exact(show Tryz.prog.wantsStandIn 22=false by kernel_rfl)
    |1,ht=>cases ht;exact(show Tryz.prog.wantsStandIn 23=false by kernel_rfl)
    |2,ht=>cases ht;exact(show Tryz.prog.wantsStandIn 3=false by kernel_rfl)
    |j+3,ht=>simp at ht⟩)
  (by as_aux_lemma=>kernel_rfl)
end Go.Proofs.YtplmdlobbfcknaaGreatDoor.tailStripes
