/- The law ValueCopies, walked: every way. -/
import Derived.Test.YtnabebdceaoiiaaGreatDoorCpG
import Derived.Test.YtnabebdceaoiiaaGreatDoorCpH
import Derived.Below
namespace Go.Proofs.YtnabebdceaoiiaaGreatDoor
open Go Go.Ev Go.RowKit

theorem xo (t : Ty) (v : Va) (ht : tyIn t) (hv : okV v) (w : World) (vt vv : Value) (k0 : Rd anyB w vt t.d) (k1 : Rd anyB w vv v.d) (hg : ∀ n ob, cfg.gobj n = some ob → HoldsG w n ob) :
    Calls Tryz.prog 5 #[vt, vv] w fun e w' => e = .returned (.bool true) ∧ Below w.heap.size w w' := by
  have key : Calls Tryz.prog 5 #[vt, vv] w fun e w' => e = .returned (.bool true) ∧ w.grownBy w' none := by
    obtain ⟨c0, c1, c2, c3, c4, c5, rfl, _⟩ := aj0 k0
    obtain ⟨bv, ka, kc, rfl, _, _⟩ := ii k1
    cases hR : rightT t with
    | false => exact fy t v ht hv (.inl hR) w _ _ _ _ _ _ _ _ _ _ _ k0 k1 hg
    | true =>
      cases hF : fewVB v with
      | false => exact fy t v ht hv (.inr (.inl hF)) w _ _ _ _ _ _ _ _ _ _ _ k0 k1 hg
      | true =>
        by_cases hC : rchkV t v = 0
        · exact aau t v ht hv hR hF hC w _ _ _ _ _ _ _ _ _ _ _ k0 k1 hg
        · exact fy t v ht hv (.inr (.inr ⟨hR, hC⟩)) w _ _ _ _ _ _ _ _ _ _ _ k0 k1 hg
  exact key.mono fun e w' ⟨he, h⟩ => ⟨he, h.os, h.tape, h.output, h.size, fun b hb => h.block b hb (by simp)⟩
end Go.Proofs.YtnabebdceaoiiaaGreatDoor
