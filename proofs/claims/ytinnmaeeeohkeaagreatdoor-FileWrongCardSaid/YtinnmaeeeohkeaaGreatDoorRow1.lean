/- What the row's premise on package-level variables gives; the witness. Own work. -/
import Derived.Test.YtinnmaeeeohkeaaGreatDoorRows
import Derived.Test.YtinnmaeeeohkeaaGreatDoorFwH
import Derived.WalkKit
import Derived.ProofKit
import Derived.OpenShut
import Derived.ShutString
import Derived.ChangeOld
import Derived.Below
import Derived.Carry
import Derived.LaidMore
import Derived.LaidLaws
import Derived.LaidHandle
import Derived.Handed
import Derived.Stop.Joined
namespace Go.Proofs.YtinnmaeeeohkeaaGreatDoor
open Go Go.Me Go.ChangeShapes Go.WideShapes Go.ChangeAt Go.RowKit

theorem own : ownKnob Tryz.prog.godebug = none := by kernel_rfl
theorem laidOut : laidOutB Tryz.prog = true := by kernel_rfl
abbrev laids : List (String × DataW Unit) := Rows.fileWrongRow.laid
theorem globalE : Tryz.prog.globalNamed "errors.errorType" = some 0 := by kernel_rfl
theorem rtypeE : (Tryz.prog.cutTypes.find? (·.1 == "internal/reflectlite.rtype")).map (·.2) = some 177 := by kernel_rfl
theorem oneRow : ((List.range Tryz.prog.types.size).filter fun t => Tryz.prog.rowNamed t [101, 114, 114, 111, 114]) = [34] := by kernel_rfl
theorem handle_of_laid {W : World} (h : laidMetH Tryz.prog laids W) : W.cell? ⟨0, 0, none⟩ = some (.iface 177 (.agg #[.pointer (some ⟨5, 34, none⟩)])) := by
  have h' : laidMet Tryz.prog (laids.filter fun x => x.2.handleName?.isNone) W ∧ handlesMet Tryz.prog [("errors.errorType", Rows.laid_errors_errorType)] W := h
  obtain ⟨name, u, ty, e1, e2, e3, e4, e5⟩ := h'.2 _ (List.mem_singleton.2 rfl)
  have en : name = [101, 114, 114, 111, 114] := (Option.some.inj e1).symm
  subst en
  obtain rfl := Option.some.inj (rtypeE.symm.trans e2)
  have hm : ty ∈ (List.range Tryz.prog.types.size).filter fun t => Tryz.prog.rowNamed t [101, 114, 114, 111, 114] := List.mem_filter.2 ⟨List.mem_range.2 e3, e4⟩
  rw [oneRow] at hm
  obtain rfl := List.mem_singleton.1 hm
  have hh : typeHandle Tryz.prog 34 = .pointer (some ⟨5, 34, none⟩) := by kernel_rfl
  rw [hh] at e5
  simpa using World.var?_cell globalE e5 0
theorem laid_of {W : World} (h : laidMetH Tryz.prog laids W) : Laid cfgE W ∧ 0 < W.heap.size := by
  have hc := handle_of_laid h
  refine ⟨fun k cs hk => ?_, World.block_lt_of_cell? _ _ hc⟩
  have hk : gE k = some cs := hk
  unfold gE at hk
  split at hk
  · rename_i e
    subst e
    cases hk
    unfold World.cell? at hc
    split at hc
    · rename_i vs e fr hh
      refine ⟨vs, e, fr, hh, fun i x hx => ?_⟩
      match i, hx with
      | 0, hx =>
        cases hx
        exact ⟨_, by simpa using hc, .ifc _ _ _ (VR.agg' (.cons (.glob _ _) .nil))⟩
      | i + 1, hx => simp at hx
    · simp at hc
  · cases hk
/-- A world that meets the condition: what the door's run leaves. -/
noncomputable def laidWorld (os : Os) : World := World.doorLaid Tryz.prog 2000 os
theorem door_met (os : Os) (args : Array Value) : laidMetH Tryz.prog laids ((laidWorld os).forCall (fun _ _ => 0) ⟨#[], args, []⟩).memory :=
  laidMetH_of_parts (laidMet_of_run' 8 (by kernel_rfl) (by kernel_rfl)) (by kernel_rfl)
end Go.Proofs.YtinnmaeeeohkeaaGreatDoor
