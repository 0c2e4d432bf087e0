/- What the row's premise on package-level variables gives; the witness. Own work. -/
import Derived.Test.YtplmdlobbfcknaaGreatDoorRows
import Derived.Test.YtplmdlobbfcknaaGreatDoorTbK
import Derived.WalkKit
import Derived.ProofKit
import Derived.OpenShut
import Derived.ShutString
import Derived.ChangeOld
import Derived.Below
import Derived.Carry
import Derived.LaidMore
import Derived.LaidLaws
import Derived.LaidHandle
import Derived.Handed
import Derived.Stop.Joined
namespace Go.Proofs.YtplmdlobbfcknaaGreatDoor
set_option maxRecDepth 100000
set_option linter.unusedVariables false
set_option linter.unusedSimpArgs false
set_option linter.constructorNameAsVariable false
open Go Go.Me Go.ChangeShapes Go.WideShapes Go.ChangeAt Go.RowKit

theorem own : ownKnob Tryz.prog.godebug = none := by kernel_rfl
theorem laidOut : laidOutB Tryz.prog = true := by kernel_rfl
abbrev laids : List (String × DataW Unit) := Rows.tailBeginsRow.laid
theorem globalE : Tryz.prog.globalNamed "errors.errorType" = some 0 := by kernel_rfl
theorem rtypeE : (Tryz.prog.cutTypes.find? (·.1 == "internal/reflectlite.rtype")).map (·.2) = some 184 := by kernel_rfl
theorem oneRow : ((List.range Tryz.prog.types.size).filter fun t => Tryz.prog.rowNamed t [101, 114, 114, 111, 114]) = [52] := by kernel_rfl
theorem handle_of_laid {W : World} (h : laidMetH Tryz.prog laids W) : W.cell? ⟨0, 0, none⟩ = some (.iface 184 (.agg #[.pointer (some ⟨7, 52, none⟩)])) := by
  have h' : laidMet Tryz.prog (laids.filter fun x => x.2.handleName?.isNone) W ∧ handlesMet Tryz.prog [("errors.errorType", Rows.laid_errors_errorType)] W := h
  obtain ⟨name, u, ty, e1, e2, e3, e4, e5⟩ := h'.2 _ (List.mem_singleton.2 rfl)
  have en : name = [101, 114, 114, 111, 114] := (Option.some.inj e1).symm
  subst en
  obtain rfl := Option.some.inj (rtypeE.symm.trans e2)
  have hm : ty ∈ (List.range Tryz.prog.types.size).filter fun t => Tryz.prog.rowNamed t [101, 114, 114, 111, 114] := List.mem_filter.2 ⟨List.mem_range.2 e3, e4⟩
  rw [oneRow] at hm
  obtain rfl := List.mem_singleton.1 hm
  have hh : typeHandle Tryz.prog 52 = .pointer (some ⟨7, 52, none⟩) := by kernel_rfl
  rw [hh] at e5
  simpa using World.var?_cell globalE e5 0
theorem laid_of {W : World} (h : laidMetH Tryz.prog laids W) : Laid cfg0 W ∧ 0 < W.heap.size := by
  have hc := handle_of_laid h
  refine ⟨fun k cs hk => ?_, World.block_lt_of_cell? _ _ hc⟩
  have hk : gE k = some cs := hk
  unfold gE at hk
  split at hk
  · rename_i e
    subst e
    cases hk
    unfold World.cell? at hc
    split at hc
    · rename_i vs e fr hh
      refine ⟨vs, e, fr, hh, fun i x hx => ?_⟩
      match i, hx with
      | 0, hx =>
        cases hx
        exact ⟨_, by simpa using hc, .ifc _ _ _ (VR.agg' (.cons (.glob _ _) .nil))⟩
      | i + 1, hx => simp at hx
    · simp at hc
  · cases hk
/-- A world that meets the condition: what the door's run leaves. -/
def cellOf : DataW Unit → Value
  | .lit (.int k n) => .int k n
  | _ => .bool false
def cellsOf' : DataW Unit → List Value
  | .agg l => l.map cellOf
  | _ => []
def firstCells : Array Value := (cellsOf' Go.Pinned.utf8First).toArray
noncomputable def laidWorld (os : Os) : World :=
  let w0 := World.doorLaid Tryz.prog 2000 os
  { w0 with heap := w0.heap.modify 5 fun
      | .cells _ t frozen => .cells firstCells t frozen
      | o => o }
theorem door_met (os : Os) (args : Array Value) : laidMetH Tryz.prog laids ((laidWorld os).forCall (fun _ _ => 0) ⟨#[], args, []⟩).memory :=
  laidMetH_of_parts (laidMet_of_run' 8 (by kernel_rfl) (by kernel_rfl)) (by kernel_rfl)
/-- bytes given, opened -/
theorem open_byt {H : Type} {enc : TypeId × Value → H} {W : World} {base : Nat} {v : Value} {d : DataW H} {p : List MemPlace} (hval : Value.okWide Tryz.prog W .any base 22 v) (h : DataW.Trod enc Tryz.prog W 0 (fun _ => true) true 22 v d p) :
    ∃ (a : Option Addr) (cap : Nat) (bs : List UInt8), v = .slice a bs.length cap ∧ bs.length ≤ maxLen ∧ Byt W v bs := by
  obtain ⟨a1, len, cap, rfl⟩ := okWide_slice Tryz.underlying22 hval
  obtain ⟨fuel, hf⟩ := h
  rcases open_ints Tryz.underlying22 Tryz.underlying5 (by kernel_rfl) hf with ⟨hcs, _⟩ | ⟨a, len', cap', zs, hcs, _, hl, hm, hz, _, hcell, hwz⟩
  · simp [Value.cells] at hcs
    obtain ⟨rfl, rfl, rfl⟩ := hcs
    exact ⟨none, 0, [], rfl, Nat.zero_le _, .inl ⟨rfl, rfl⟩⟩
  · simp [Value.cells] at hcs
    obtain ⟨rfl, rfl, rfl⟩ := hcs
    simp only [if_true] at hz
    have hlen : ((zs.take len).map fun n => UInt8.ofNat n.toNat).length = len := by simp; omega
    refine ⟨some a, cap, (zs.take len).map fun n => UInt8.ofNat n.toNat, by rw [hlen], by rw [hlen]; omega, .inr ⟨a, cap, by rw [hlen], fun j x hx => ?_⟩⟩
    have hj : j < len := by rw [← hlen]; exact (List.getElem?_eq_some_iff.1 hx).1
    rw [hcell j (by omega)]
    have hb := range_u8 hwz j
    have e : zs.getD j 0 = zs[j]'(by omega) := by simp [List.getD, List.getElem?_eq_getElem (show j < zs.length by omega)]
    rw [List.getElem?_map, List.getElem?_take, if_pos hj, List.getElem?_eq_getElem (show j < zs.length by omega)] at hx
    simp only [Option.map_some, Option.some.injEq] at hx
    subst hx
    rw [List.getD_eq_getElem?_getD] at e
    rw [e] at hb
    rw [List.getD_eq_getElem?_getD, e]
    congr 2
    simp only [UInt8.toNat_ofNat']
    have : ((zs[j]'(by omega)).toNat : Int) = zs[j]'(by omega) := by omega
    show zs[j]'(by omega) = (((zs[j]'(by omega)).toNat % 2 ^ 8 : Nat) : Int)
    omega
end Go.Proofs.YtplmdlobbfcknaaGreatDoor
