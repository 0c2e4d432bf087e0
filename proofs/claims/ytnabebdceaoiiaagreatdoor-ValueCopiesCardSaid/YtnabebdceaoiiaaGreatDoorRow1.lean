/- What the rows' premise on package-level variables gives; the witness. -/
import Derived.Test.YtnabebdceaoiiaaGreatDoorRows
import Derived.Test.YtnabebdceaoiiaaGreatDoorExt
import Derived.Test.YtnabebdceaoiiaaGreatDoorL7
import Derived.Test.YtnabebdceaoiiaaGreatDoorL9
import Derived.WalkKit
import Derived.ProofKit
import Derived.OpenShut
import Derived.ShutString
import Derived.ChangeOld
import Derived.Below
import Derived.LaidMore
import Derived.Stop.Joined
import Derived.Lib.LaidTab
namespace Go.Proofs.YtnabebdceaoiiaaGreatDoor
open Go Go.Ev Go.ChangeShapes Go.WideShapes Go.ChangeAt Go.RowKit

theorem own : ownKnob Tryz.prog.godebug = none := by kernel_rfl
theorem aom : laidOutB Tryz.prog = true := by kernel_rfl

abbrev laids : List (String × DataW Unit) := Rows.valueCopiesRow.laid

theorem pow_data : (Rows.laid_internal_strconv_uint64pow10 : DataW Unit) = Lib.tabData .u64 Lib.pow10Tab := by kernel_rfl

theorem aol {P : Program} {w : World} {n : String} {d : DataW Unit} : ∀ {l : List (String × DataW Unit)} {ps : List MemPlace}, DataW.LaidVars P w l ps → (n, d) ∈ l →
    ∃ g t cs fuel p, P.globalNamed n = some g ∧ (P.globals[g]?).map (·.type) = some t ∧ w.var? P n = some cs ∧ DataW.trod (fun _ => ()) P w 0 (fun _ => true) false fuel t cs.toList = some (d, p)
  | [], _, _, h => by cases h
  | (n', d') :: r, ps, hl, h => by
    obtain ⟨g, t, cs, fuel, p, q, h1, h2, h3, h4, h5, _⟩ := hl
    rcases List.mem_cons.1 h with e | h
    · cases e
      exact ⟨g, t, cs, fuel, p, h1, h2, h3, h4⟩
    · exact aol h5 h

theorem gobj_of {W : World} (h : laidMetH Tryz.prog laids W) : ∀ n ob, cfg.gobj n = some ob → HoldsG W n ob := by
  obtain ⟨ps, hl, _⟩ : laidMet Tryz.prog laids W := h
  obtain ⟨g, t, cs, fuel, p, h1, h2, h3, h4⟩ := aol (n := "internal/strconv.uint64pow10") (d := Rows.laid_internal_strconv_uint64pow10) hl (List.Mem.tail _ (List.Mem.tail _ (List.Mem.head _)))
  have hn : Tryz.prog.globalNamed "internal/strconv.uint64pow10" = some 1 := by kernel_rfl
  obtain rfl := Option.some.inj (hn.symm.trans h1)
  have hty : (Tryz.prog.globals[1]?).map (·.type) = some 144 := by kernel_rfl
  obtain rfl := Option.some.inj (hty.symm.trans h2)
  rw [pow_data] at h4
  have hc := Lib.cells_of_tab Tryz.underlying144 Tryz.underlying114 (by kernel_rfl) (by kernel_rfl) h4
  intro n ob hob
  have hob' : gobjs n = some ob := hob
  unfold gobjs at hob'
  split at hob'
  · rename_i e
    subst e
    cases hob'
    unfold World.var? at h3
    rw [hn] at h3
    simp only [Option.bind_some] at h3
    split at h3
    · rename_i cs' t' fr hh
      cases h3
      refine ⟨t', fr, ?_⟩
      rw [hh]
      have : cs = pow10 := by
        apply Array.ext'
        rw [hc]
        rfl
      rw [this]
    · cases h3
  · cases hob'


/-- A world that meets the condition: what the door's run leaves, and the pinned table. -/
def cellOf : DataW Unit → Value
  | .lit (.int k n) => .int k n
  | _ => .bool false
def cellsOf' : DataW Unit → List Value
  | .agg l => l.map cellOf
  | _ => []
def firstCells : Array Value := (cellsOf' Go.Pinned.utf8First).toArray
noncomputable def wu (os : Os) : World :=
  let w0 := World.doorLaid Tryz.prog 2000 os
  { w0 with heap := w0.heap.modify 4 fun
      | .cells _ t frozen => .cells firstCells t frozen
      | o => o }
theorem door_met (os : Os) (args : Array Value) : laidMetH Tryz.prog laids ((wu os).forCall (fun _ _ => 0) ⟨#[], args, []⟩).memory :=
  laidMetH_of_parts3 (fuel := 8) (laidMet_of_run' 8 (by kernel_rfl) (by kernel_rfl)) (by kernel_rfl) (by kernel_rfl)

end Go.Proofs.YtnabebdceaoiiaaGreatDoor
