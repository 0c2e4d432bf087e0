/- The chapter's own example: closed runs. Own work. -/
import Derived.Test.YtinnmaeeeohkeaaGreatDoorMeX3

import Derived.Test.YtinnmaeeeohkeaaGreatDoorWlk
import Derived.Test.YtinnmaeeeohkeaaGreatDoorEnt
import Derived.KernelRfl
import Derived.Below
namespace Go.Proofs.YtinnmaeeeohkeaaGreatDoor
open Go Go.Me Go.RowKit
set_option maxRecDepth 100000
def ext0 (f : FuncId) : Option (List M → Hp → Option (M × Hp)) := if f = 187 then some (xRow 4096 (-1)) else if f = 242 then some (xCompare) else none
def iter0 (f : FuncId) : Option (List M → Hp → Option (M × List (List M))) := if f = 172 then some (xChunk 5) else if f = 185 then some (xChunk 1) else if f = 273 then some (xChunk 1) else none
noncomputable def cfg0 : Cfg := { P := Tryz.prog, fn := fun f => Tryz.prog.funcs[f]?, ext := ext0, gobj := fun _ => none, meth := fun _ _ => none, iter := iter0 }
theorem follows : Tryz.prog.follows .mixedOrders = true := by kernel_rfl
theorem names : (Tryz.prog.funcs.toList.all fun F => !(F.name == "runtime.NumGoroutine")) = true := by kernel_rfl
theorem fn_ok : FnOk cfg0 := fun f F h => ⟨h, by
  have h : Tryz.prog.funcs[f]? = some F := h
  simpa using List.all_eq_true.1 names F (List.mem_of_getElem? (i := f) (by simpa using h))⟩
theorem meth_ok : MethOk cfg0 := fun t n f r h => by cases h
theorem iter_ok : IterOk cfg0 := fun f it h => by
  replace h : iter0 f = some it := h
  unfold iter0 at h
  split at h
  · rename_i e; cases h; subst e; exact xChunk_ok (C := cfg0) enter172 chunk172
  · split at h
    · rename_i e; cases h; subst e; exact xChunk_ok (C := cfg0) enter185 chunk185
    · split at h
      · rename_i e; cases h; subst e; exact xChunk_ok (C := cfg0) enter273 chunk273
      · cases h
theorem ext_ok : ExtOk cfg0 := fun f g h => by
  replace h : ext0 f = some g := h
  unfold ext0 at h
  split at h
  · rename_i e; cases h; subst e; exact xRow_ok (C := cfg0) enter187 table_calls
  · split at h
    · rename_i e; cases h; subst e; exact xCompare_ok (C := cfg0) compare_run
    · cases h
theorem call0 (k : Nat) : CallOk cfg0 (evF cfg0 k) := evF_ok follows meth_ok iter_ok fn_ok ext_ok k
theorem ranI : ranOk cfg0 5000 55 entI = true := by kernel_rfl
theorem ranS : ranOk cfg0 5000 58 entS = true := by kernel_rfl
theorem ranC : ranOk cfg0 5000 56 entC = true := by kernel_rfl
theorem ranE : ranOk cfg0 5000 59 entE = true := by kernel_rfl
/-- one answer, or else another -/
def xOr (g h : List M → Hp → Option (M × Hp)) : List M → Hp → Option (M × Hp) := fun a H => match g a H with
  | some r => some r
  | none => h a H
theorem xOr_ok {C : Cfg} {f : FuncId} {g h : List M → Hp → Option (M × Hp)} (hg : ExtOne C f g) (hh : ExtOne C f h) : ExtOne C f (xOr g h) := fun args H x H' e => by
  unfold xOr at e
  split at e
  · rename_i r hr
    cases e
    exact hg args H x H' hr
  · exact hh args H x H' e
noncomputable def extA (f : FuncId) : Option (List M → Hp → Option (M × Hp)) := if f = 55 then some (xMemo entI) else if f = 58 then some (xMemo entS) else if f = 56 then some (xOr (xMemo entC) (evF cfg0 5000 56)) else if f = 59 then some (xOr (xMemo entE) (evF cfg0 5000 59)) else ext0 f
noncomputable def cfgA : Cfg := { cfg0 with ext := extA }
theorem runOne (f : FuncId) : ExtOne cfg0 f (evF cfg0 5000 f) := fun args H x H' e => call0 5000 f args H x H' e
theorem iterA_ok : IterOk cfgA := fun f it h => by
  replace h : iter0 f = some it := h
  unfold iter0 at h
  split at h
  · rename_i e; cases h; subst e; exact xChunk_ok (C := cfgA) enter172 chunk172
  · split at h
    · rename_i e; cases h; subst e; exact xChunk_ok (C := cfgA) enter185 chunk185
    · split at h
      · rename_i e; cases h; subst e; exact xChunk_ok (C := cfgA) enter273 chunk273
      · cases h
theorem extA_ok : ExtOk cfgA := fun f g h => by
  replace h : extA f = some g := h
  unfold extA at h
  split at h
  · rename_i e; cases h; subst e; exact memo_ok (C := cfg0) (call0 5000) rfl rfl ranI
  · split at h
    · rename_i e; cases h; subst e; exact memo_ok (C := cfg0) (call0 5000) rfl rfl ranS
    · split at h
      · rename_i e; cases h; subst e; exact xOr_ok (memo_ok (C := cfg0) (call0 5000) rfl rfl ranC) (ExtOne.cfg (C := cfg0) (runOne 56) rfl rfl)
      · split at h
        · rename_i e; cases h; subst e; exact xOr_ok (memo_ok (C := cfg0) (call0 5000) rfl rfl ranE) (ExtOne.cfg (C := cfg0) (runOne 59) rfl rfl)
        · exact ExtOne.cfg (C := cfg0) (ext_ok f g h) rfl rfl
theorem methA_ok : MethOk cfgA := fun t n f r h => by cases h
theorem callA (k : Nat) : CallOk cfgA (evF cfgA k) := evF_ok follows methA_ok iterA_ok fn_ok extA_ok k
theorem ran0 : ranOk cfgA 5000 20 ent0 = true := by kernel_rfl
theorem ran1 : ranOk cfg0 5000 23 ent1 = true := by kernel_rfl
theorem ran2 : ranOk cfg0 5000 12 ent2 = true := by kernel_rfl
theorem ran3 : ranOk cfg0 5000 13 ent3 = true := by kernel_rfl
def ext1 (f : FuncId) : Option (List M → Hp → Option (M × Hp)) := if f = 20 then some (xMemo ent0) else if f = 23 then some (xMemo ent1) else if f = 12 then some (xMemo ent2) else if f = 13 then some (xMemo ent3) else ext0 f
noncomputable def cfg1 : Cfg := { cfg0 with ext := ext1 }
theorem iter1_ok : IterOk cfg1 := fun f it h => by
  replace h : iter0 f = some it := h
  unfold iter0 at h
  split at h
  · rename_i e; cases h; subst e; exact xChunk_ok (C := cfg1) enter172 chunk172
  · split at h
    · rename_i e; cases h; subst e; exact xChunk_ok (C := cfg1) enter185 chunk185
    · split at h
      · rename_i e; cases h; subst e; exact xChunk_ok (C := cfg1) enter273 chunk273
      · cases h
theorem ext1_ok : ExtOk cfg1 := fun f g h => by
  replace h : ext1 f = some g := h
  unfold ext1 at h
  split at h
  · rename_i e; cases h; subst e; exact memo_ok (C := cfgA) (callA 5000) rfl rfl ran0
  · split at h
    · rename_i e; cases h; subst e; exact memo_ok (C := cfg0) (call0 5000) rfl rfl ran1
    · split at h
      · rename_i e; cases h; subst e; exact memo_ok (C := cfg0) (call0 5000) rfl rfl ran2
      · split at h
        · rename_i e; cases h; subst e; exact memo_ok (C := cfg0) (call0 5000) rfl rfl ran3
        · exact ExtOne.cfg (C := cfg0) (ext_ok f g h) rfl rfl
theorem known_run : isTrue (evF cfg1 5000 4 [] ⟨0, .lf⟩) = true := by kernel_rfl
theorem known_calls (w : World) : Calls Tryz.prog 4 #[] w fun e w' => e = .returned (.bool true) ∧ Below w.heap.size w w' := by
  obtain ⟨c, hc⟩ : ∃ c, Tryz.f4.body = some c := Option.isSome_iff_exists.1 (by kernel_rfl)
  exact closed_true (C := cfg1) follows meth_ok iter1_ok fn_ok ext1_ok rfl Tryz.func4 (by kernel_rfl) hc known_run w
end Go.Proofs.YtinnmaeeeohkeaaGreatDoor
