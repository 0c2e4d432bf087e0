/- The chapter's own example: closed runs; errors besides. Own work. -/
import Derived.Test.YtplmdlobbfcknaaGreatDoorMeX8
import Derived.Test.YtplmdlobbfcknaaGreatDoorMeX7
import Derived.Test.YtplmdlobbfcknaaGreatDoorMeX3
import Derived.Test.YtplmdlobbfcknaaGreatDoorMeX2
import Derived.Test.YtplmdlobbfcknaaGreatDoorWlk
import Derived.Test.YtplmdlobbfcknaaGreatDoorEnt
import Derived.KernelRfl
import Derived.Below
namespace Go.Proofs.YtplmdlobbfcknaaGreatDoor
open Go Go.Me Go.RowKit
set_option linter.unusedVariables false
set_option linter.unusedSimpArgs false
set_option maxRecDepth 100000

def gE (k : Nat) : Option (List M) := if k = 0 then some [.ifc 184 (.agg [.glob 7 52])] else none
def methE (t : TypeId) (n : String) : Option (FuncId × Option Nat) := if t = 184 then (if n = "AssignableTo" then some (254, none) else (if n = "Comparable" then some (255, none) else (if n = "Elem" then some (256, none) else (if n = "Implements" then some (257, none) else (if n = "Kind" then some (245, some 0) else none))))) else if t = 95 then (if n = "Unwrap" then some (249, none) else none) else none
def iter0 (f : FuncId) : Option (List M → Hp → Option (M × List (List M))) := if f = 101 then some (xChunk 1) else if f = 154 then some (xBack 5) else none
noncomputable def cfgB : Cfg := { P := Tryz.prog, fn := fun f => Tryz.prog.funcs[f]?, ext := fun _ => none, gobj := gE, meth := methE, iter := iter0 }
noncomputable def ext0 (f : FuncId) : Option (List M → Hp → Option (M × Hp)) := if f = 103 then some (xRow 4096 (-1)) else if f = 51 then some (xTypeOf Tryz.prog) else if f = 53 then some (xValueOf Tryz.prog) else if f = 54 then some (xVType Tryz.prog) else if f = 55 then some (xVIsNil cfgB) else if f = 91 then some (xVElem cfgB) else if f = 92 then some (xVSet cfgB) else none
noncomputable def cfg0 : Cfg := { cfgB with ext := ext0 }
theorem follows : Tryz.prog.follows .mixedOrders = true := by kernel_rfl
theorem names : (Tryz.prog.funcs.toList.all fun F => !(F.name == "runtime.NumGoroutine")) = true := by kernel_rfl
theorem fn_ok (C : Cfg) (hC : C.fn = fun f => Tryz.prog.funcs[f]?) (hP : C.P = Tryz.prog) : FnOk C := fun f F h => by
  rw [hC] at h
  rw [hP]
  refine ⟨h, ?_⟩
  have h : Tryz.prog.funcs[f]? = some F := h
  simpa using List.all_eq_true.1 names F (List.mem_of_getElem? (i := f) (by simpa using h))
theorem iter_ok (C : Cfg) (hC : C.iter = iter0) (hP : C.P = Tryz.prog) : IterOk C := fun f it h => by
  rw [hC] at h
  unfold iter0 at h
  split at h
  · rename_i e; cases h; subst e; exact xChunk_ok (C := C) (by rw [hP]; exact enter101) (by rw [hP]; exact chunk101)
  · split at h
    · rename_i e; cases h; subst e; exact xBack_ok (C := C) (by rw [hP]; exact enter154) (by rw [hP]; exact back154)
    · cases h
theorem ext_ok : ExtOk cfg0 := fun f g h => by
  replace h : ext0 f = some g := h
  unfold ext0 at h
  split at h
  · rename_i e; cases h; subst e; exact ExtOne.cfg (C := cfgB) (xRow_ok (C := cfgB) enter103 table_calls) rfl rfl
  · split at h
    · rename_i e; cases h; subst e; exact ExtOne.cfg (C := cfgB) (xTypeOf_ok (runs_of Tryz.func51 (by kernel_rfl) (by kernel_rfl) (by kernel_rfl) (by kernel_rfl))) rfl rfl
    · split at h
      · rename_i e; cases h; subst e; exact ExtOne.cfg (C := cfgB) (xValueOf_ok (runs_of Tryz.func53 (by kernel_rfl) (by kernel_rfl) (by kernel_rfl) (by kernel_rfl))) rfl rfl
      · split at h
        · rename_i e; cases h; subst e; exact ExtOne.cfg (C := cfgB) (xVType_ok (zero := Extern.ReflectliteValue.valueError "reflectlite.Value.Type" 0) (runs_of Tryz.func54 (by kernel_rfl) (by kernel_rfl) (by kernel_rfl) (by kernel_rfl))) rfl rfl
        · split at h
          · rename_i e; cases h; subst e; exact ExtOne.cfg (C := cfgB) (xVIsNil_ok (zero := Extern.ReflectliteValue.valueError "reflectlite.Value.IsNil" 0) (runs_of Tryz.func55 (by kernel_rfl) (by kernel_rfl) (by kernel_rfl) (by kernel_rfl))) rfl rfl
          · split at h
            · rename_i e; cases h; subst e; exact ExtOne.cfg (C := cfgB) (xVElem_ok (zero := Extern.ReflectliteValue.valueError "reflectlite.Value.Elem" 0) (runs_of Tryz.func91 (by kernel_rfl) (by kernel_rfl) (by kernel_rfl) (by kernel_rfl))) rfl rfl
            · split at h
              · rename_i e; cases h; subst e; exact ExtOne.cfg (C := cfgB) (xVSet_ok (runs_of Tryz.func92 (by kernel_rfl) (by kernel_rfl) (by kernel_rfl) (by kernel_rfl))) rfl rfl
              · cases h
theorem meth_184_AssignableTo (v : Value) (w : World) : (method (Tryz.prog.types.size + Made.depth) 184 v "AssignableTo").run Tryz.prog w = .ok (254, v) w := by kernel_rfl
theorem meth_184_Comparable (v : Value) (w : World) : (method (Tryz.prog.types.size + Made.depth) 184 v "Comparable").run Tryz.prog w = .ok (255, v) w := by kernel_rfl
theorem meth_184_Elem (v : Value) (w : World) : (method (Tryz.prog.types.size + Made.depth) 184 v "Elem").run Tryz.prog w = .ok (256, v) w := by kernel_rfl
theorem meth_184_Implements (v : Value) (w : World) : (method (Tryz.prog.types.size + Made.depth) 184 v "Implements").run Tryz.prog w = .ok (257, v) w := by kernel_rfl
theorem meth_184_Kind_ (u : Value) (r : List Value) (w : World) : (method (Tryz.prog.types.size + Made.depth) 184 (.agg ⟨u :: r⟩) "Kind").run Tryz.prog w = .ok (245, u) w := by kernel_rfl
theorem meth_184_Kind (cs : Array Value) (u : Value) (h : cs[0]? = some u) (w : World) : (method (Tryz.prog.types.size + Made.depth) 184 (.agg cs) "Kind").run Tryz.prog w = .ok (245, u) w := by
  obtain ⟨l⟩ := cs
  match l, h with
  | [], h => simp at h
  | x :: r, h =>
    obtain rfl : x = u := by simpa using h
    exact meth_184_Kind_ x r w
theorem meth_95_Unwrap (v : Value) (w : World) : (method (Tryz.prog.types.size + Made.depth) 95 v "Unwrap").run Tryz.prog w = .ok (249, v) w := by kernel_rfl
theorem meth_ok (C : Cfg) (hC : C.meth = methE) (hP : C.P = Tryz.prog) : MethOk C := by
  intro t n f r h v w
  rw [hC] at h
  rw [hP]
  unfold methE at h
  split at h
  · rename_i et; subst et
    split at h
    · rename_i e; cases h; subst e; exact ⟨fun _ => meth_184_AssignableTo v w, (fun i cs u e => by cases e)⟩
    · split at h
      · rename_i e; cases h; subst e; exact ⟨fun _ => meth_184_Comparable v w, (fun i cs u e => by cases e)⟩
      · split at h
        · rename_i e; cases h; subst e; exact ⟨fun _ => meth_184_Elem v w, (fun i cs u e => by cases e)⟩
        · split at h
          · rename_i e; cases h; subst e; exact ⟨fun _ => meth_184_Implements v w, (fun i cs u e => by cases e)⟩
          · split at h
            · rename_i e; cases h; subst e; exact ⟨(fun e => by cases e), fun i cs u e1 e2 e3 => by cases e1; subst e2; exact meth_184_Kind cs u e3 w⟩
            · cases h
  · split at h
    · rename_i et; subst et
      split at h
      · rename_i e; cases h; subst e; exact ⟨fun _ => meth_95_Unwrap v w, (fun i cs u e => by cases e)⟩
      · cases h
    · cases h
theorem call0 (k : Nat) : CallOk cfg0 (evF cfg0 k) := evF_ok follows (meth_ok _ rfl rfl) (iter_ok _ rfl rfl) (fn_ok _ rfl rfl) ext_ok k
theorem ran_ent0 : ranOk cfg0 5000 10 ent0 = true := by kernel_rfl
theorem ran_ent1 : ranOk cfg0 5000 8 ent1 = true := by kernel_rfl
def xOr (g h : List M → Hp → Option (M × Hp)) : List M → Hp → Option (M × Hp) := fun a H => match g a H with
  | some r => some r
  | none => h a H
theorem xOr_ok {C : Cfg} {f : FuncId} {g h : List M → Hp → Option (M × Hp)} (hg : ExtOne C f g) (hh : ExtOne C f h) : ExtOne C f (xOr g h) := fun args H x H' e => by
  unfold xOr at e
  split at e
  · rename_i r hr
    cases e
    exact hg args H x H' hr
  · exact hh args H x H' e
theorem runOne (f : FuncId) : ExtOne cfg0 f (evF cfg0 5000 f) := fun args H x H' e => call0 5000 f args H x H' e
noncomputable def ext1 (f : FuncId) : Option (List M → Hp → Option (M × Hp)) := if f = 10 then some (xMemo ent0) else if f = 8 then some (xOr (xMemo ent1) (evF cfg0 5000 8)) else ext0 f
noncomputable def cfg1 : Cfg := { cfg0 with ext := ext1 }
theorem ext1_ok : ExtOk cfg1 := fun f g h => by
  replace h : ext1 f = some g := h
  unfold ext1 at h
  split at h
  · rename_i e; cases h; subst e; exact memo_ok (C := cfg0) (call0 5000) rfl rfl ran_ent0
  · split at h
    · rename_i e; cases h; subst e; exact xOr_ok (memo_ok (C := cfg0) (call0 5000) rfl rfl ran_ent1) (ExtOne.cfg (C := cfg0) (runOne 8) rfl rfl)
    · exact ExtOne.cfg (C := cfg0) (ext_ok f g h) rfl rfl
theorem known_run : isTrue (evF cfg1 5000 5 [] ⟨0, .lf⟩) = true := by kernel_rfl
theorem known_calls (w : World) (hL : Laid cfg0 w) : Calls Tryz.prog 5 #[] w fun e w' => e = .returned (.bool true) ∧ Below w.heap.size w w' := by
  obtain ⟨c, hc⟩ : ∃ c, Tryz.f5.body = some c := Option.isSome_iff_exists.1 (by kernel_rfl)
  exact closed_laid (C := cfg1) follows (meth_ok _ rfl rfl) (iter_ok _ rfl rfl) (fn_ok _ rfl rfl) ext1_ok Tryz.func5 (by kernel_rfl) hc known_run w hL
end Go.Proofs.YtplmdlobbfcknaaGreatDoor
