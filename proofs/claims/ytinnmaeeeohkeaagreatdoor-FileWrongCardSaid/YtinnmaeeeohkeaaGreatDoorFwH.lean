/- FileWrong: the evaluator at errors: what reflectlite tells, methods, the laid variable. Own work. -/
import Derived.Test.YtinnmaeeeohkeaaGreatDoorFwG
import Derived.Test.YtinnmaeeeohkeaaGreatDoorMeX2
namespace Go.Proofs.YtinnmaeeeohkeaaGreatDoor
open Go Go.RowKit Go.Me
set_option linter.unusedVariables false
set_option linter.unusedSimpArgs false
set_option maxRecDepth 100000

def gE (k : Nat) : Option (List M) := if k = 0 then some [.ifc 177 (.agg [.glob 5 34])] else none
def methE (t : TypeId) (n : String) : Option (FuncId × Option Nat) := if t = 177 then (if n = "AssignableTo" then some (371, none) else (if n = "Comparable" then some (372, none) else (if n = "Elem" then some (373, none) else (if n = "Implements" then some (374, none) else (if n = "Kind" then some (360, some 0) else none))))) else if t = 44 then (if n = "Unwrap" then some (365, none) else none) else none
noncomputable def cfgB : Cfg := { P := Tryz.prog, fn := fun f => Tryz.prog.funcs[f]?, ext := fun _ => none, gobj := gE, meth := methE, iter := fun _ => none }
noncomputable def extE (f : FuncId) : Option (List M → Hp → Option (M × Hp)) := if f = 27 then some (xTypeOf Tryz.prog) else if f = 29 then some (xValueOf Tryz.prog) else if f = 30 then some (xVType Tryz.prog) else if f = 31 then some (xVIsNil cfgB) else if f = 72 then some (xVElem cfgB) else if f = 73 then some (xVSet cfgB) else none
noncomputable def cfgE : Cfg := { cfgB with ext := extE }
theorem fn_okE : FnOk cfgE := fun f F h => fn_ok f F h
theorem iter_okE : IterOk cfgE := fun f it h => by cases h
theorem ext_okE : ExtOk cfgE := fun f g h => by
  replace h : extE f = some g := h
  unfold extE at h
  split at h
  · rename_i e; cases h; subst e; exact ExtOne.cfg (C := cfgB) (xTypeOf_ok (runs_of Tryz.func27 (by kernel_rfl) (by kernel_rfl) (by kernel_rfl) (by kernel_rfl))) rfl rfl
  · split at h
    · rename_i e; cases h; subst e; exact ExtOne.cfg (C := cfgB) (xValueOf_ok (runs_of Tryz.func29 (by kernel_rfl) (by kernel_rfl) (by kernel_rfl) (by kernel_rfl))) rfl rfl
    · split at h
      · rename_i e; cases h; subst e; exact ExtOne.cfg (C := cfgB) (xVType_ok (zero := Extern.ReflectliteValue.valueError "reflectlite.Value.Type" 0) (runs_of Tryz.func30 (by kernel_rfl) (by kernel_rfl) (by kernel_rfl) (by kernel_rfl))) rfl rfl
      · split at h
        · rename_i e; cases h; subst e; exact ExtOne.cfg (C := cfgB) (xVIsNil_ok (zero := Extern.ReflectliteValue.valueError "reflectlite.Value.IsNil" 0) (runs_of Tryz.func31 (by kernel_rfl) (by kernel_rfl) (by kernel_rfl) (by kernel_rfl))) rfl rfl
        · split at h
          · rename_i e; cases h; subst e; exact ExtOne.cfg (C := cfgB) (xVElem_ok (zero := Extern.ReflectliteValue.valueError "reflectlite.Value.Elem" 0) (runs_of Tryz.func72 (by kernel_rfl) (by kernel_rfl) (by kernel_rfl) (by kernel_rfl))) rfl rfl
          · split at h
            · rename_i e; cases h; subst e; exact ExtOne.cfg (C := cfgB) (xVSet_ok (runs_of Tryz.func73 (by kernel_rfl) (by kernel_rfl) (by kernel_rfl) (by kernel_rfl))) rfl rfl
            · cases h
theorem meth_177_AssignableTo (v : Value) (w : World) : (method (Tryz.prog.types.size + Made.depth) 177 v "AssignableTo").run Tryz.prog w = .ok (371, v) w := by kernel_rfl
theorem meth_177_Comparable (v : Value) (w : World) : (method (Tryz.prog.types.size + Made.depth) 177 v "Comparable").run Tryz.prog w = .ok (372, v) w := by kernel_rfl
theorem meth_177_Elem (v : Value) (w : World) : (method (Tryz.prog.types.size + Made.depth) 177 v "Elem").run Tryz.prog w = .ok (373, v) w := by kernel_rfl
theorem meth_177_Implements (v : Value) (w : World) : (method (Tryz.prog.types.size + Made.depth) 177 v "Implements").run Tryz.prog w = .ok (374, v) w := by kernel_rfl
theorem meth_177_Kind_ (u : Value) (r : List Value) (w : World) : (method (Tryz.prog.types.size + Made.depth) 177 (.agg ⟨u :: r⟩) "Kind").run Tryz.prog w = .ok (360, u) w := by kernel_rfl
theorem meth_177_Kind (cs : Array Value) (u : Value) (h : cs[0]? = some u) (w : World) : (method (Tryz.prog.types.size + Made.depth) 177 (.agg cs) "Kind").run Tryz.prog w = .ok (360, u) w := by
  obtain ⟨l⟩ := cs
  match l, h with
  | [], h => simp at h
  | x :: r, h =>
    obtain rfl : x = u := by simpa using h
    exact meth_177_Kind_ x r w
theorem meth_44_Unwrap (v : Value) (w : World) : (method (Tryz.prog.types.size + Made.depth) 44 v "Unwrap").run Tryz.prog w = .ok (365, v) w := by kernel_rfl
theorem meth_okE : MethOk cfgE := by
  intro t n f r h v w
  replace h : methE t n = some (f, r) := h
  unfold methE at h
  split at h
  · rename_i et; subst et
    split at h
    · rename_i e; cases h; subst e; exact ⟨fun _ => meth_177_AssignableTo v w, (fun i cs u e => by cases e)⟩
    · split at h
      · rename_i e; cases h; subst e; exact ⟨fun _ => meth_177_Comparable v w, (fun i cs u e => by cases e)⟩
      · split at h
        · rename_i e; cases h; subst e; exact ⟨fun _ => meth_177_Elem v w, (fun i cs u e => by cases e)⟩
        · split at h
          · rename_i e; cases h; subst e; exact ⟨fun _ => meth_177_Implements v w, (fun i cs u e => by cases e)⟩
          · split at h
            · rename_i e; cases h; subst e; exact ⟨(fun e => by cases e), fun i cs u e1 e2 e3 => by cases e1; subst e2; exact meth_177_Kind cs u e3 w⟩
            · cases h
  · split at h
    · rename_i et; subst et
      split at h
      · rename_i e; cases h; subst e; exact ⟨fun _ => meth_44_Unwrap v w, (fun i cs u e => by cases e)⟩
      · cases h
    · cases h
theorem callE (k : Nat) : CallOk cfgE (evF cfgE k) := evF_ok follows meth_okE iter_okE fn_okE ext_okE k
end Go.Proofs.YtinnmaeeeohkeaaGreatDoor
