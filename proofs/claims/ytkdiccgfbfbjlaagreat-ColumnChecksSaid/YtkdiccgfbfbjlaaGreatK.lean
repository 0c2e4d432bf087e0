/- The chapter's own example: a closed run. Own work. -/
import Derived.Test.YtkdiccgfbfbjlaaGreatMeX1
import Derived.Test.YtkdiccgfbfbjlaaGreatChecked
import Derived.Test.YtkdiccgfbfbjlaaGreatWlkB
import Derived.KernelRfl
import Derived.Below
namespace Go.Proofs.YtkdiccgfbfbjlaaGreat
open Go Go.Me Go.RowKit
set_option maxRecDepth 100000
noncomputable def cfg : Cfg := { P := Tryz.prog, fn := fun f => Tryz.prog.funcs[f]?, ext := fun f => if f = 147 then some (xRow 4096 (-1)) else if f = 165 then some xCompare else none, gobj := fun _ => none, meth := fun t n => if t = 155 then (if n = "Len" then some (230, none) else if n = "Less" then some (231, none) else if n = "Swap" then some (232, none) else none) else none, iter := fun f => if f = 117 then some (xChunk 1) else if f = 155 then some (xChunk 1) else none }
theorem follows : Tryz.prog.follows .mixedOrders = true := by kernel_rfl
theorem names : (Tryz.prog.funcs.toList.all fun F => !(F.name == "runtime.NumGoroutine")) = true := by kernel_rfl
theorem fn_ok : FnOk cfg := fun f F h => ⟨h, by
  have h : Tryz.prog.funcs[f]? = some F := h
  simpa using List.all_eq_true.1 names F (List.mem_of_getElem? (i := f) (by simpa using h))⟩
theorem meth_ok : MethOk cfg := fun t n f r h => by
  replace h : (if t = 155 then (if n = "Len" then some (230, none) else if n = "Less" then some (231, none) else if n = "Swap" then some (232, none) else none) else none) = some (f, r) := h
  have one : ∀ {n : String} {f0 : FuncId}, (∀ v, pureRun Tryz.prog (method (Tryz.prog.types.size + Made.depth) 155 v n) = some (f0, v)) → ∀ (v : Value) (w : World), ((none : Option Nat) = none → (method (cfg.P.types.size + Made.depth) 155 v n).run cfg.P w = .ok (f0, v) w) ∧
      ∀ (i : Nat) (cs : Array Value) (u : Value), (none : Option Nat) = some i → v = .agg cs → cs[i]? = some u → (method (cfg.P.types.size + Made.depth) 155 v n).run cfg.P w = .ok (f0, u) w := fun hq v w => ⟨fun _ => pureRun_run w (hq v), fun i cs u h => by cases h⟩
  split at h
  · rename_i e
    subst e
    split at h
    · rename_i e; subst e; cases h; exact one fun v => by kernel_rfl
    · split at h
      · rename_i e; subst e; cases h; exact one fun v => by kernel_rfl
      · split at h
        · rename_i e; subst e; cases h; exact one fun v => by kernel_rfl
        · cases h
  · cases h
theorem iter_ok : IterOk cfg := fun f it h => by
  replace h : (if f = 117 then some (xChunk 1) else if f = 155 then some (xChunk 1) else none) = some it := h
  split at h
  · rename_i e; cases h; subst e; exact xChunk_ok (C := cfg) enter117 chunk117
  · split at h
    · rename_i e; cases h; subst e; exact xChunk_ok (C := cfg) enter155 chunk155
    · cases h
theorem ext_ok : ExtOk cfg := fun f g h => by
  replace h : (if f = 147 then some (xRow 4096 (-1)) else if f = 165 then some xCompare else none) = some g := h
  split at h
  · rename_i e; cases h; subst e; exact xRow_ok (C := cfg) enter147 table_calls
  · split at h
    · rename_i e; cases h; subst e; exact xCompare_ok (C := cfg) compare_run
    · cases h
theorem known_run : isTrue (evF cfg 5000 8 [] ⟨0, .lf⟩) = true := by kernel_rfl
theorem known_calls (w : World) : Calls Tryz.prog 8 #[] w fun e w' => e = .returned (.bool true) ∧ Below w.heap.size w w' := by
  obtain ⟨c, hc⟩ : ∃ c, Tryz.f8.body = some c := Option.isSome_iff_exists.1 (by kernel_rfl)
  exact closed_true (C := cfg) follows meth_ok iter_ok fn_ok ext_ok rfl Tryz.func8 (by kernel_rfl) hc known_run w
end Go.Proofs.YtkdiccgfbfbjlaaGreat
