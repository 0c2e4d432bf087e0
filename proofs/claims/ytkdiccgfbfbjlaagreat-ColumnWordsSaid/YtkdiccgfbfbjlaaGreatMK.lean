import Derived.Test.YtkdiccgfbfbjlaaGreatMeX1
import Derived.Test.YtkdiccgfbfbjlaaGreatChecked
import Derived.Test.YtkdiccgfbfbjlaaGreatWlkB
import Derived.KernelRfl
import Derived.Below
namespace Go.Proofs.YtkdiccgfbfbjlaaGreat
open Go Go.Me Go.RowKit
variable [Gam]
set_option linter.unusedSectionVars false
set_option maxRecDepth 100000
noncomputable def cfgM:Cfg:={P:=Tryz.prog,fn:=fun f=>Tryz.prog.funcs[f]?,ext:=fun f=>if f=147 then some (xRow 4096 (-1)) else if f=165 then some xCompare else none,gobj:=fun _=>none,meth:=fun t n=>if t=155 then(if n="Len" then some (230,none) else if n="Less" then some (231,none) else if n="Swap" then some (232,none) else none) else none,iter:=fun f=>if f=117 then some (nn 1) else if f=155 then some (nn 1) else none}
theorem mfollows:Tryz.prog.follows .mixedOrders=true:=by kernel_rfl
theorem mnames:(Tryz.prog.funcs.toList.all fun F=> !(F.name=="runtime.NumGoroutine"))=true:=by kernel_rfl
theorem mfn_ok:FnOk cfgM:=fun f F h=>⟨h,by
 have h:Tryz.prog.funcs[f]? =some F:=h;simpa using List.all_eq_true.1 mnames F (List.mem_of_getElem? (i:=f) (by simpa using h))⟩
theorem mmeth_ok:MethOk cfgM:=fun t n f r h=>by
 replace h:(if t=155 then(if n="Len" then some (230,none) else if n="Less" then some (231,none) else if n="Swap" then some (232,none) else none) else none)=some (f,r):=h
 have one:∀ {n:String} {f0:FuncId},(∀ v,ct Tryz.prog (method (Tryz.prog.types.size+Made.depth) 155 v n)=some (f0,v))→∀ (v:Value) (w:World),((none:Option Nat)=none→(method (cfgM.P.types.size+Made.depth) 155 v n).run cfgM.P w= .ok (f0,v) w)∧
     ∀ (i:Nat) (cs:Array Value) (u:Value),(none:Option Nat)=some i→v= .agg cs→cs[i]? =some u→(method (cfgM.P.types.size+Made.depth) 155 v n).run cfgM.P w= .ok (f0,u) w:=fun hq v w=>⟨fun _=>pureRun_run w (hq v),fun i cs u h=>by cases h⟩
 split at h
 · rename_i e
   subst e;split at h
   · rename_i e;subst e;cases h;exact one fun v=>by kernel_rfl
   · split at h
     · rename_i e;subst e;cases h;exact one fun v=>by kernel_rfl
     · split at h
       · rename_i e;subst e;cases h;exact one fun v=>by kernel_rfl
       · cases h
 · cases h
theorem miter_ok:IterOk cfgM:=fun f it h=>by
 replace h:(if f=117 then some (nn 1) else if f=155 then some (nn 1) else none)=some it:=h
 split at h
 · rename_i e;cases h;subst e;exact xl (C:=cfgM) aur au1
 · split at h
   · rename_i e;cases h;subst e;exact xl (C:=cfgM) auq au0
   · cases h
theorem mext_ok:ExtOk cfgM:=fun f g h=>by
 replace h:(if f=147 then some (xRow 4096 (-1)) else if f=165 then some xCompare else none)=some g:=h
 split at h
 · rename_i e;cases h;subst e;exact xRow_ok (C:=cfgM) enter147 afl
 · split at h
   · rename_i e;cases h;subst e;exact afb (C:=cfgM) aje
   · cases h
theorem a3b:a3e (evF cfgM 5000 8 [] ⟨0,.lf⟩)=true:=by kernel_rfl
theorem aip (w:World):Calls Tryz.prog 8 #[] w fun e w'=>e= .returned (.bool true)∧Below w.heap.size w w':=by
 obtain⟨c,hc⟩:∃ c,Tryz.f8.body=some c:=Option.isSome_iff_exists.1 (by kernel_rfl)
 exact ajg (C:=cfgM) mfollows mmeth_ok miter_ok mfn_ok mext_ok rfl Tryz.func8 (by kernel_rfl) hc a3b w
