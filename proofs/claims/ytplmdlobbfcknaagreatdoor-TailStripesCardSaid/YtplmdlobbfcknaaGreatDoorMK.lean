import Derived.Test.YtplmdlobbfcknaaGreatDoorMeX5
import Derived.Test.YtplmdlobbfcknaaGreatDoorMeX7
import Derived.Test.YtplmdlobbfcknaaGreatDoorMeX3
import Derived.Test.YtplmdlobbfcknaaGreatDoorMeX2
import Derived.Test.YtplmdlobbfcknaaGreatDoorWlk
import Derived.Test.YtplmdlobbfcknaaGreatDoorEnt
import Derived.KernelRfl
import Derived.Below
namespace Go.Proofs.YtplmdlobbfcknaaGreatDoor
open Go Go.Me Go.RowKit
variable [Gam]
set_option linter.unusedSectionVars false
set_option linter.unusedVariables false
set_option linter.unusedSimpArgs false
set_option maxRecDepth 100000
def gE (k:Nat):Option (List M):=if k=0 then some [.ifc 184 (.agg [.glob 7 52])] else none
def methE (t:TypeId) (n:String):Option (FuncId×Option Nat):=if t=184 then(if n="AssignableTo" then some (254,none) else(if n="Comparable" then some (255,none) else(if n="Elem" then some (256,none) else(if n="Implements" then some (257,none) else(if n="Kind" then some (245,some 0) else none))))) else if t=95 then(if n="Unwrap" then some (249,none) else none) else none
def iter0 (f:FuncId):Option (List M→Hp→Option (M×List (List M))):=if f=101 then some (xf 1) else if f=154 then some (xBack 5) else none
abbrev VO:=Nat→Option (List M)
def vo0:VO:=fun _=>none
noncomputable def cfgB (vo:VO):Cfg:={P:=Tryz.prog,fn:=fun f=>Tryz.prog.funcs[f]?,ext:=fun _=>none,gobj:=gE,meth:=methE,iter:=iter0,vobj:=vo}
noncomputable def ext0 (vo:VO) (f:FuncId):Option (List M→Hp→Option (M×Hp)):=if f=103 then some (xRow 4096 (-1)) else if f=51 then some (ae3 Tryz.prog) else if f=53 then some (vn Tryz.prog) else if f=54 then some (asc Tryz.prog) else if f=55 then some (ae2 (cfgB vo)) else if f=91 then some (ase (cfgB vo)) else if f=92 then some (xVSet (cfgB vo)) else none
noncomputable def cfg0 (vo:VO):Cfg:={cfgB vo with ext:=ext0 vo}
theorem api:Tryz.prog.follows .mixedOrders=true:=by kernel_rfl
theorem mnames:(Tryz.prog.funcs.toList.all fun F=> !(F.name=="runtime.NumGoroutine"))=true:=by kernel_rfl
theorem fn_ok (C:Cfg) (hC:C.fn=fun f=>Tryz.prog.funcs[f]?) (hP:C.P=Tryz.prog):FnOk C:=fun f F h=>by
 rw[hC] at h;rw[hP];refine⟨h,?_⟩;have h:Tryz.prog.funcs[f]? =some F:=h;simpa using List.all_eq_true.1 mnames F (List.mem_of_getElem? (i:=f) (by simpa using h))
theorem aph (C:Cfg) (hC:C.iter=iter0) (hP:C.P=Tryz.prog):IterOk C:=fun f it h=>by
 rw[hC] at h;unfold iter0 at h;split at h
 · rename_i e;cases h;subst e;exact ash (C:=C) (by rw[hP];exact enter101) (by rw[hP];exact chunk101)
 · split at h
   · rename_i e;cases h;subst e;exact xBack_ok (C:=C) (by rw[hP];exact enter154) (by rw[hP];exact back154)
   · cases h
theorem azt (vo:VO):ExtOk (cfg0 vo):=fun f g h=>by
 replace h:ext0 vo f=some g:=h
 unfold ext0 at h;split at h
 · rename_i e;cases h;subst e;exact ExtOne.cfg (C:=cfgB vo) (xRow_ok (C:=cfgB vo) enter103 afa) rfl rfl rfl
 · split at h
   · rename_i e;cases h;subst e;exact ExtOne.cfg (C:=cfgB vo) (aqf (nq Tryz.func51 (by kernel_rfl) (by kernel_rfl) (by kernel_rfl) (by kernel_rfl))) rfl rfl rfl
   · split at h
     · rename_i e;cases h;subst e;exact ExtOne.cfg (C:=cfgB vo) (ae1 (nq Tryz.func53 (by kernel_rfl) (by kernel_rfl) (by kernel_rfl) (by kernel_rfl))) rfl rfl rfl
     · split at h
       · rename_i e;cases h;subst e;exact ExtOne.cfg (C:=cfgB vo) (asb (zero:=Extern.ReflectliteValue.valueError "reflectlite.Value.Type" 0) (nq Tryz.func54 (by kernel_rfl) (by kernel_rfl) (by kernel_rfl) (by kernel_rfl))) rfl rfl rfl
       · split at h
         · rename_i e;cases h;subst e;exact ExtOne.cfg (C:=cfgB vo) (aqe (zero:=Extern.ReflectliteValue.valueError "reflectlite.Value.IsNil" 0) (nq Tryz.func55 (by kernel_rfl) (by kernel_rfl) (by kernel_rfl) (by kernel_rfl))) rfl rfl rfl
         · split at h
           · rename_i e;cases h;subst e;exact ExtOne.cfg (C:=cfgB vo) (asd (zero:=Extern.ReflectliteValue.valueError "reflectlite.Value.Elem" 0) (nq Tryz.func91 (by kernel_rfl) (by kernel_rfl) (by kernel_rfl) (by kernel_rfl))) rfl rfl rfl
           · split at h
             · rename_i e;cases h;subst e;exact ExtOne.cfg (C:=cfgB vo) (xVSet_ok (nq Tryz.func92 (by kernel_rfl) (by kernel_rfl) (by kernel_rfl) (by kernel_rfl))) rfl rfl rfl
             · cases h
theorem j5 (v:Value) (w:World):(method (Tryz.prog.types.size+Made.depth) 184 v "AssignableTo").run Tryz.prog w= .ok (254,v) w:=by kernel_rfl
theorem lv (v:Value) (w:World):(method (Tryz.prog.types.size+Made.depth) 184 v "Comparable").run Tryz.prog w= .ok (255,v) w:=by kernel_rfl
theorem wd (v:Value) (w:World):(method (Tryz.prog.types.size+Made.depth) 184 v "Elem").run Tryz.prog w= .ok (256,v) w:=by kernel_rfl
theorem lu (v:Value) (w:World):(method (Tryz.prog.types.size+Made.depth) 184 v "Implements").run Tryz.prog w= .ok (257,v) w:=by kernel_rfl
theorem sw (u:Value) (r:List Value) (w:World):(method (Tryz.prog.types.size+Made.depth) 184 (.agg ⟨u::r⟩) "Kind").run Tryz.prog w= .ok (245,u) w:=by kernel_rfl
theorem wc (cs:Array Value) (u:Value) (h:cs[0]? =some u) (w:World):(method (Tryz.prog.types.size+Made.depth) 184 (.agg cs) "Kind").run Tryz.prog w= .ok (245,u) w:=by
 obtain⟨l⟩:=cs
 match l,h with
 | [],h=>simp at h
 | x::r,h=>
  obtain rfl:x=u:=by simpa using h
  exact sw x r w
theorem su (v:Value) (w:World):(method (Tryz.prog.types.size+Made.depth) 95 v "Unwrap").run Tryz.prog w= .ok (249,v) w:=by kernel_rfl
theorem azu (C:Cfg) (hC:C.meth=methE) (hP:C.P=Tryz.prog):MethOk C:=by
 intro t n f r h v w;rw[hC] at h;rw[hP];unfold methE at h;split at h
 · rename_i et;subst et
   split at h
   · rename_i e;cases h;subst e;exact⟨fun _=>j5 v w,(fun i cs u e=>by cases e)⟩
   · split at h
     · rename_i e;cases h;subst e;exact⟨fun _=>lv v w,(fun i cs u e=>by cases e)⟩
     · split at h
       · rename_i e;cases h;subst e;exact⟨fun _=>wd v w,(fun i cs u e=>by cases e)⟩
       · split at h
         · rename_i e;cases h;subst e;exact⟨fun _=>lu v w,(fun i cs u e=>by cases e)⟩
         · split at h
           · rename_i e;cases h;subst e;exact⟨(fun e=>by cases e),fun i cs u e1 e2 e3=>by cases e1;subst e2;exact wc cs u e3 w⟩
           · cases h
 · split at h
   · rename_i et;subst et
     split at h
     · rename_i e;cases h;subst e;exact⟨fun _=>su v w,(fun i cs u e=>by cases e)⟩
     · cases h
   · cases h
theorem call0 (vo:VO) (k:Nat):ni (cfg0 vo) (evF (cfg0 vo) k):=a0x api (azu _ rfl rfl) (aph _ rfl rfl) (fn_ok _ rfl rfl) (azt vo) k
theorem ran_ent0:ranOk (cfg0 vo0) 5000 10 ent0=true:=by kernel_rfl
theorem ran_ent1:ranOk (cfg0 vo0) 5000 8 ent1=true:=by kernel_rfl
def xOr (g h:List M→Hp→Option (M×Hp)):List M→Hp→Option (M×Hp):=fun a H=>match g a H with
 |some r=>some r
 |none=>h a H
theorem xOr_ok {C:Cfg} {f:FuncId} {g h:List M→Hp→Option (M×Hp)} (hg:ExtOne C f g) (hh:ExtOne C f h):ExtOne C f (xOr g h):=fun args H x H' e=>by
 unfold xOr at e;split at e
 · rename_i r hr
   cases e;exact hg args H x H' hr
 · exact hh args H x H' e
theorem runOne (f:FuncId):ExtOne (cfg0 vo0) f (evF (cfg0 vo0) 5000 f):=fun args H x H' e=>call0 vo0 5000 f args H x H' e
noncomputable def ext1 (f:FuncId):Option (List M→Hp→Option (M×Hp)):=if f=10 then some (xMemo ent0) else if f=8 then some (xOr (xMemo ent1) (evF (cfg0 vo0) 5000 8)) else ext0 vo0 f
noncomputable def cfg1:Cfg:={cfg0 vo0 with ext:=ext1}
theorem mext1_ok:ExtOk cfg1:=fun f g h=>by
 replace h:ext1 f=some g:=h
 unfold ext1 at h;split at h
 · rename_i e;cases h;subst e;exact azv (C:=(cfg0 vo0)) (call0 vo0 5000) rfl rfl ran_ent0
 · split at h
   · rename_i e;cases h;subst e;exact xOr_ok (azv (C:=(cfg0 vo0)) (call0 vo0 5000) rfl rfl ran_ent1) (ExtOne.cfg (C:=(cfg0 vo0)) (runOne 8) rfl rfl rfl)
   · exact ExtOne.cfg (C:=(cfg0 vo0)) (azt vo0 f g h) rfl rfl rfl
theorem az8:uf (evF cfg1 5000 5 [] ⟨0,.lf⟩)=true:=by kernel_rfl
theorem ahp (w:World) (hL:Laid (cfg0 vo0) w):Calls Tryz.prog 5 #[] w fun e w'=>e= .returned (.bool true)∧Below w.heap.size w w':=by
 obtain⟨c,hc⟩:∃ c,Tryz.f5.body=some c:=Option.isSome_iff_exists.1 (by kernel_rfl)
 exact aid (C:=cfg1) api (azu _ rfl rfl) (aph _ rfl rfl) (fn_ok _ rfl rfl) mext1_ok Tryz.func5 (by kernel_rfl) hc az8 w hL
def fltM (s:List UInt8) (i:Nat):List M:=[.str s,.int .i64 (Int.ofNat i),.ifc 84 (.int .i64 2)]
def prtM (s:List UInt8) (i:Nat):List M:=[.str s,.int .i64 (Int.ofNat i),.int .i64 0]
def voT (s:List UInt8) (i:Nat):VO:=fun k=>if k=0 then some (fltM s i) else if k=1 then some (prtM s i) else none
noncomputable def cg (s:List UInt8) (i:Nat):Bool:=uf (evF (cfg0 (voT s i)) 300 9 [.ifc 95 (.vg 0 0),.vsl 1 0 1,.int .i64 2] ⟨0,.lf⟩)
