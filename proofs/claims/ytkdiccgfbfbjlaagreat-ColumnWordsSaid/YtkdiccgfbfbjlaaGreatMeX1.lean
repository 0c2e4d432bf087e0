import Derived.Test.YtkdiccgfbfbjlaaGreatMeW
import Derived.Below
import GoSem.Extern.BytealgCompare
namespace Go.Me
open Go Go.RowKit
variable [Gam]
set_option linter.unusedSectionVars false
set_option linter.unusedSimpArgs false
set_option linter.unusedVariables false
theorem run_enter {P:Program} {f:FuncId} {fn:Func} {c:Code} (hf:P.funcs[f]? =some fn) (hname:(fn.name=="runtime.NumGoroutine")=false) (hb:fn.body=some c) (args:Array Value) (w:World):
  (callFunc f args).run P w= .ok (.enter f args) w:=by
 have h1:fn.name≠"runtime.NumGoroutine":= by simpa using hname
 simp[callFunc,hf,h1,hb]
def resRun (tmps:Array Value):ResultVar→Sem Value
 | .tmp t=>pure (tmps.getD t undef)
 | .cell a t=>do loadVar t (← asAddr (tmps.getD a undef))
def tupled:List Value→Value
 | [v]=>v
 |vs=> .tuple vs.toArray
theorem run_results {P:Program} {w:World} {fn:Func} {tmps:Array Value} {vs:List Value} (h:(fn.results.toList.mapM (resRun tmps)).run P w= .ok vs w):(results fn tmps).run P w= .ok (tupled vs) w:=by
 have e:∀ g:ResultVar→Sem Value,(∀ r,g r=resRun tmps r)→(fn.results.mapM g).run P w= .ok vs.toArray w:=fun g hg=>by
  have:g=resRun tmps:=funext hg;subst this;rw[Array.mapM_eq_mapM_toList,map_eq_pure_bind];simp only[Sem.run_bind,h,Result.andThen_ok,Sem.run_pure]
 unfold results;rw[Sem.run_bind,e _ (fun r=>by cases r<;>rfl),Result.andThen_ok]
 match vs with
 | []=>rfl
 | [v]=>rfl
 |_::_::_=>simp[tupled]
section
variable {C:Cfg} {base:Nat} {ν:Nm} {w:World} {H:Hp} {s:Tr M} {a:Act}
theorem resM1_ok (R:WR C base ν H.get H.n w) (S:SR ν s a) {r:ResultVar} {x:M} (h:resM1 C H s r=some x):∃ v,(resRun a.tmps r).run C.P w= .ok v w∧VR ν x v:=by
 unfold resM1 at h;split at h
 · rename_i t
   exact⟨_,rfl,S t x h⟩
 · rename_i p t
   split at h
   · rename_i y hy
     obtain⟨v,h1,h2⟩:=yf R (fun b o h _=>h) (S p y hy) h
     refine⟨v,?_,h2⟩;have e:∀ u:Value,(Instr.loadAt t u).run C.P w= .ok v w→(do loadVar t (← asAddr u):Sem Value).run C.P w= .ok v w:=fun u h1=>by
      unfold Instr.loadAt at h1;rcases u with _|_|_|_|_| (_|q)|_|_|_|_|_|_|_|_|_<;>first|exact h1| (simp[Instr.sureAddr,stuck] at h1;done)|simpa[Instr.sureAddr,asAddr] using h1
     exact e _ h1
   · cases h
theorem uw (R:WR C base ν H.get H.n w) (S:SR ν s a):∀ {l:List ResultVar} {xs:List M},resMs C H s l=some xs→∃ vs,(l.mapM (resRun a.tmps)).run C.P w= .ok vs w∧VRs ν xs vs
 | [],xs,h=>by
  simp only[resMs,Option.some.injEq] at h;subst h;exact⟨[],rfl,.nil⟩
 | r::l,xs,h=>by
  unfold resMs at h;split at h
  · rename_i x xs' h1 h2
    cases h;obtain⟨v,h3,h4⟩:=resM1_ok R S h1;obtain⟨vs,h5,h6⟩:=uw R S h2;refine⟨v::vs,?_,.cons h4 h6⟩;rw[List.mapM_cons];simp only[Sem.run_bind,h3,h5,Result.andThen_ok,Sem.run_pure]
  · cases h
theorem resM_ok (R:WR C base ν H.get H.n w) (S:SR ν s a) {fn:Func} {x:M} (h:resM C H s fn.results.toList=some x):∃ v,(results fn a.tmps).run C.P w= .ok v w∧VR ν x v:=by
 unfold resM at h;split at h
 · rename_i y hy
   cases h;obtain⟨vs,h1,h2⟩:=uw R S hy;obtain⟨v,r,rfl,h3,h4⟩:=h2.inv_cons;rw[h4.inv_nil] at h1;exact⟨v,run_results h1,h3⟩
 · rename_i xs hne hy
   cases h;obtain⟨vs,h1,h2⟩:=uw R S hy;refine⟨_,run_results h1,?_⟩;have:tupled vs= .tuple vs.toArray:=by
    match vs,h2.1 with
    | [],_=>rfl
    | [v],hl=>
     obtain⟨x,rfl⟩:=List.length_eq_one_iff.1 hl;exact absurd rfl (hne x)
    |_::_::_,_=>rfl
   rw[this];exact VR.tup' h2
 · cases h
theorem enter_ok {args:List M} {vs:List Value} (h:VRs ν args vs) (n:Nat):SR ν (trOf 0 .lf args) ⟨vs.toArray++Array.replicate n undef,[]⟩:=fun k x hk=>by
 rw[j2,if_neg (by omega),Nat.sub_zero] at hk
 split at hk
 · rename_i y hy
   cases hk;obtain⟨v,h1,h2⟩:=h.get hy;have hl:k<vs.length:=(List.getElem?_eq_some_iff.1 h1).1;rw[Array.getD_eq_getD_getElem?,Array.getElem?_append_left (by simpa using hl)]
   simpa[h1] using h2
 · cases hk
theorem shut {g:Gt} {n:Nat} {ν0:Nm} {g0:Gt} {n0:Nat} {w0:World} {tmps:Array Value} {fn:Func} {T:Ending→World→Prop} (hb:base≤w0.heap.size):∀ (l:List Nat) (w:World),WR C base ν g n w→St ν0 g0 n0 w0 ν g n w→l.Nodup→(∀ D∈l,w0.heap.size≤D∧D<w.heap.size∧Free ν g D∧w.heap[D]? =some (.deferred (some [])))→
  ∃ w',WR C base ν g n w'∧St ν0 g0 n0 w0 ν g n w'∧(LeavesIn Fence.wide 0 C.P fn tmps T [] .returning w'→LeavesInM Fence.wide 0 C.P fn tmps T (l.map markD) .returning w)
 | [],w,R,S,_,_=>⟨w,R,S,fun h=>h⟩
 | D::l,w,R,S,hn,hD=>by
  obtain⟨h1,h2,h3,h4⟩:=hD D (by simp)
  obtain⟨hno,hn'⟩:=List.nodup_cons.1 hn;have hgr:=grownBy_putObj' w D (.deferred none);obtain⟨w',R',g1,g5⟩:=shut hb l (w.putObj D (.deferred none)) (R.grown hgr fun r e=>by cases e;exact⟨h3,Nat.le_trans hb h1⟩) (S.grown hgr fun r e=>by cases e;exact h1) hn' (fun D' hD'=>by
   obtain⟨k1,k2,k3,k4⟩:=hD D' (by simp[hD'])
   refine⟨k1,by simpa using k2,k3,?_⟩
   rw[World.putObj_heap_other (by rintro rfl;exact hno hD')];exact k4)
  exact⟨w',R',g1,fun h=>⟨by simp,.inl ⟨D,_,rfl,run_takeDeferred h4,g5 h⟩⟩⟩
end
def FnOk (C:Cfg):Prop:=∀ f F,C.fn f=some F→C.P.funcs[f]? =some F∧(F.name=="runtime.NumGoroutine")=false
def ExtOk (C:Cfg):Prop:=∀ f g,C.ext f=some g→∀ args H x H',g args H=some (x,H')→∀ base ν w vs,WR C base ν H.get H.n w→VRs ν args vs→afa C base ν H w f vs.toArray x H'
theorem evF_ok {C:Cfg} (hm:C.P.follows .mixedOrders=true) (hM:MethOk C) (hI:IterOk C) (hF:FnOk C) (hX:ExtOk C):∀ n,uh C (evF C n)
 |0=>fun f args H x H' h=>by cases h
 | n+1=>fun f args H x H' h base ν w vs R hv=>by
  have ih:=evF_ok hm hM hI hF hX n;unfold evF at h;split at h
  · rename_i g hg
    exact hX f g hg args H x H' h base ν w vs R hv
  · split at h
    · rename_i F hfn
      obtain⟨hf,hname⟩:=hF f F hfn;split at h
      · rename_i c hb
        have key:∀ {e t},exitOf e= .normal∨exitOf e= .ret→evC C (evF C n) n F.ntmps c ⟨trOf 0 .lf args,H⟩=some (e,t)→resM C t.H t.s F.results.toList=some x→H'=t.H→afa C base ν H w f vs.toArray x H':=by
          intro e t he hev hres hH;subst hH;refine .inr ⟨run_enter hf hname hb _ w,callsIn_wide.1 (callsIn_of_wp_marks (n:=0) hf hb trivial ?_)⟩;refine evC_ok hm hM ih hI c (.inl rfl) (k:=w.heap.size) hev R (enter_ok hv _) (by simp;omega) (.nil rfl) R.big (Nat.le_refl _) fun a' w' ν' r1 r2 r3 r4 r5=> ?_
          obtain⟨l,hl,hnd,hD⟩:=r4;obtain⟨w2,R2,T2,k5⟩:=shut (fn:=F) (tmps:=a'.tmps) (T:=fun e w'=>∃ v ν',e= .returned v∧VR ν' x v∧WR C base ν' t.H.get t.H.n w'∧St ν H.get H.n w ν' t.H.get t.H.n w') R.big l w' r1 r5 hnd hD
          obtain⟨v,g1,g2⟩:=resM_ok R2 r2 hres;have hp:LeavesInM Fence.wide 0 C.P F a'.tmps (fun e w'=>∃ v ν',e= .returned v∧VR ν' x v∧WR C base ν' t.H.get t.H.n w'∧St ν H.get H.n w ν' t.H.get t.H.n w') a'.defers .returning w':=by
            rw[hl];exact k5 ⟨v,g1,v,ν',rfl,g2,R2,T2⟩
          rcases he with he|he<;>rw[he]<;>exact hp
        split at h
        · rename_i t hev
          split at h
          · rename_i y hy
            cases h;exact key (.inl rfl) hev hy rfl
          · cases h
        · rename_i t hev
          split at h
          · rename_i y hy
            cases h;exact key (.inr rfl) hev hy rfl
          · cases h
        · cases h
      · unfold extP at h
        split at h
        · rename_i us hus
          split at h
          · rename_i z hz
            split at h
            · rename_i y hy
              cases h;refine .inl ⟨z,w,ν,?_,ajz hy,R,R.refl⟩;rw[hv.toVs hus];exact pureRun_run w hz
            · cases h
          · cases h
        · cases h
    · cases h
end Go.Me
namespace Go.Me
open Go Go.RowKit
variable [Gam]
set_option linter.unusedSectionVars false
set_option linter.unusedSimpArgs false
set_option linter.unusedVariables false
def a3e:Option (M×Hp)→Bool
 |some (.bool true,_)=>true
 |_=>false
def noNm:Nm:=⟨fun _=>none,fun _=>(0,0)⟩
theorem WR.start {C:Cfg} (hg:C.gobj=fun _=>none) (hv:C.vobj=fun _=>none) (w:World):WR C w.heap.size noNm (Hp.get ⟨0,.lf⟩) 0 w:=
 ⟨fun b c h=>(by cases h),fun b o c h=>(by cases h),fun b b' c ⟨o,h,_⟩=>(by cases h),fun k cs h=>(by rw[hg] at h;cases h),fun k cs h=>(by rw[hv] at h;cases h),Nat.le_refl _,fun b o h=>(by cases h)⟩
theorem St.below {ν':Nm} {g':Gt} {n':Nat} {w w':World} (T:St noNm (Hp.get ⟨0,.lf⟩) 0 w ν' g' n' w'):Below w.heap.size w w':=
 ⟨T.rest.1,T.rest.2.1,T.rest.2.2,T.size,fun k hk=>T.keep k hk fun b h=>by obtain⟨o,h,_⟩:=h;cases h⟩
theorem ajg {C:Cfg} (hm:C.P.follows .mixedOrders=true) (hM:MethOk C) (hI:IterOk C) (hF:FnOk C) (hX:ExtOk C) (hg:C.gobj=fun _=>none) {f:FuncId} {F:Func} {c:Code} {n:Nat} (hf:C.P.funcs[f]? =some F) (hname:(F.name=="runtime.NumGoroutine")=false) (hb:F.body=some c)
   (h:a3e (evF C n f [] ⟨0,.lf⟩)=true) (w:World) (hv:C.vobj=fun _=>none:=by rfl):Calls C.P f #[] w fun e w'=>e= .returned (.bool true)∧Below w.heap.size w w':=by
 unfold a3e at h;split at h
 · rename_i H hev
   have:=evF_ok hm hM hI hF hX n f [] ⟨0,.lf⟩ _ H hev w.heap.size noNm w [] (WR.start hg hv w) .nil;rcases this with⟨v,w',ν',h1,_⟩|⟨_,h2⟩
   · rw[run_enter hf hname hb] at h1
     cases h1
   · refine h2.mono fun e w' ⟨v,ν',he,hv,hw,T⟩=> ?_
     cases hv;exact⟨he,T.below⟩
 · cases h
def au5 (H:Hp):M→Option (List UInt8)
 | .sl b o n _=>match H.rds b o n with
  |some l=>bytesM l
  |none=>none
 | .slz=>some []
 | .nilS=>some []
 | .str s=>some s
 |_=>none
section
variable {C:Cfg} {base:Nat} {ν:Nm} {w:World} {H:Hp}
theorem lz {P:Program} {c:Nat}:∀ (ns:List Int) (o:Nat) (acc:ByteArray),(∀ (j:Nat) n,ns[j]? =some n→w.cell? ⟨c,o+j,none⟩=some (.int .u8 n))→(Extern.Bytes.loadBytes ⟨c,o,none⟩ ns.length acc).run P w= .ok ⟨acc.data++(ns.map fun n=>n.toNat.toUInt8).toArray⟩ w
 | [],o,acc,h=>by simp[Extern.Bytes.loadBytes]
 | n::ns,o,acc,h=>by
  have h0:=h 0 n rfl;rw[Nat.add_zero] at h0;have ih:=lz (P:=P) ns (o+1) (acc.push n.toNat.toUInt8) (fun j m hj=>by rw[show o+1+j=o+(j+1) by omega];exact h (j+1) m (by simpa using hj))
  have hl:(load ⟨c,o,none⟩).run P w= .ok (.int .u8 n) w:=by rw[run_load,h0]
  simp only[List.length_cons,Extern.Bytes.loadBytes,Sem.run_bind,hl,Result.andThen_ok,b7,ih]
  congr 1
  simp[ByteArray.push]
theorem si (R:WR C base ν H.get H.n w) {x:M} {v:Value} {l:List UInt8} (hx:VR ν x v) (h:au5 H x=some l):(Extern.Bytes.bytesOf v).run C.P w= .ok ⟨l.toArray⟩ w:=by
 unfold au5 at h;split at h
 · rename_i b o n k
   cases hx with|sl _ _ _ _ c cap hb hc hk hr=>
   split at h
   · rename_i xs hxs
     obtain⟨vs,h1,h2,h3⟩:=R.rds (fun b o h _=>h) hb n o hxs
     obtain⟨ns,rfl,rfl⟩:=ng h;have hvs:vs=ns.map (Value.int .u8):=by
      apply List.ext_getElem?;intro j;have hl:=h2.1;simp only[List.length_map] at hl;by_cases hj:j<ns.length
      · obtain⟨u,hu⟩:∃ u,vs[j]? =some u:=⟨_,List.getElem?_eq_getElem (by omega)⟩
        have:=h2.2 j (.int .u8 ns[j]) u (by simp[hj]) hu
        cases this;rw[hu];simp[hj]
      · rw[List.getElem?_eq_none (by omega),List.getElem?_eq_none (by simp;omega)]
     subst hvs;have hn:n=ns.length:=by simpa using h1.symm
     subst hn;have:=lz (P:=C.P) (w:=w) (c:=c) ns (o+(ν.rm b).2) .empty (fun j m hj=>h3 j _ (by simp[hj]))
     simp only[Extern.Bytes.bytesOf];rw[this];simp[ByteArray.empty,ByteArray.emptyWithCapacity];rfl
   · cases h
 · cases h;cases hx;rfl
 · cases h;cases hx;rfl
 · rename_i s
   cases h;cases hx;rfl
 · cases h
def xCompare:List M→Hp→Option (M×Hp)
 | [x,y],H=>match au5 H x,au5 H y with
  |some a,some b=>some (.int .i64 (Extern.BytealgCompare.cmp ⟨a.toArray⟩ ⟨b.toArray⟩),H)
  |_,_=>none
 |_,_=>none
end
def ExtOne (C:Cfg) (f:FuncId) (g:List M→Hp→Option (M×Hp)):Prop:=∀ args H x H',g args H=some (x,H')→∀ base ν w vs,WR C base ν H.get H.n w→VRs ν args vs→afa C base ν H w f vs.toArray x H'
theorem afb {C:Cfg} {f:FuncId} (hf:∀ u v w,(callFunc f #[u,v]).run C.P w=((do pure (goInt (Extern.BytealgCompare.cmp (← Extern.Bytes.bytesOf u) (← Extern.Bytes.bytesOf v)))) >>= fun v=>(pure (.value v):Sem Next)).run C.P w):ExtOne C f xCompare:=by
 intro args H x H' h base ν w vs R hv;unfold xCompare at h;split at h
 · rename_i y z
   split at h
   · rename_i a b h1 h2
     cases h;obtain⟨u,r,rfl,g1,g2⟩:=hv.inv_cons;obtain⟨v,r',rfl,g3,g4⟩:=g2.inv_cons;rw[g4.inv_nil];refine .inl ⟨.int .i64 (Extern.BytealgCompare.cmp ⟨a.toArray⟩ ⟨b.toArray⟩),w,ν,?_,.int _ _,R,R.refl⟩;rw[hf];simp only[Sem.run_bind,si R g1 h1,si R g3 h2,Result.andThen_ok,Sem.run_pure];rfl
   · cases h
 · cases h
end Go.Me
namespace Go.Me
open Go Go.RowKit
variable [Gam]
set_option linter.unusedSectionVars false
set_option linter.unusedSimpArgs false
set_option linter.unusedVariables false
section
variable {C:Cfg} {base:Nat} {ν:Nm} {g:Gt} {n:Nat} {w:World}
theorem WR.fresh_st (R:WR C base ν g n w) {w':World} {ρ:Nat×Nat} {o:Ob} {ob:Obj} (hc:w'.heap[w.heap.size]? =some ob) (ho:OR ν ρ o ob) (hold:∀ c',c'<w.heap.size→w'.heap[c']? =w.heap[c']?) (hr:w'.os=w.os∧w'.tape=w.tape∧w'.output=w.output):
   WR C base (ν.add n w.heap.size ρ) (upd g n o) (n+1) w'∧St ν g n w (ν.add n w.heap.size ρ) (upd g n o) (n+1) w':=by
 have hlt:w.heap.size<w'.heap.size:=(Array.getElem?_eq_some_iff.1 hc).1;refine⟨(R.fresh hc ho R.big hlt (fun b _ h=>by have:=(R.lt b _ h).2.2;omega) (fun c' _ h=>hold c' h) (by omega)).1,
   ⟨by omega,fun b hb=>⟨Nm.add_ne _ _ _ (by omega),Nm.rm_ne _ _ _ (by omega)⟩,fun b hb ⟨q,h1,h2⟩=>⟨q,by rwa [ax _ _ (by omega)] at h1,h2⟩,fun b hb h=>by rw[ax _ _ (by omega)];exact h,fun b hb _=>ax _ _ (by omega),fun b hb h=>by rw[ax _ _ (by omega)];exact h,fun b c hb h=> ?_,by omega,fun c hc _=>hold c hc,hr⟩⟩
 by_cases e:b=n
 · subst e;rw[Nm.add_same] at h;cases h;exact .inl (Nat.le_refl _)
 · rw[Nm.add_ne _ _ _ e] at h;exact absurd (R.lt b c h).1 (by omega)
end
def xRow (n:Nat) (x:Int):List M→Hp→Option (M×Hp)
 | [],H=>some (.sl H.n 0 n (some n),H.push (.cells n 0 (.int .i64 x) .lf))
 |_,_=>none
theorem xRow_ok {C:Cfg} {f:FuncId} {n:Nat} {x:Int} (hent:∀ args w,(callFunc f args).run C.P w= .ok (.enter f args) w)
   (hw:∀ w,Calls C.P f #[] w fun e w'=>∃ (cs:Array Value) (t:TypeId) (fr:Nat×Nat),e= .returned (.slice (some ⟨w.heap.size,0,none⟩) n n)∧w'.heap[w.heap.size]? =some (.cells cs t fr)∧cs.size=n∧(fr.1=fr.2∨n≤fr.1)∧(∀ i,i<n→cs[i]? =some (.int .i64 x))∧(∀ c,c<w.heap.size→w'.heap[c]? =w.heap[c]?)∧w'.os=w.os∧w'.tape=w.tape∧w'.output=w.output):ExtOne C f (xRow n x):=by
 intro args H y H' h base ν w vs R hv;unfold xRow at h;split at h
 · cases h
   rw[hv.inv_nil];refine .inr ⟨hent _ w,(hw w).mono fun e w' ⟨cs,t,fr,he,h1,h2,h3,h4,h5,h6⟩=> ?_⟩
   have ho:OR ν (0,0) (.cells n 0 (.int .i64 x) .lf) (.cells cs t fr):=by
     refine .cells _ _ _ _ _ _ _ (by omega) ⟨fun _=>h2,by simp⟩ (by omega) fun i u hu=> ?_
     obtain⟨g1,g2⟩:=cells_at hu;refine⟨.int .i64 x,h4 i g1,?_⟩;have:u= .int .i64 x:=by simpa[Tr.get] using g2
     rw[this];exact .int _ _
   obtain⟨k1,k2⟩:=R.fresh_st h1 ho h5 h6;refine⟨_,ν.add H.n w.heap.size (0,0),he,.sl0 (Nm.add_same _ _ _ _) (by rw[Nm.rm_same]) (Nat.le_refl _) (fun m hm=>by cases hm;rfl) (fun h=>by cases h),?_,?_⟩
   · rw[ea];exact k1
   · rw[ea];exact k2
 · cases h
def IterOne (C:Cfg) (f:FuncId) (it:List M→Hp→Option (M×List (List M))):Prop:=
 (∀ args w,(callFunc f args).run C.P w= .ok (.enter f args) w)∧∀ base ν0 H0 w0 caps lb key items,WR C base ν0 H0.get H0.n w0→VRs ν0 caps lb→it caps H0=some (key,items)→Tells C base ν0 it caps key items.length f lb.toArray w0
def b9 (z n m:Nat) (c p:Nat):List (List M):=(List.range ((n+m-1) / m)).map fun i=>[.sl c (p+i*m*z) (min m (n-i*m)) (some (min m (n-i*m)))]
def nn (z:Nat):List M→Hp→Option (M×List (List M))
 | [.ptr b o,.ptr b' o'],H=>match H.rd b o,H.rd b' o' with
  | some s,some (.int .i64 (.ofNat m))=>bif Nat.blt 0 m then(match s with
   | .sl c p n k=>bif Nat.blt (n+m) 4611686018427387904 then some (.tup [s,.int .i64 (.ofNat m)],b9 z n m c p) else none
   | .nilS=>bif Nat.blt m 4611686018427387904 then some (.tup [s,.int .i64 (.ofNat m)],[]) else none
   | .slz=>bif Nat.blt m 4611686018427387904 then some (.tup [s,.int .i64 (.ofNat m)],[]) else none
   |_=>none) else none
  |_,_=>none
 |_,_=>none
def ChunkWalk (P:Program) (f:FuncId) (z:Nat):Prop:=∀ (l B o B' o' n m:Nat) (J:Nat→World→Prop) (Jx:World→Prop) (W:World),0<m→n+m<4611686018427387904→(∀ i X Y,J i X→X.grownBy Y none→J i Y)→(∀ X Y,Jx X→X.grownBy Y none→Jx Y)→
 (∀ i X,i≤(n+m-1) / m→J i X→∃ ad cap,X.cell? ⟨B,o,none⟩=some (.slice ad n cap)∧n≤cap∧X.cell? ⟨B',o',none⟩=some (.int .i64 (m:Int))∧(i*m<n→∃ c p,ad=some ⟨c,p,none⟩∧
  YieldAt Fence.wide 0 P l #[.slice (some ⟨c,p+i*m*z,none⟩) (min m (n-i*m)) (min m (n-i*m))] X fun e Y=>(e= .returned (.bool true)∧J (i+1) Y)∨(e= .returned (.bool false)∧Jx Y)))→
 J 0 W→CallsIn Fence.wide 0 P f #[.func (.yield l) #[] #[],.pointer (some ⟨B,o,none⟩),.pointer (some ⟨B',o',none⟩)] W fun e Y=>(∃ v,e= .returned v)∧(J ((n+m-1) / m) Y∨Jx Y)
theorem qi {i n m:Nat} (hm:0<m):i<(n+m-1) / m↔i*m<n:=by
 rw[show i<(n+m-1) / m↔i+1≤(n+m-1) / m from Iff.rfl,Nat.le_div_iff_mul_le hm,Nat.succ_mul]
 omega
theorem o7 {z b o b' o':Nat} {H:Hp} {key:M} {items:List (List M)} (h:nn z [.ptr b o,.ptr b' o'] H=some (key,items)):∃ s m n c p,H.rd b o=some s∧H.rd b' o'=some (.int .i64 (Int.ofNat m))∧0<m∧n+m<4611686018427387904∧key= .tup [s,.int .i64 (Int.ofNat m)]∧items=b9 z n m c p∧
   ((∃ k,s= .sl c p n k)∨n=0∧(s= .nilS∨s= .slz)):=by
 have hp0:∀ m c p,0<m→b9 z 0 m c p=[]:=fun m c p hm=>by
   unfold b9;rw[Nat.zero_add,Nat.div_eq_of_lt (by omega)]
   rfl
 unfold nn at h;simp only at h;split at h
 · rename_i s m h1 h2
   obtain⟨h3,h⟩:=and1 h;have h3:0<m:=by simpa[Nat.blt_eq] using h3
   split at h
   · rename_i c p n k _
     obtain⟨h4,h⟩:=and1 h;cases h;exact⟨_,m,n,c,p,h1,h2,h3,by simpa[Nat.blt_eq] using h4,rfl,rfl,.inl ⟨k,rfl⟩⟩
   · obtain⟨h4,h⟩:=and1 h
     cases h;exact⟨_,m,0,0,0,h1,h2,h3,by rw[Nat.zero_add];simpa[Nat.blt_eq] using h4,rfl,(hp0 _ _ _ h3).symm,.inr ⟨rfl,.inl rfl⟩⟩
   · obtain⟨h4,h⟩:=and1 h
     cases h;exact⟨_,m,0,0,0,h1,h2,h3,by rw[Nat.zero_add];simpa[Nat.blt_eq] using h4,rfl,(hp0 _ _ _ h3).symm,.inr ⟨rfl,.inr rfl⟩⟩
   · cases h
 · cases h
theorem xl {C:Cfg} {f:FuncId} {z:Nat} (hent:∀ args w,(callFunc f args).run C.P w= .ok (.enter f args) w) (hw:ChunkWalk C.P f z):IterOne C f (nn z):=by
 refine⟨hent,fun base ν0 H0 w0 caps lb key items R hv h=> ?_⟩
 have hc:∃ b o b' o',caps=[.ptr b o,.ptr b' o']:=by
   unfold nn at h;split at h
   · exact⟨_,_,_,_,rfl⟩
   · cases h
 obtain⟨b,o,b',o',rfl⟩:=hc;obtain⟨u,r,rfl,v1,v2⟩:=hv.inv_cons;obtain⟨u',r',rfl,v3,v4⟩:=v2.inv_cons;rw[v4.inv_nil];cases v1 with|ptr _ _ B hB=>
 cases v3 with|ptr _ _ B' hB'=>
 obtain⟨s,m,n,c,p,h1,h2,hm,hlt,rfl,rfl,hs⟩:=o7 h;have hlen:(b9 z n m c p).length=(n+m-1) / m:=by simp[b9]
 intro l J Jx W hbelow hJ hJx hR h0;rw[hlen] at hR ⊢;refine hw l B (o+(ν0.rm b).2) B' (o'+(ν0.rm b').2) n m J Jx W hm hlt hJ hJx (fun i X hi hJi=> ?_) h0
 obtain⟨ν,H,items,R1,hle,hit,hil,hy⟩:=hR i X hi hJi;obtain⟨s',m',n',c',p',g1,g2,_,_,g5,g6,g7⟩:=o7 hit;simp only[M.tup.injEq,List.cons.injEq,M.int.injEq,true_and,and_true] at g5;obtain⟨rfl,g5⟩:=g5;have g5:=Int.ofNat.inj g5;subst g5;obtain⟨v,k1,k2⟩:=R1.rd (fun b o h _=>h) (hle _ _ hB).1 g1
 obtain⟨v',k3,k4⟩:=R1.rd (fun b o h _=>h) (hle _ _ hB').1 g2
 rw[(hle _ _ hB).2] at k1;rw[(hle _ _ hB').2] at k3;cases k4;rcases hs with⟨k,rfl⟩|⟨rfl,hs⟩
 · rcases g7 with⟨k',e⟩|⟨_,e|e⟩
   · cases e
     cases k2 with|sl _ _ _ _ cc cap hcc hcap hk hr=>
     refine⟨_,cap,k1,hcap,k3,fun hin=>⟨cc,p+(ν.rm c).2,rfl,?_⟩⟩
     have hx:items[i]? =some [.sl c (p+i*m*z) (min m (n-i*m)) (some (min m (n-i*m)))]:=by
      rw[g6];simp[b9,(qi hm).2 hin]
     rw[show p+(ν.rm c).2+i*m*z=p+i*m*z+(ν.rm c).2 by omega]
     exact hy _ hx [_] (.cons (.sl c (p+i*m*z) _ _ cc _ hcc (Nat.le_refl _) (fun q hq=>by cases hq;rfl) (fun h=>by cases h)) .nil)
   · cases e
   · cases e
 · rcases hs with rfl|rfl
   · cases k2
     exact⟨_,_,k1,Nat.le_refl _,k3,fun h=>by omega⟩
   · cases k2
     exact⟨_,_,k1,Nat.zero_le _,k3,fun h=>by omega⟩
