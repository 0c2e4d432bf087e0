import Derived.Test.YtplmdlobbfcknaaGreatDoorMeX
import Derived.Test.YtplmdlobbfcknaaGreatDoorMeZ
namespace Go.Me
open Go Go.RowKit Go.Extern.Rtype
variable [Gam]
set_option linter.unusedSectionVars false
set_option linter.unusedSimpArgs false
set_option linter.unusedVariables false
def Runs (P:Program) (f:FuncId) (r:Array Value→Sem Value):Prop:=∀ args w,(callFunc f args).run P w=((r args >>= fun v=>pure (.value v)):Sem Next).run P w
theorem nq {P:Program} {f:FuncId} {F:Func} {r:Array Value→Sem Value} (hf:P.funcs[f]? =some F) (hname:(F.name=="runtime.NumGoroutine")=false) (hb:F.body=none) (h1:Extern.findNext F=none) (h2:Extern.find F=some r):Runs P f r:=fun args w=>by
 have h4:F.name≠"runtime.NumGoroutine":= by simpa using hname
 simp only[callFunc,Sem.run_bind,run_program,Result.andThen_ok,hf,hb,Option.isNone_none,if_true,h1,h2];rw[if_neg (by simpa using h4)]
 simp[mark];rfl
section
variable {C:Cfg} {base:Nat} {ν:Nm} {w:World} {H:Hp}
theorem ji {P:Program} {f:FuncId} {r:Array Value→Sem Value} (hr:Runs P f r) {args:Array Value} {v:Value} {w':World} (h:(r args).run P w= .ok v w'):(callFunc f args).run P w= .ok (.value v) w':=by
 rw[hr,Sem.run_bind,h];rfl
theorem o8 {P:Program} {t:TypeId} {a:Addr} {f:Int} (hf:f≠0):(Extern.ReflectliteValue.partsAny (.agg #[.pointer (some ⟨P.globals.size,t,none⟩),.pointer (some a),.int .u64 f])).run P w= .ok (some (t,a,f.toNat)) w:=by
 have key:((do pure (some ((← ofHandle (.pointer (some ⟨P.globals.size,t,none⟩))),a,f.toNat))):Sem (Option (TypeId×Addr×Nat))).run P w= .ok (some (t,a,f.toNat)) w:=by
  have h0:(ofHandle (.pointer (some ⟨P.globals.size,t,none⟩))).run P w= .ok t w:=by
   unfold ofHandle;rw[Sem.run_bind,run_program,Result.andThen_ok];have:handleType P (.pointer (some ⟨P.globals.size,t,none⟩))=some t:=by simp[handleType]
   rw[this];rfl
  rw[Sem.run_bind,h0];rfl
 cases f with
 | ofNat n=>
  cases n with
  |zero=>exact absurd rfl hf
  |succ n=>exact key
 |negSucc n=>exact key
theorem mp {P:Program} {t:TypeId} {a:Addr} {f:Int} (hf:f≠0) (hp:P.packed t=false):(Extern.ReflectliteValue.parts (.agg #[.pointer (some ⟨P.globals.size,t,none⟩),.pointer (some a),.int .u64 f])).run P w= .ok (some (t,a,f.toNat)) w:=by
 have h1:(noPack "a Value asked or handed on" t).run P w= .ok () w:=by unfold noPack;rw[Sem.run_bind,run_program,Result.andThen_ok,hp];rfl
 show((Extern.ReflectliteValue.partsAny _ >>= fun r=>match r with
  |some (t,a,fl)=>(do noPack "a Value asked or handed on" t;pure (some (t,a,fl)))
  |none=>pure none):Sem (Option (TypeId×Addr×Nat))).run P w=_
 rw[Sem.run_bind,o8 hf,Result.andThen_ok];show((do noPack "a Value asked or handed on" t;pure (some (t,a,f.toNat))):Sem (Option (TypeId×Addr×Nat))).run P w=_
 rw[Sem.run_bind,h1,Result.andThen_ok];rfl
theorem c8 {P:Program} {h:M} {t:TypeId} (e:gj P h=some t) {v:Value} (hv:VR ν h v):v= .pointer (some ⟨P.globals.size,t,none⟩):=by
 unfold gj at e;split at e
 · split at e
   · rename_i hg
     cases e;cases hv;rw[hg]
   · cases e
 · cases e
theorem aqf {f:FuncId} (hr:Runs C.P f Extern.ReflectliteType.typeOf):ExtOne C f (ae3 C.P):=by
 intro args H x H' h base ν w vs R hv;unfold ae3 at h;split at h
 · rename_i t y
   split at h
   · rename_i z hz
     cases h;obtain⟨u,r,rfl,g1,g2⟩:=hv.inv_cons;rw[g2.inv_nil];obtain⟨u,rfl,_⟩:=g1.ifc_inv;unfold vw at hz;split at hz
     · rename_i v hq
       exact .inl ⟨v,w,ν,ji hr (pureRun_run w hq),s9 hz,R,R.refl⟩
     · cases hz
   · cases h
 · cases h
   obtain⟨u,r,rfl,g1,g2⟩:=hv.inv_cons;rw[g2.inv_nil];cases g1;exact .inl ⟨.nilIface,w,ν,ji hr rfl,.nilI,R,R.refl⟩
 · cases h
theorem ae1 {f:FuncId} (hr:Runs C.P f (fun args=>Extern.ReflectliteValue.unpack (args.getD 0 (.tuple #[])))):ExtOne C f (vn C.P):=by
 intro args H x H' h base ν w vs R hv;unfold vn at h;split at h
 · rename_i t y
   split at h
   · rename_i k hk
     obtain⟨h1,h⟩:=and1 h;cases h;obtain⟨u,r,rfl,g1,g2⟩:=hv.inv_cons;rw[g2.inv_nil];obtain⟨u,rfl,g3⟩:=g1.ifc_inv;obtain⟨k1,k2⟩:=R.alloc (ρ:=(0,0)) (w1:=w) rfl ⟨rfl,rfl,rfl⟩ (q9 (g3.cells h1) t);refine .inl ⟨.agg #[.pointer (some ⟨C.P.globals.size,t,none⟩),.pointer (some ⟨w.heap.size,0,none⟩),.int .u64 (Int.ofNat (k+128))],w.alloc (.cells u.cells t),ν.add H.n w.heap.size (0,0),ji hr ?_,?_,?_,?_⟩
     · have hkr:=fun w=>pureRun_run w hk
       simp[Extern.ReflectliteValue.unpack,Extern.ReflectliteValue.mk,newVar,newRow,handle,typeHandle,hkr,Extern.ReflectliteValue.flagIndir]
     · exact .agg _ [_,_,_] rfl fun i x v h1 h2=>by
        match i,h1,h2 with
        |0,h1,h2=>cases h1;cases h2;exact .glob _ _
        |1,h1,h2=>cases h1;cases h2;exact .ptr0 (Nm.add_same _ _ _ _) (by rw[Nm.rm_same])
        |2,h1,h2=>cases h1;cases h2;exact .int _ _
        |i+3,h1,h2=>simp at h1
     · rw[dn];exact k1
     · rw[dn];exact k2
   · cases h
 · cases h
theorem agg3 {x y z:M} {v:Value} (h:VR ν (.agg [x,y,z]) v):∃ a b c,v= .agg #[a,b,c]∧VR ν x a∧VR ν y b∧VR ν z c:=by
 obtain⟨vs,rfl,h1⟩:=h.agg_inv;obtain⟨a,r,rfl,g1,h2⟩:=h1.inv_cons;obtain⟨b,r,rfl,g2,h3⟩:=h2.inv_cons;obtain⟨c,r,rfl,g3,h4⟩:=h3.inv_cons;rw[h4.inv_nil];exact⟨a,b,c,rfl,g1,g2,g3⟩
theorem asb {f:FuncId} {zero:Sem Value} (hr:Runs C.P f (Extern.ReflectliteValue.methodAny zero fun t _ _ _=>Extern.ReflectliteType.toType t)):ExtOne C f (asc C.P):=by
 intro args H x H' h base ν w vs R hv;unfold asc at h;split at h
 · rename_i hd b o fl
   cases hfl:fl==0
   · rw[hfl] at h
     simp only[cond_false] at h;have hne:fl≠0:=by simpa using hfl
     split at h
     · rename_i t ht
       split at h
       · rename_i z hz
         cases h;obtain⟨u,r,rfl,g1,g2⟩:=hv.inv_cons;rw[g2.inv_nil];obtain⟨v1,v2,v3,rfl,k1,k2,k3⟩:=agg3 g1;rw[c8 ht k1];cases k2 with|ptr _ _ c hc=>
         cases k3;unfold vw at hz;split at hz
         · rename_i v hq
           refine .inl ⟨v,w,ν,ji hr ?_,s9 hz,R,R.refl⟩;show((do match ←Extern.ReflectliteValue.partsAny (.agg #[.pointer (some ⟨C.P.globals.size,t,none⟩),.pointer (some ⟨c,o+(ν.rm b).2,none⟩),.int .u64 fl]) with
            |none=>zero
            |some (t,a,fl)=>Extern.ReflectliteType.toType t):Sem Value).run C.P w=_
           rw[Sem.run_bind,o8 hne,Result.andThen_ok];exact pureRun_run w hq
         · cases hz
       · cases h
     · cases h
   · rw[hfl] at h;cases h
 · cases h
theorem qm {t e:TypeId} {c i:Nat} {v:Value} (hu:und C t=some (.pointer e)) (hc:w.cell? ⟨c,i,none⟩=some v):(loadVar t ⟨c,i,none⟩).run C.P w= .ok v w:=by
 have:(isAgg t).run C.P w= .ok false w:=by simp[isAgg,ab hu]
 simp[loadVar,this,hc]
theorem f22 {f:Nat} (h:f % 32=22):(Int.ofNat f)≠0:=fun e=>by
 have:f=0:=Int.ofNat.inj e;subst this;cases h
theorem aqe {f:FuncId} {zero:Sem Value} (hr:Runs C.P f (Extern.ReflectliteValue.method zero Extern.ReflectliteValue.isNil)):ExtOne C f (ae2 C):=by
 intro args H x H' h base ν w vs R hv;unfold ae2 at h;split at h
 · rename_i hd b o fl
   split at h
   · rename_i t ht
     obtain⟨hp,hk,h⟩:=and2 h;have hp:C.P.packed t=false:=by simpa[packQ] using hp
     have hk:fl % 32=22:=by simpa using hk
     obtain⟨u,r,rfl,g1,g2⟩:=hv.inv_cons;rw[g2.inv_nil];obtain⟨v1,v2,v3,rfl,k1,k2,k3⟩:=agg3 g1;rw[c8 ht k1];cases k2 with|ptr _ _ c hc=>
     cases k3;split at h
     · rename_i e hu
       have fin:∀ (y:M) (bb:Bool),H.rd b o=some y→(∀ v,VR ν y v→v= .pointer none∧bb=true∨∃ a,v= .pointer (some a)∧bb=false)→x= .bool bb→H'=H→vi C base ν H w f [Value.agg #[.pointer (some ⟨C.P.globals.size,t,none⟩),.pointer (some ⟨c,o+(ν.rm b).2,none⟩),.int .u64 (Int.ofNat fl)]].toArray x H':=fun y bb hy hv e1 e2=>by
         subst e1;subst e2;obtain⟨v,q1,q2⟩:=R.rd (fun b o h _=>h) hc hy
         refine .inl ⟨.bool bb,w,ν,ji hr ?_,.bool _,R,R.refl⟩;show((do match ←Extern.ReflectliteValue.parts (.agg #[.pointer (some ⟨C.P.globals.size,t,none⟩),.pointer (some ⟨c,o+(ν.rm b).2,none⟩),.int .u64 (Int.ofNat fl)]) with
          |none=>zero
          |some (t,a,fl)=>Extern.ReflectliteValue.isNil t a fl (fl % 32)):Sem Value).run C.P w=_
         rw[Sem.run_bind,mp (f22 hk) hp,Result.andThen_ok];show(Extern.ReflectliteValue.isNil t ⟨c,o+(ν.rm b).2,none⟩ fl (fl % 32)).run C.P w=_;unfold Extern.ReflectliteValue.isNil;rw[hk];rw[if_neg (by decide),Sem.run_bind,qm hu q1,Result.andThen_ok]
         rcases hv v q2 with⟨rfl,rfl⟩|⟨a,rfl,rfl⟩<;>rfl
       split at h
       · rename_i c' p' hy
         cases h;exact fin _ false hy (fun v hv=>by cases hv;exact .inr ⟨_,rfl,rfl⟩) rfl rfl
       · rename_i hy
         cases h;exact fin _ true hy (fun v hv=>by cases hv;exact .inl ⟨rfl,rfl⟩) rfl rfl
       · cases h
     · cases h
   · cases h
 · cases h
theorem asd {f:FuncId} {zero:Sem Value} (hr:Runs C.P f (Extern.ReflectliteValue.method zero Extern.ReflectliteValue.elem)):ExtOne C f (ase C):=by
 intro args H x H' h base ν w vs R hv;unfold ase at h;split at h
 · rename_i hd b o fl
   split at h
   · rename_i t ht
     obtain⟨hp,hk,h⟩:=and2 h;have hp:C.P.packed t=false:=by simpa[packQ] using hp
     have hk:fl % 32=22:=by simpa using hk
     obtain⟨u,r,rfl,g1,g2⟩:=hv.inv_cons;rw[g2.inv_nil];obtain⟨v1,v2,v3,rfl,k1,k2,k3⟩:=agg3 g1;rw[c8 ht k1];cases k2 with|ptr _ _ c hc=>
     cases k3;split at h
     · rename_i e hu
       split at h
       · rename_i e' k c' p' hel hki hy
         obtain⟨he,h⟩:=and1 h;have he:e'=e:=by simpa using he
         subst he;cases h;obtain⟨v,q1,q2⟩:=R.rd (fun b o h _=>h) hc hy
         cases q2 with|ptr _ _ cc hcc=>
         refine .inl ⟨.agg #[.pointer (some ⟨C.P.globals.size,e',none⟩),.pointer (some ⟨cc,p'+(ν.rm c').2,none⟩),.int .u64 (Int.ofNat (k+128+256))],w,ν,ji hr ?_,?_,R,R.refl⟩
         · show((do match ←Extern.ReflectliteValue.parts (.agg #[.pointer (some ⟨C.P.globals.size,t,none⟩),.pointer (some ⟨c,o+(ν.rm b).2,none⟩),.int .u64 (Int.ofNat fl)]) with
            |none=>zero
            |some (t,a,fl)=>Extern.ReflectliteValue.elem t a fl (fl % 32)):Sem Value).run C.P w=_
           rw[Sem.run_bind,mp (f22 hk) hp,Result.andThen_ok];show(Extern.ReflectliteValue.elem t ⟨c,o+(ν.rm b).2,none⟩ fl (fl % 32)).run C.P w=_;unfold Extern.ReflectliteValue.elem;rw[hk];have hkr:=pureRun_run w hki;have hel:=pureRun_run w hel;simp[qm hu q1,hel,Extern.ReflectliteValue.mk,handle,typeHandle,hkr,Extern.ReflectliteValue.flagIndir,Extern.ReflectliteValue.flagAddr]
         · exact .agg _ [_,_,_] rfl fun i x v h1 h2=>by
            match i,h1,h2 with
            |0,h1,h2=>cases h1;cases h2;exact .glob _ _
            |1,h1,h2=>cases h1;cases h2;exact .ptr _ _ _ hcc
            |2,h1,h2=>cases h1;cases h2;exact .int _ _
            |i+3,h1,h2=>simp at h1
       · cases h
     · cases h
   · cases h
 · cases h
theorem asp {t:TypeId} {c p:Nat} {v:Value} (h:(Instr.loadAt t (.pointer (some ⟨c,p,none⟩))).run C.P w= .ok v w):(loadVar t ⟨c,p,none⟩).run C.P w= .ok v w:=by
 simpa[Instr.loadAt,Instr.sureAddr] using h
theorem xVSet_ok {f:FuncId} (hr:Runs C.P f Extern.ReflectliteValue.set):ExtOne C f (xVSet C):=by
 intro args H x H' h base ν w vs R hv;unfold xVSet at h;split at h
 · rename_i hd b o fl hd' c p fl'
   split at h
   · rename_i d s hd1 hd2
     cases hq:(packQ C.P d&&packQ C.P s&&(fl / 256 % 2==1)&& !(fl'==0))
     · rw[hq] at h;cases h
     · rw[hq] at h
       simp only[cond_true] at h;simp only[Bool.and_eq_true,Bool.not_eq_true',beq_iff_eq,beq_eq_false_iff_ne] at hq;obtain⟨⟨⟨q1,q2⟩,q3⟩,q4⟩:=hq;have q1:C.P.packed d=false:=by simpa[packQ] using q1
       have q2:C.P.packed s=false:=by simpa[packQ] using q2
       have n1:Int.ofNat fl≠0:=fun e=>by
         have:fl=0:=Int.ofNat.inj e;subst this;cases q3
       have n2:Int.ofNat fl'≠0:=fun e=>q4 (Int.ofNat.inj e)
       split at h
       · rename_i y hy
         split at h
         · rename_i hda
           split at h
           · rename_i r H1 hst
             cases h;obtain⟨u,r,rfl,g1,g2⟩:=hv.inv_cons;obtain⟨u',r',rfl,g3,g4⟩:=g2.inv_cons;rw[g4.inv_nil];obtain⟨v1,v2,v3,rfl,k1,k2,k3⟩:=agg3 g1;obtain⟨w1,w2,w3,rfl,m1,m2,m3⟩:=agg3 g3;rw[c8 hd1 k1,c8 hd2 m1];cases k3;cases m3;obtain⟨v,e1,e2⟩:=qn R (fun b o h _=>h) m2 hy
             obtain⟨_,w',e3,e4,e5⟩:=xp R k2 e2 hst;cases k2 with|ptr _ _ bb hbb=>
             cases m2 with|ptr _ _ cc hcc=>
             refine .inl ⟨.tuple #[],w',ν,ji hr ?_,VR.tup' .nil,e4,e5⟩;have hda:=pureRun_run w hda;have e1:=asp e1;have e3:(storeVar d ⟨bb,o+(ν.rm b).2,none⟩ v).run C.P w= .ok () w':=by simpa[Instr.storeAt,Instr.sureAddr] using e3
             show((do
              let(some (dst,a,fl),some (src,b,_)):=(← Extern.ReflectliteValue.parts (.agg #[.pointer (some ⟨C.P.globals.size,d,none⟩),.pointer (some ⟨bb,o+(ν.rm b).2,none⟩),.int .u64 (Int.ofNat fl)]),← Extern.ReflectliteValue.parts (.agg #[.pointer (some ⟨C.P.globals.size,s,none⟩),.pointer (some ⟨cc,p+(ν.rm c).2,none⟩),.int .u64 (Int.ofNat fl')]))
               |unsupported (.noEntry "extern/(internal/reflectlite.Value).Set.zeroValue")
              if fl / Extern.ReflectliteValue.flagAddr % 2==0 then unsupported (.noEntry "extern/(internal/reflectlite.Value).Set.unaddressable")
              let val ←loadVar src b
              if ←directlyAssignable dst src then storeVar dst a val
              else if ←implements dst src then
               if(← kind src)==20 then
                match val with
                | .nilIface=>unsupported (.noEntry "extern/reflectlite: a nil value of one interface type handed on as a value of another")
                |_=>storeVar dst a val
               else storeVar dst a (.iface src val)
              else panicString ("reflectlite.Set: value of type "++ (← spelt src)++" is not assignable to type "++ (← spelt dst))
              pure (.tuple #[])):Sem Value).run C.P w=_
             rw[Sem.run_bind,mp n1 q1,Result.andThen_ok,Sem.run_bind,mp n2 q2,Result.andThen_ok];have q5:(fl / Extern.ReflectliteValue.flagAddr % 2==0)=false:=by
              show(fl / 256 % 2==0)=false;rw[q3];rfl
             simp[q5,e1,hda,e3]
           · cases h
         · cases h
       · cases h
   · cases h
 · cases h
end
