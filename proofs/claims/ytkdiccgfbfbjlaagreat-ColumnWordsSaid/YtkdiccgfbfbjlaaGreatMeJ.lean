import Derived.Test.YtkdiccgfbfbjlaaGreatMeI
namespace Go.Me
open Go
variable [Gam]
set_option linter.unusedSectionVars false
set_option linter.unusedSimpArgs false
set_option linter.unusedVariables false
section
variable {C:Cfg} {base:Nat} {ν:Nm} {g:Gt} {n:Nat} {w:World} {H:Hp} {s:Tr M} {a:Act}
theorem ae4 (a b:List UInt8):((⟨a.toArray⟩:ByteArray)==⟨b.toArray⟩)=(a==b):=by
 have h:((⟨a.toArray⟩:ByteArray)==⟨b.toArray⟩)=(a.toArray==b.toArray):=rfl;rw[h];simp
theorem ad4 {d:TypeDesc} {k k':M} {u v:Value} (h1:VR ν k u) (h2:VR ν k' v) {r:Bool} (h:keyEq d k k'=some r):Instr.sameNow d u v=some r∧(r=true→u=v)∧Instr.sameBits 10000 u u=true:=by
 unfold keyEq at h;split at h
 · cases h1;cases h2
   split at h
   · obtain⟨e1,e2⟩:=and1 h
     cases e2;have e1:=of_decide_eq_true e1;subst e1;exact⟨by simp[Instr.sameNow],(fun e=>by simp at e;simp[e]),by simp[Instr.sameBits]⟩
   · cases h
 · cases h1;cases h2
   split at h
   · cases h
     exact⟨by simp only[Instr.sameNow,ae4],(fun e=>by simp at e;simp[e]),by simp[Instr.sameBits,ae4]⟩
   · cases h
 · cases h1;cases h2
   split at h
   · cases h
     exact⟨by simp[Instr.sameNow],(fun e=>by simp at e;simp[e]),by simp[Instr.sameBits]⟩
   · cases h
 · cases h
def ERs (ν:Nm) (es:List (M×M×Nat)) (en:List MapEntry):Prop:=es.length=en.length∧∀ (i:Nat) x y,es[i]? =some x→en[i]? =some y→VR ν x.1 y.key∧VR ν x.2.1 y.val∧x.2.2=y.born
theorem ERs.inv_cons {x:M×M×Nat} {es:List (M×M×Nat)} {en:List MapEntry} (h:ERs ν (x::es) en):∃ y r,en=y::r∧(VR ν x.1 y.key∧VR ν x.2.1 y.val∧x.2.2=y.born)∧ERs ν es r:=by
 cases en with
 |nil=>have:=h.1;simp at this
 |cons y r=>exact⟨y,r,rfl,h.2 0 x y rfl rfl,by have:=h.1;simpa using this,fun i p q h1 h2=>h.2 (i+1) p q (by simpa using h1) (by simpa using h2)⟩
theorem jq {d:TypeDesc} {k:M} {u:Value} (hk:VR ν k u):∀ {es:List (M×M×Nat)} {en:List MapEntry} (i:Nat) {r:Option (Nat×M)},ERs ν es en→findM d k es i=some r→
  (r=none∧Instr.findNow d u en i=some none)∨∃ j v y,r=some (j,v)∧Instr.findNow d u en i=some (some (j,y))∧VR ν v y∧i≤j∧∃ en',en[j-i]? =some en'∧en'.key=u∧en'.val=y∧Instr.sameBits 10000 u u=true
 | [],en,i,r,h,e=>by
  have:en=[]:=List.eq_nil_of_length_eq_zero h.1.symm;subst this;simp only[findM,Option.some.injEq] at e;subst e;exact .inl ⟨rfl,rfl⟩
 | (k',v,t)::es,en,i,r,h,e=>by
  obtain⟨y,q,rfl,⟨h1,h2,h3⟩,h4⟩:=h.inv_cons;unfold findM at e;split at e
  · rename_i hq
    cases e;obtain⟨g1,g2,g3⟩:=ad4 hk h1 hq;exact .inr ⟨i,v,y.val,rfl,by simp[Instr.findNow,g1],h2,Nat.le_refl _,y,by simp,(g2 rfl).symm,rfl,g3⟩
  · rename_i hq
    obtain⟨g1,g2,g3⟩:=ad4 hk h1 hq;rcases jq hk (i+1) h4 e with⟨e1,e2⟩|⟨j,v',y',e1,e2,e3,e4,en',e5,e6,e7⟩
    · exact .inl ⟨e1,by simp[Instr.findNow,g1,e2]⟩
    · refine .inr ⟨j,v',y',e1,by simp[Instr.findNow,g1,e2],e3,by omega,en',?_,e6,e7⟩
      rw[show j-i=(j-(i+1))+1 by omega]
      simpa using e5
  · cases e
theorem dn {kt:TypeId} {d:TypeDesc} (hd:und C kt=some d) (hp:plainKey d=true) (em:Bool) (v:Value):(Instr.checkKey em 10000 kt v).run C.P w= .ok () w:=by
 show(Instr.checkKey em (9999+1) kt v).run C.P w=_;unfold Instr.checkKey;simp only[Sem.run_bind,ab hd,Result.andThen_ok];cases d<;>simp[plainKey] at hp<;>cases v<;>rfl
theorem awu (R:WR C base ν g n w) (hs:∀ b o,H.get b=some o→o.live=true→g b=some o) {x:M} {u:Value} (hx:VR ν x u) {es:List (M×M×Nat)} (h:entries H x=some es):
   (u= .map none∧es=[])∨∃ c cl en,u= .map (some c)∧w.heap[c]? =some (.map (List.toArray en) cl)∧ERs ν es en:=by
 unfold entries at h;split at h
 · cases h;cases hx;exact .inl ⟨rfl,rfl⟩
 · rename_i b
   split at h
   · rename_i es' cl ho
     cases h;cases hx with|map _ c hb=>
     obtain⟨ob,q1,q2⟩:=R.ob b _ c (hs b _ ho rfl) rfl hb;cases q2 with|map _ _ en hl hh=>
     exact .inr ⟨c,cl,en,rfl,q1,hl,hh⟩
   · cases h
 · cases h
theorem ax6 (R:WR C base ν g n w) (hs:∀ b o,H.get b=some o→o.live=true→g b=some o) {t:TypeId} {x k r:M} {u v:Value} {ok:Bool} (hx:VR ν x u) (hk:VR ν k v) (h:lookM C H t x k ok=some r):
   ∃ z,(Instr.lookup t u v ok).run C.P w= .ok z w∧VR ν r z:=by
 unfold lookM at h;split at h
 · rename_i kt e hu
   split at h
   · rename_i d hd
     obtain⟨h1,h2⟩:=and1 h;split at h2
     · rename_i z es hz he
       obtain⟨zv,hz1,hz2⟩:=akj (w:=w) (ν:=ν) hz;have key:∀ en:List MapEntry,ERs ν es en→∃ q:Option (Nat×Value),(Instr.findKey kt v en).run C.P w= .ok q w∧((q=none∧r=(bif ok then .tup [z,.bool false] else z))∨∃ j y x',q=some (j,y)∧VR ν x' y∧r=(bif ok then .tup [x',.bool true] else x')):=fun en hen=>by
         split at h2
         · rename_i j x' hf
           cases h2;rcases jq hk 0 hen hf with⟨e1,e2⟩|⟨j',v',y',e1,e2,e3,_⟩
           · cases e1
           · cases e1;exact⟨_,MapKept.run_findKey hd e2,.inr ⟨j,y',x',rfl,e3,rfl⟩⟩
         · rename_i hf
           cases h2;rcases jq hk 0 hen hf with⟨e1,e2⟩|⟨j',v',y',e1,e2,e3,_⟩
           · exact⟨_,MapKept.run_findKey hd e2,.inl ⟨rfl,rfl⟩⟩
           · cases e1
         · cases h2
       have step:∀ (u:Value) (en:Array MapEntry),(u= .map none∧en= #[]∨∃ c cl,u= .map (some c)∧w.heap[c]? =some (.map en cl))→∀ q:Option (Nat×Value),(Instr.findKey kt v en.toList).run C.P w= .ok q w→
           (Instr.lookup t u v ok).run C.P w= .ok (match q with|some (_,v')=>(if ok then Value.tuple #[v',.bool true] else v')|none=>(if ok then Value.tuple #[zv,.bool false] else zv)) w:=by
         rintro u en hu' q hq
         have hes:(match u with
             | .map none=>pure #[]
             | .map (some r)=>(do
              let .map es _ ←getObj r|stuck "Lookup: map expected"
              pure es)
             |_=>stuck "Lookup: map expected": Sem (Array MapEntry)).run C.P w= .ok en w:=by
           rcases hu' with⟨rfl,rfl⟩|⟨c,cl,rfl,hc⟩
           · rfl
           · simp[MapKept.run_getObj_map hc]
         unfold Instr.lookup;simp only[Sem.run_bind,ab hu,Result.andThen_ok];rcases hu' with⟨rfl,rfl⟩|⟨c,cl,rfl,hc⟩
         · simp only[Sem.run_bind,Sem.run_pure,dn hd h1,Result.andThen_ok,hq]
           cases q with
           |none=>simp[hz1]
           |some p=>obtain⟨j,y⟩:=p;simp
         · simp only[Sem.run_bind,MapKept.run_getObj_map hc,Sem.run_pure,dn hd h1,Result.andThen_ok,hq]
           cases q with
           |none=>simp[hz1]
           |some p=>obtain⟨j,y⟩:=p;simp
       have vr:∀ q:Option (Nat×Value),((q=none∧r=(bif ok then .tup [z,.bool false] else z))∨∃ j y x',q=some (j,y)∧VR ν x' y∧r=(bif ok then .tup [x',.bool true] else x'))→
           VR ν r (match q with|some (_,v')=>(if ok then Value.tuple #[v',.bool true] else v')|none=>(if ok then Value.tuple #[zv,.bool false] else zv)):=by
         rintro q (⟨rfl,rfl⟩|⟨j,y,x',rfl,e2,rfl⟩)
         · cases ok
           · exact hz2
           · exact VR.tup' (.cons hz2 (.cons (.bool _) .nil))
         · cases ok
           · exact e2
           · exact VR.tup' (.cons e2 (.cons (.bool _) .nil))
       rcases awu R hs hx he with⟨rfl,rfl⟩|⟨c,cl,en,rfl,q1,q2⟩
       · obtain⟨q,p1,p2⟩:=key [] ⟨rfl,by simp⟩
         exact⟨_,step _ #[] (.inl ⟨rfl,rfl⟩) q p1,vr q p2⟩
       · obtain⟨q,p1,p2⟩:=key en q2
         exact⟨_,step _ en.toArray (.inr ⟨c,cl,rfl,q1⟩) q (by simpa using p1),vr q p2⟩
     · cases h2
   · cases h
 · cases h
theorem tf {l:List String} (h:Instr.least l=none):l=[]:=by cases l<;>simp_all [Instr.least]
theorem aim (want:Array (String×TypeId)) (got:Array Method):(Instr.missingMethod want got).isNone=want.toList.all fun p=>got.toList.any fun m=>m.name==p.1&&m.sig==p.2:=by
 have key:(Instr.missingMethod want got).isNone=(want.toList.filter fun(name,sig)=> !got.any fun m=>m.name==name&&m.sig==sig).isEmpty:=by
  unfold Instr.missingMethod;generalize(want.toList.filter fun(name,sig)=> !got.any fun m=>m.name==name&&m.sig==sig)=l
  cases l with
  |nil=>rfl
  | cons p r=>
   simp only[List.partition_eq_filter_filter,List.isEmpty_cons];rw[Option.isNone_eq_false_iff,Option.isSome_iff_ne_none];intro h;rw[Option.orElse_eq_orElse,Option.orElse_eq_or,Option.or_eq_none_iff] at h;have h1:=tf h.1;have h2:=tf h.2;rw[List.map_eq_nil_iff] at h2;rw[List.filter_eq_nil_iff] at h1 h2;have a1:=h1 p.1 (by simp)
   have a2:=h2 p.1 (by simp)
   simp only[Function.comp_apply] at a1;cases hc:p.1.contains '.'<;>rw[hc] at a1 a2<;>first|exact a1 rfl|exact a2 rfl
 rw[key];generalize want.toList=w
 induction w with
 |nil=>rfl
 | cons p r ih=>
  rw[List.filter_cons,List.all_cons,← ih];have:(got.any fun m=>m.name==p.1&&m.sig==p.2)=got.toList.any fun m=>m.name==p.1&&m.sig==p.2:=by rw[Array.any_toList]
  simp only[this];cases got.toList.any fun m=>m.name==p.1&&m.sig==p.2<;>simp
theorem tc {C:Cfg} {want:Array (String×TypeId)} {t:TypeId} {i:TypeInfo} (h:C.P.info? t=some i):methsOk C want t=some (Instr.missingMethod want i.methods).isNone:=by
 rw[aim];simp[methsOk,h]
theorem ax4 {x r:M} {u:Value} {xt t:TypeId} {ok:Bool} (hx:VR ν x u) (h:tassM C x xt t ok=some r):∃ v,(Instr.typeAssert u xt t ok).run C.P w= .ok v w∧VR ν r v:=by
 have zs:∀ {z:M},zero C t=some z→∃ zv,(zeroValue t).run C.P w= .ok zv w∧VR ν (.tup [z,.bool false]) (.tuple #[zv,.bool false]):=fun {z} hz=>by
   obtain⟨zv,h1,h2⟩:=akj (w:=w) (ν:=ν) hz;exact⟨zv,h1,VR.tup' (.cons h2 (.cons (.bool _) .nil))⟩
 have hold:∀ {y:M} {v:Value},VR ν y v→VR ν (bif ok then .tup [y,.bool true] else y) (if ok then .tuple #[v,.bool true] else v):=fun {y v} hv=>by
   cases ok
   · exact hv
   · exact VR.tup' (.cons hv (.cons (.bool _) .nil))
 unfold tassM at h;split at h
 · rename_i want hu
   split at h
   · rename_i f y
     obtain⟨v,rfl,hv⟩:=hx.ifc_inv;cases hi:C.P.info? f with
     |none=>simp[methsOk,hi] at h
     | some i=>
       cases hm:Instr.missingMethod want i.methods with
       | none=>
         simp only[tc hi,hm,Option.isNone_none,Option.some.injEq] at h;subst h;refine⟨_,?_,hold hx⟩;simp[Instr.typeAssert,ab hu,typeInfo,hi,hm]
       | some m=>
         simp only[tc hi,hm,Option.isNone_some] at h;obtain⟨h1,h2⟩:=and1 h;split at h2
         · rename_i z hz
           cases h2;obtain⟨zv,q1,q2⟩:=zs hz;subst h1;exact⟨_,by simp[Instr.typeAssert,ab hu,typeInfo,hi,hm,q1],q2⟩
         · cases h2
   · obtain⟨h1,h2⟩:=and1 h
     cases hx;split at h2
     · rename_i z hz
       cases h2;obtain⟨zv,q1,q2⟩:=zs hz;subst h1;exact⟨_,by simp[Instr.typeAssert,ab hu,q1],q2⟩
     · cases h2
   · cases h
 · rename_i d hd hu
   split at h
   · rename_i f y
     obtain⟨v,rfl,hv⟩:=hx.ifc_inv;cases e:f==t
     · rw[e] at h
       simp only[cond_false] at h;obtain⟨h1,h2⟩:=and1 h;have hne:f≠t:=by simpa using e
       split at h2
       · rename_i z hz
         cases h2;obtain⟨zv,q1,q2⟩:=zs hz;subst h1;refine⟨_,?_,q2⟩;cases d<;>first| (exact(hd _ rfl).elim)|simp[Instr.typeAssert,ab hu,hne,q1]
       · cases h2
     · rw[e] at h
       simp only[cond_true,Option.some.injEq] at h;subst h;have hne:f=t:=by simpa using e
       refine⟨_,?_,hold hv⟩;cases d<;>first| (exact(hd _ rfl).elim)|simp[Instr.typeAssert,ab hu,hne]
   · obtain⟨h1,h2⟩:=and1 h
     cases hx;split at h2
     · rename_i z hz
       cases h2;obtain⟨zv,q1,q2⟩:=zs hz;subst h1;refine⟨_,?_,q2⟩;cases d<;>first| (exact(hd _ rfl).elim)|simp[Instr.typeAssert,ab hu,q1]
     · cases h2
   · cases h
 · cases h
theorem run_lenM (R:WR C base ν g n w) (hs:∀ b o,H.get b=some o→o.live=true→g b=some o) {t ty:TypeId} {x r:M} {u:Value} (hx:VR ν x u) (h:lenM C H t x=some r):
   ∃ v,(Builtin.len_ #[t] ty #[u]).run C.P w= .ok v w∧VR ν r v:=by
 unfold lenM at h;split at h
 · rename_i hu;cases h;cases hx;exact⟨_,by simp[Builtin.len_,ab hu,goInt],.int _ _⟩
 · rename_i hu;cases h;cases hx;exact⟨_,by simp[Builtin.len_,ab hu,goInt],.int _ _⟩
 · rename_i hu;cases h;cases hx;exact⟨_,by simp[Builtin.len_,ab hu,goInt],.int _ _⟩
 · rename_i hu;cases h;cases hx;exact⟨_,by simp[Builtin.len_,ab hu,goInt],.int _ _⟩
 · rename_i l hu
   cases h;cases hx;have e:(⟨l.toArray⟩:ByteArray).size=l.length:=rfl;exact⟨.int .i64 l.length,by simp only[Builtin.len_,List.getElem?_toArray,List.getElem?_cons_zero,Sem.run_bind,ab hu,Result.andThen_ok,Sem.run_pure,goInt,e],.int _ _⟩
 · rename_i b _ _ hu
   split at h
   · rename_i es cl ho
     cases h;cases hx with|map _ c hb=>
     obtain⟨ob,q1,q2⟩:=R.ob b _ c (hs b _ ho rfl) rfl hb;cases q2 with|map _ _ en hl hh=>
     exact⟨.int .i64 es.length,by simp[Builtin.len_,ab hu,MapKept.run_getObj_map q1,goInt,hl],.int _ _⟩
   · cases h
 · rename_i hu;cases h;cases hx;exact⟨_,by simp[Builtin.len_,ab hu,goInt],.int _ _⟩
 · rename_i hu
   split at h
   · rename_i hu2;cases h;cases hx;exact⟨_,by simp[Builtin.len_,ab hu,ab hu2,goInt],.int _ _⟩
   · cases h
 · rename_i hu;cases h;cases hx;exact⟨_,by simp[Builtin.len_,ab hu,goInt],.int _ _⟩
 · cases h
theorem run_capM {t ty:TypeId} {x r:M} {u:Value} (hx:VR ν x u) (h:capM C t x=some r):∃ v,(Builtin.cap_ #[t] ty #[u]).run C.P w= .ok v w∧VR ν r v:=by
 unfold capM at h;split at h
 · rename_i hu
   cases h;cases hx with|sl _ _ _ _ c cap hb hc hk hr=>
   have:=hk _ rfl;subst this;exact⟨_,by simp[Builtin.cap_,ab hu,goInt],.int _ _⟩
 · rename_i hu;cases h;cases hx;exact⟨_,by simp[Builtin.cap_,ab hu,goInt],.int _ _⟩
 · cases h
theorem ax5 (R:WR C base ν g n w) (hs:∀ b o,H.get b=some o→o.live=true→g b=some o) {b:Builtin} {ts:Array TypeId} {t:TypeId} {cs:Array Bool} {l:List M} {vs:List Value} {r:M} (hl:VRs ν l vs) (h:pureB C H b ts t l=some r):
   ∃ v,(builtin b ts t cs vs.toArray).run C.P w= .ok (.value v) w∧VR ν r v:=by
 have arr1:∀ {u:TypeId},ts[0]? =some u→ts= #[u]∨∃ rest,True:=fun _=> .inr ⟨(),trivial⟩
 unfold pureB at h;split at h
 · split at h
   · rename_i x u hu
     obtain⟨v,q,rfl,hv,hq⟩:=hl.inv_cons;rw[hq.inv_nil];obtain⟨z,h1,h2⟩:=run_lenM (w:=w) (t:=u) (ty:=t) R hs hv h;refine⟨z,?_,h2⟩;have e:(Builtin.len_ ts t #[v])=Builtin.len_ #[u] t #[v]:=by simp[Builtin.len_,hu]
     simp[builtin,e,h1]
   · cases h
 · split at h
   · rename_i x u hu
     obtain⟨v,q,rfl,hv,hq⟩:=hl.inv_cons;rw[hq.inv_nil];obtain⟨z,h1,h2⟩:=run_capM (C:=C) (w:=w) (t:=u) (ty:=t) hv h;refine⟨z,?_,h2⟩;have e:(Builtin.cap_ ts t #[v])=Builtin.cap_ #[u] t #[v]:=by simp[Builtin.cap_,hu]
     simp[builtin,e,h1]
   · cases h
 · unfold dataB at h
   split at h
   · rename_i us hus
     rw[hl.toVs hus];split at h
     · split at h
       · rename_i z hz
         exact⟨z,by simp[builtin,pureRun_run w hz],gh h⟩
       · cases h
     · split at h
       · rename_i z hz
         exact⟨z,by simp[builtin,pureRun_run w hz],gh h⟩
       · cases h
     · cases h
   · cases h
theorem ajv {β:Type} (f:Operand→β) (p:Array Operand):p.map f=(p.toList.map f).toArray:=by apply Array.ext';simp
theorem ayc {P:Program} {o:Oper} {b:Builtin} {as:Array Operand} {ts:Array TypeId} (ho:o.op= .call {callee:= .builtin b,args:=as,argTypes:=ts}) {v:Value} {w':World}
  (h:(builtin b ts o.type (as.map fun| .const _=>true|_=>false) (as.map a.eval)).run P w= .ok (.value v) w'):(execOp a.eval o).run P w= .ok (.value v) w':=by
 rw[← h];simp only[execOp,ho,resolve];rfl
theorem bg {P:Program} {q:Sem Value} {o:Oper} {v:Value} {w':World} (e:execOp a.eval o=(do pure (.value (← q)))) (h:q.run P w= .ok v w'):(execOp a.eval o).run P w= .ok (.value v) w':=by
 rw[e];simp[h]
theorem aen (R:WR C base ν g n w) (hs:∀ b o,H.get b=some o→o.live=true→g b=some o) (S:SR ν s a) {o:Oper} {x:M} (h:evPure C H s o=some x):
   ∃ v w',(execOp a.eval o).run C.P w= .ok (.value v) w'∧VR ν x v∧WR C base ν g n w'∧St ν g n w ν g n w':=by
 have same:∀ {v},(execOp a.eval o).run C.P w= .ok (.value v) w→VR ν x v→∃ v w',(execOp a.eval o).run C.P w= .ok (.value v) w'∧VR ν x v∧WR C base ν g n w'∧St ν g n w ν g n w':=fun {v} h1 h2=>⟨v,w,h1,h2,R,R.refl⟩
 unfold evPure at h;split at h
 · rename_i X ho;exact same (by simp[execOp,ho]) (ai S h)
 · rename_i X ho;exact same (by simp[execOp,ho]) (ai S h)
 · rename_i c A B ho
   split at h
   · rename_i hc
     have:=ai S hc;generalize e:a.eval c=u at this;cases this;exact same (v:=a.eval A) (by simp[execOp,ho,e,asBool]) (ai S h)
   · rename_i hc
     have:=ai S hc;generalize e:a.eval c=u at this;cases this;exact same (v:=a.eval B) (by simp[execOp,ho,e,asBool]) (ai S h)
   · cases h
 · rename_i t A ho
   split at h
   · rename_i p hp
     obtain⟨v,h1,h2⟩:=yf R hs (ai S hp) h;exact same (bg (by simp only[execOp,ho]) h1) h2
   · cases h
 · rename_i X ho
   split at h
   · rename_i hX
     cases h;have:=ai S hX;generalize e:a.eval X=u at this;cases this with|ptr _ _ c hb=>exact same (by simp[execOp,ho,e]) (.ptr _ _ c hb)
   · rename_i hX
     cases h;have:=ai S hX;generalize e:a.eval X=u at this;cases this;exact same (by simp[execOp,ho,e]) (.glob _ _)
   · rename_i hX
     cases h;have:=ai S hX;generalize e:a.eval X=u at this;cases this;exact same (by simp[execOp,ho,e]) (.vg _ _)
   · rename_i f p q hX
     cases h;have:=ai S hX;generalize e:a.eval X=u at this;have h2:=this;cases this;exact same (by simp[execOp,ho,e]) h2
   · rename_i t y hX
     cases h;have:=ai S hX;generalize e:a.eval X=u at this;have h2:=this;cases this;exact same (by simp[execOp,ho,e]) h2
   · cases h
 · rename_i op t X Y ho
   split at h
   · rename_i u v hu hv
     obtain⟨z,h1,h2⟩:=run_binM (w:=w) (ai S hu) (ai S hv) h;exact same (bg (by simp only[execOp,ho]) h1) h2
   · cases h
 · rename_i op t X ho
   split at h
   · rename_i u hu
     split at h
     · rename_i v hv
       split at h
       · rename_i z hz
         refine same (bg (q:=Op.unary op (a.eval X)) (by simp only[execOp,ho]) ?_) (gh h)
         rw[(ai S hu).toV hv];exact pureRun_run w hz
       · cases h
     · cases h
   · cases h
 · rename_i src dst X ho
   split at h
   · rename_i u hu
     obtain⟨v,w',h1,h2,h3,h4⟩:=ayb R hs (ai S hu) h;exact⟨v,w',by simp[execOp,ho,h1],h2,h3,h4⟩
   · cases h
 · rename_i t X ho
   split at h
   · rename_i u hu
     split at h
     · cases h
     · rename_i d hd hn
       cases h;refine same (v:= .iface t (a.eval X)) (bg (q:=Instr.makeInterface t (a.eval X)) (by simp only[execOp,ho]) ?_) (.ifc _ _ _ (ai S hu))
       simp only[Instr.makeInterface,Sem.run_bind,ab hn,Result.andThen_ok];cases d<;>first| (exact(hd _ hn).elim)|rfl
     · cases h
   · cases h
 · rename_i f p q ho
   split at h
   · rename_i l m hl hm
     cases h;have h1:=i8 S hl;have h2:=i8 S hm;refine same (v:= .func (.func f) (p.toList.map a.eval).toArray (q.toList.map a.eval).toArray) (bg (q:=Instr.makeFunc (.func f) (p.map a.eval) (q.map a.eval)) (by simp only[execOp,ho]) ?_) (.fn _ _ _ _ _ h1.1 h2.1 h1.2 h2.2)
     simp only[Instr.makeFunc,ajv];rfl
   · cases h
 · rename_i t ps ho
   split at h
   · rename_i l hl
     obtain⟨q1,q2⟩:=qe S hl;obtain⟨v,h1,h2⟩:=avp (C:=C) (w:=w) (us:=ps.map fun(i,x)=>(i,a.eval x)) (by simpa using q1) (fun i x u e1 e2=>q2 i x u e1 (by simpa using e2)) h
     exact same (bg (by simp only[execOp,ho]) h1) h2
   · cases h
 · rename_i t X lo hi mx ho
   split at h
   · rename_i u l q m hu hl hq hm
     have v1:=afg S hl;have v2:=afg S hq;have v3:=afg S hm;have v0:=ai S hu;have strC:∀ y,u= .str y→sliceS C t u l q m=some x→∃ v,(Instr.sliceAt t (a.eval X) (lo.map a.eval) (hi.map a.eval) (mx.map a.eval)).run C.P w= .ok v w∧VR ν x v:=fun y e hq=>by
       have ov:∀ {o:Option M} {p:Option Value},VO ν o p→∀ {r:Option Value},optV o=some r→p=r:=fun {o p} ho {r} he=>by
         cases ho with
         |none=>simpa[optV] using he
         | some y v hv=>
           unfold optV at he;simp only at he;split at he
           · rename_i v' hv'
             cases he;rw[hv.toV hv']
           · cases he
       unfold sliceS at hq;split at hq
       · rename_i e1 e2 e3 e4
         rw[v0.toV e1,ov v1 e2,ov v2 e3,ov v3 e4];split at hq
         · rename_i z hz
           exact⟨z,pureRun_run w hz,gh hq⟩
         · cases hq
       · cases hq
     have fin:∀ v,(Instr.sliceAt t (a.eval X) (lo.map a.eval) (hi.map a.eval) (mx.map a.eval)).run C.P w= .ok v w→VR ν x v→_:=fun v h1 h2=>same (v:=v) (bg (by simp only[execOp,ho]) h1) h2
     split at h
     · rename_i y
       obtain⟨v,h1,h2⟩:=strC y rfl h;exact fin v h1 h2
     · obtain⟨v,h1,h2⟩:=avl (w:=w) v0 v1 v2 v3 h
       exact fin v h1 h2
   · cases h
 · rename_i t X f ho
   split at h
   · rename_i u hu
     obtain⟨v,h1,h2⟩:=afp (w:=w) (ai S hu) h;exact same (bg (by simp only[execOp,ho]) h1) h2
   · cases h
 · rename_i t X f ho
   split at h
   · rename_i u hu
     obtain⟨v,h1,h2⟩:=avo (w:=w) (ai S hu) h;exact same (bg (by simp only[execOp,ho]) h1) h2
   · cases h
 · rename_i t X I ho
   split at h
   · rename_i u v hu hv
     obtain⟨z,h1,h2⟩:=ax7 (w:=w) (ai S hu) (ai S hv) h;exact same (bg (by simp only[execOp,ho]) h1) h2
   · cases h
 · rename_i t X I ho
   split at h
   · rename_i u v hu hv
     obtain⟨z,h1,h2⟩:=run_idxM (w:=w) (ai S hu) (ai S hv) h;exact same (bg (by simp only[execOp,ho]) h1) h2
   · cases h
 · rename_i t X I ok ho
   split at h
   · rename_i u v hu hv
     obtain⟨z,h1,h2⟩:=ax6 R hs (ai S hu) (ai S hv) h;exact same (bg (by simp only[execOp,ho]) h1) h2
   · cases h
 · rename_i X xt t ok ho
   split at h
   · rename_i u hu
     obtain⟨v,h1,h2⟩:=ax4 (w:=w) (ai S hu) h;exact same (bg (by simp only[execOp,ho]) h1) h2
   · cases h
 · rename_i X i ho
   split at h
   · rename_i l hl
     have:=ai S hl;generalize e:a.eval X=u at this;obtain⟨vs,rfl,hv⟩:=this.tup_inv;obtain⟨v,h1,h2⟩:=hv.get h;exact same (bg (q:=Instr.extract (a.eval X) i) (by simp only[execOp,ho]) (by rw[e];simp[Instr.extract,h1])) h2
   · cases h
 · rename_i b as ts ho
   split at h
   · rename_i l hl
     have hv:=i8 S hl;obtain⟨v,h1,h2⟩:=ax5 (cs:=as.map fun| .const _=>true|_=>false) R hs hv h
     refine same (ayc ho ?_) h2;rw[← h1,ajv a.eval as]
   · cases h
 · cases h
end
