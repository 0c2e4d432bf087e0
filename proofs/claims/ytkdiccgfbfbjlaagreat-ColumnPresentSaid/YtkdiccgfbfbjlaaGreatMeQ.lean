import Derived.Test.YtkdiccgfbfbjlaaGreatMeO
import Derived.Calls
import Derived.Tactics
namespace Go.Me
open Go
variable [Gam]
set_option linter.unusedSectionVars false
set_option linter.unusedSimpArgs false
set_option linter.unusedVariables false
def abi (C:Cfg) (base:Nat) (ν:Nm) (H:Hp) (w:World) (f:FuncId) (vs:Array Value) (x:M) (H':Hp):Prop:=
 Turns C base ν H w (fun w' z=>(callFunc f vs).run C.P w= .ok (.value z) w') x H'∨
 (callFunc f vs).run C.P w= .ok (.enter f vs) w∧Calls C.P f vs w fun e w'=>∃ v ν',e= .returned v∧VR ν' x v∧WR C base ν' H'.get H'.n w'∧St ν H.get H.n w ν' H'.get H'.n w'
def qt (C:Cfg) (call:FuncId→List M→Hp→Option (M×Hp)):Prop:=
 ∀ f args H x H',call f args H=some (x,H')→∀ base ν w vs,WR C base ν H.get H.n w→VRs ν args vs→abi C base ν H w f vs.toArray x H'
def MethOk (C:Cfg):Prop:=∀ t name f r,C.meth t name=some (f,r)→∀ v w,(r=none→(method (C.P.types.size+Made.depth) t v name).run C.P w= .ok (f,v) w)∧
 ∀ i cs u,r=some i→v= .agg cs→cs[i]? =some u→(method (C.P.types.size+Made.depth) t v name).run C.P w= .ok (f,u) w
section
variable {C:Cfg} {base:Nat} {ν:Nm} {g:Gt} {n:Nat} {w:World} {H:Hp} {s:Tr M} {a:Act} {call:FuncId→List M→Hp→Option (M×Hp)}
theorem mw {o:Oper} {f:FuncId} {vs:Array Value} {x:M} {H':Hp} (h:abi C base ν H w f vs x H') {next:Act→World→Prop} {Q:Exit→Act→World→Prop}
   (hn:∀ v w' ν',VR ν' x v→WR C base ν' H'.get H'.n w'→St ν H.get H.n w ν' H'.get H'.n w'→next (a.put o.dst v) w'):o.upon C.P a next Q ((callFunc f vs).run C.P w):=by
 rcases h with⟨v,w',ν',h1,h2,h3,h4⟩|⟨h1,h2⟩
 · rw[h1];exact hn v w' ν' h2 h3 h4
 · rw[h1]
   refine h2.mono fun e w' ⟨v,ν',he,h3,h4,h5⟩=> ?_
   subst he;exact hn v w' ν' h3 h4 h5
theorem ext1 (x:Value) (xs:Array Value):(#[x]++xs).extract 1 (#[x]++xs).size=xs:=by apply Array.ext';simp
theorem apv (hM:MethOk C) (hC:qt C call) (R:WR C base ν H.get H.n w) (S:SR ν s a) {o:Oper} {x:M} {H':Hp} (h:evEff C H s call o=some (x,H')) {next:Act→World→Prop} {Q:Exit→Act→World→Prop}
   (hn:∀ v w' ν',VR ν' x v→WR C base ν' H'.get H'.n w'→St ν H.get H.n w ν' H'.get H'.n w'→next (a.put o.dst v) w'):o.wp C.P a w next Q:=by
 have turns:∀ {q:Sem Value},execOp a.eval o=(do pure (.value (← q)))→Turns C base ν H w (fun w' z=>q.run C.P w= .ok z w') x H'→o.wp C.P a w next Q:=fun {q} e ⟨v,w',ν',h1,h2,h3,h4⟩=>by
   unfold Oper.wp;rw[bc e h1];exact hn v w' ν' h2 h3 h4
 have blt:∀ {b:Builtin} {as:Array Operand} {ts:Array TypeId},o.op= .call {callee:= .builtin b,args:=as,argTypes:=ts}→∀ {q:Sem Value},(∀ cs,builtin b ts o.type cs (as.toList.map a.eval).toArray=(do pure (.value (← q))))→Turns C base ν H w (fun w' z=>q.run C.P w= .ok z w') x H'→o.wp C.P a w next Q:=fun {b as ts} ho {q} e ⟨v,w',ν',h1,h2,h3,h4⟩=>by
   unfold Oper.wp;rw[ate (v:=v) (w':=w') ho (by rw[afb a.eval as,e _];simp[h1])]
   exact hn v w' ν' h2 h3 h4
 have skip:∀ {q:Sem Unit} {w':World},execOp a.eval o=(do q;pure .skip)→q.run C.P w= .ok () w'→x= .tup []→WR C base ν H'.get H'.n w'→St ν H.get H.n w ν H'.get H'.n w'→o.wp C.P a w next Q:=fun {q w'} e h1 h2 h3 h4=>by
   unfold Oper.wp;rw[e];simp only[Sem.run_bind,h1,Result.andThen_ok,Sem.run_pure];exact hn undef w' ν (by rw[h2];exact VR.tup' .nil) h3 h4
 unfold evEff at h;split at h
 · rename_i t A X ho
   split at h
   · rename_i p u hp hu
     obtain⟨e,w',h1,h2,h3⟩:=ash R (aj S hp) (aj S hu) h;exact skip (by simp only[execOp,ho]) h1 e h2 h3
   · cases h
 · rename_i t m k X ho
   split at h
   · rename_i u v y hu hv hy
     obtain⟨e,w',h1,h2,h3⟩:=aym R (aj S hu) (aj S hv) (aj S hy) h;exact skip (by simp only[execOp,ho]) h1 e h2 h3
   · cases h
 · rename_i t m k X ho
   split at h
   · rename_i u v y hu hv hy
     obtain⟨e,w',h1,h2,h3⟩:=aym R (aj S hu) (aj S hv) (aj S hy) h;exact skip (by simp only[execOp,ho]) h1 e h2 h3
   · cases h
 · rename_i b as ts ho
   split at h
   · rename_i y z hl
     have hv:=g8 S hl;obtain⟨u,r,e1,h1,h2⟩:=hv.inv_cons;obtain⟨v,r',e2,h3,h4⟩:=h2.inv_cons;rw[h4.inv_nil] at e2;rw[e2] at e1;split at h
     · refine blt ho (q:=Builtin.append_ ts o.type #[u,v]) (fun cs=>by rw[e1];rfl) ?_
       split at h
       · rename_i q hq
         cases h;exact ar5 R h1 h3 hq
       · exact ar7 R h1 h3 h
     · exact blt ho (q:=Builtin.copy_ ts o.type #[u,v]) (fun cs=>by rw[e1];rfl) (copyM_ok R h1 h3 h)
     · cases h
   · rename_i y hl
     have hv:=g8 S hl;obtain⟨u,r,e1,h1,h2⟩:=hv.inv_cons;rw[h2.inv_nil] at e1;split at h
     · exact blt ho (q:=Builtin.clear_ ts o.type #[u]) (fun cs=>by rw[e1];rfl) (azl R h1 h)
     · cases h
   · cases h
 · rename_i f as ts ho
   split at h
   · rename_i gf p q l hf hl
     have hv:=g8 S hl;obtain⟨vp,vq,ef,hp,hq⟩:=(aj S hf).fn_inv;have hall:=(hp.app hv).app hq;have:=hC gf (p++l++q) H x H' h base ν w _ R hall;unfold Oper.wp;have e:(execOp a.eval o).run C.P w=(callFunc gf (vp++as.toList.map a.eval++vq).toArray).run C.P w:=by
       simp only[execOp,ho,resolve,ef,Deferred.ofValue,Sem.run_bind,Sem.run_pure,Result.andThen_ok,invoke]
       congr 2
       apply Array.ext';simp
     rw[e];exact mw this hn
   · cases h
 · rename_i r name as ts ho
   split at h
   · rename_i t y l hr hl
     have hv:=g8 S hl;obtain⟨u,er,hu⟩:=(aj S hr).ifc_inv;have e:∀ {f:FuncId} {rv:Value},(method (C.P.types.size+Made.depth) t u name).run C.P w= .ok (f,rv) w→(execOp a.eval o).run C.P w=(callFunc f (rv::as.toList.map a.eval).toArray).run C.P w:=fun {f rv} hm=>by
       simp only[execOp,ho,resolve,er,Sem.run_bind,Sem.run_pure,Result.andThen_ok,invoke];have e0:(#[Value.iface t u]++as.map a.eval)[0]? =some (.iface t u):=by rw[Array.getElem?_append_left (by simp)];rfl
       rw[e0];simp only[callMethod,Sem.run_bind,run_program,Result.andThen_ok,hm,ext1];have e2: #[rv]++as.map a.eval=(rv::as.toList.map a.eval).toArray:=by apply Array.ext';simp
       rw[e2]
     split at h
     · rename_i gf hm
       obtain⟨m1,_⟩:=hM t name gf none hm u w;unfold Oper.wp;rw[e (m1 rfl)];exact mw (hC gf (y::l) H x H' h base ν w _ R (.cons hu hv)) hn
     · rename_i gf i hm
       obtain⟨_,m2⟩:=hM t name gf (some i) hm u w;split at h
       · rename_i cs
         split at h
         · rename_i z hz
           obtain⟨us,e1,h1⟩:=hu.agg_inv;obtain⟨v,h2,h3⟩:=h1.get hz;subst e1;unfold Oper.wp;rw[e (m2 i us.toArray v rfl rfl (by simpa using h2))]
           exact mw (hC gf (z::l) H x H' h base ν w _ R (.cons h3 hv)) hn
         · cases h
       · cases h
     · cases h
   · cases h
 · cases h
end
end Go.Me
namespace Go.Me
open Go
variable [Gam]
set_option linter.unusedSectionVars false
set_option linter.unusedSimpArgs false
set_option linter.unusedVariables false
section
variable {C:Cfg} {base:Nat} {ν:Nm} {g:Gt} {n N:Nat} {w:World} {H:Hp} {s:Tr M} {a:Act} {call:FuncId→List M→Hp→Option (M×Hp)}
theorem SR.put (S:SR ν s a) {d:Option Nat} {x:M} {v:Value} (hv:VR ν x v) {s':Tr M} (h:putM N s d x=some s') (hN:N≤a.tmps.size):SR ν s' (a.put d v):=by
 intro k y hk;unfold putM at h;split at h
 · cases h;exact S k y hk
 · rename_i j
   obtain⟨h1,h2⟩:=and1 h;cases h2;have h1:j<N:=by simpa[Nat.blt_eq] using h1
   rw[Tr.get_put] at hk;by_cases e:k=j
   · subst e
     rw[if_pos rfl] at hk;cases hk;have hlt:k<a.tmps.size:=by omega
     simpa[Act.put,hlt] using hv
   · rw[if_neg e] at hk
     have:=S k y hk;simpa[Act.put,Array.getD_eq_getD_getElem?,Array.getElem?_setIfInBounds_ne (Ne.symm e)] using this
theorem mo (a:Act) (d:Option Nat) (v:Value):(a.put d v).tmps.size=a.tmps.size:=by cases d<;>simp[Act.put]
theorem pm (a:Act) (d:Option Nat) (v:Value):(a.put d v).defers=a.defers:=by cases d<;>rfl
theorem ar9 {ops:Array Oper} {o:Oper} (S:∀ j want d,o.guard=some (j,want)→(ops[j]?).bind (·.dst)=some d→∀ x,s.get d=some x→VR ν x (a.tmps.getD d undef)) {b:Bool} (h:wantM ops s o=some b):Region.wanted o (yielded ops a.tmps)=b:=by
 unfold wantM at h;unfold Region.wanted;split at h
 · rename_i hg;cases h;rw[hg]
 · rename_i j want hg
   rw[hg];simp only;split at h
   · rename_i d hd
     have hy:yielded ops a.tmps j=match a.tmps[d]? with
        |some (.bool b)=>some b
        |_=>none:=by unfold yielded;rw[hd];rfl
     rw[hy];split at h
     · rename_i c hc
       cases h;have hr:=S j want d hg hd _ hc;rw[Array.getD_eq_getD_getElem?] at hr;cases hq:a.tmps[d]? with
       |none=>rw[hq] at hr;cases hr
       | some u=>
        rw[hq] at hr;cases hr;simp
     · cases h
     · rename_i x hx1 hx2 hx
       cases h;have hr:=S j want d hg hd _ hx;rw[Array.getD_eq_getD_getElem?] at hr;cases hq:a.tmps[d]? with
       |none=>simp
       | some u=>
        rw[hq] at hr;simp only[Option.getD_some] at hr;cases u<;>first|simp|skip
        rename_i bb;cases hr
        · exact absurd rfl (hx1 bb)
        · exact absurd rfl hx2
     · cases h
   · rename_i hd
     cases h;have hy:yielded ops a.tmps j=none:=by unfold yielded;rw[hd];rfl
     rw[hy];simp
theorem tc (hM:MethOk C) (hC:qt C call) {ops:Array Oper} {Q:Exit→Act→World→Prop}:∀ (l:List Oper) {st st':S} {ν:Nm} {a:Act} {w:World},evOps C call ops N l st=some st'→WR C base ν st.H.get st.H.n w→SR ν st.s a→N≤a.tmps.size→
  (∀ a' w' ν',WR C base ν' st'.H.get st'.H.n w'→SR ν' st'.s a'→N≤a'.tmps.size→a'.defers=a.defers→St ν st.H.get st.H.n w ν' st'.H.get st'.H.n w'→Q .normal a' w')→wpList C.P ops Q l a w
 | [],st,st',ν,a,w,h,R,S,hN,hQ=>by
  simp only[evOps,Option.some.injEq] at h;subst h;exact hQ a w ν R S hN rfl R.refl
 | o::r,st,st',ν,a,w,h,R,S,hN,hQ=>by
  unfold evOps at h;split at h
  · rename_i d H1 hd
    split at h
    · rename_i s1 hs1
      have next:∀ v w' ν',VR ν' d.val v→WR C base ν' H1.get H1.n w'→St ν st.H.get st.H.n w ν' H1.get H1.n w'→wpList C.P ops Q r (a.put o.dst v) w':=fun v w' ν' hv R' T=>by
        refine tc hM hC r h R' ((S.mono (T.le R)).put hv hs1 hN) (by rw[mo];exact hN) fun a' w'' ν'' R2 S2 hN2 hdf T2=>hQ a' w'' ν'' R2 S2 hN2 (by rw[hdf,pm]) (T.trans R T2)
      have wnt:∀ {b},wantM ops st.s o=some b→Region.wanted o (yielded ops a.tmps)=b:=fun hb=>ar9 (ν:=ν) (fun j want d _ _ x hx=>S d x hx) hb
      unfold wpList;unfold did at hd;split at hd
      · cases hd
      · rename_i hw
        cases hd;rw[if_neg (by rw[wnt hw];simp)]
        exact next undef w ν (VR.tup' .nil) R R.refl
      · rename_i hw
        rw[if_pos (wnt hw)];left;split at hd
        · rename_i x hx
          cases hd;obtain⟨v,w',h1,h2,h3,h4⟩:=aax R (fun b o h _=>h) S hx
          unfold Oper.wp;rw[h1];exact next v w' ν h2 h3 h4
        · split at hd
          · rename_i ob f hmk
            cases hd;obtain⟨w1,obj,v,ρ,h1,h2,h3,h4,h5,h6⟩:=ay7 (w:=w) S hmk;obtain⟨g1,g2⟩:=R.alloc h2 h3 h4;unfold Oper.wp;rw[h1];refine next v _ (ν.add st.H.n w.heap.size (ρ,0)) (h6 _ _ (Nm.add_same _ _ _ _) (Nm.rm_same _ _ _ _)) ?_ ?_
            · rw[dx];exact g1
            · rw[dx];exact g2
          · split at hd
            · rename_i x H' heff
              cases hd;exact apv hM hC R S heff fun v w' ν' h1 h2 h3=>next v w' ν' h1 h2 h3
            · cases hd
    · cases h
  · cases h
end
