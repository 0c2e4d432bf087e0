import Derived.Test.YtkdiccgfbfbjlaaGreatMeN
import Derived.Calls
import Derived.Tactics
namespace Go.Me
open Go
variable [Gam]
set_option linter.unusedSectionVars false
set_option linter.unusedSimpArgs false
set_option linter.unusedVariables false
section
variable {C:Cfg} {base:Nat} {ν:Nm} {g:Gt} {n:Nat} {w:World} {H:Hp} {s:Tr M} {a:Act}
theorem copyM_ok (R:WR C base ν H.get H.n w) {ts:Array TypeId} {ty:TypeId} {x y r:M} {u v:Value} (hx:VR ν x u) (hy:VR ν y v) {H':Hp} (h:copyM C H ts x y=some (r,H')):
   Turns C base ν H w (fun w' z=>(Builtin.copy_ ts ty #[u,v]).run C.P w= .ok z w') r H':=by
 unfold copyM at h;split at h
 · rename_i t ht0
   split at h
   · rename_i e hu
     have eargs:Builtin.copy_ ts ty #[u,v]=Builtin.copy_ #[t] ty #[u,v]:=by simp[Builtin.copy_,ht0]
     rw[eargs];split at h
     · rename_i z m b o k c hz hm
       cases hx with|sl _ _ _ _ cb cap hb hc hk hr=>
       split at h
       · cases h
       · rename_i hns
         split at h
         · rename_i ys hys
           split at h
           · rename_i H1 hH
             cases h;have hmin:∃ news:List Value,(∀ w',(Builtin.lenOf v).run C.P w'= .ok m w')∧(∀ w',w'.heap=w.heap→(Builtin.firstCells z (Nat.min m k) v).run C.P w'= .ok news.toArray w')∧VRs ν (ys.take (Nat.min m k*z)) news:=by
              cases y<;>first| (simp[argLen] at hm;done)|skip
              · exact absurd rfl (hns _)
              · rename_i b' o' k' c'
                cases hy with|sl _ _ _ _ d cap' hb' hc' hk' hr'=>
                simp only[argLen,Option.some.injEq] at hm;subst hm;simp only[argCells] at hys;obtain⟨vs,q1,q2,q3⟩:=R.rds (H:=H) (fun b o h _=>h) hb' (k'*z) o' hys
                refine⟨vs.take (Nat.min k' k*z),fun w'=>rfl,fun w' hw=> ?_,q2.take _⟩
                simp only[Builtin.firstCells];have:=je (P:=C.P) (w:=w') (c:=d) (i:=o'+(ν.rm b').2) (vs:=vs.take (Nat.min k' k*z)) fun j v hv=>by
                 rw[kg hw];rw[List.getElem?_take] at hv;split at hv
                 · exact q3 j v hv
                 · cases hv
                rw[List.length_take,q1,Nat.min_eq_left (Nat.mul_le_mul_right _ (Nat.min_le_left _ _))] at this;exact this
              · cases hy
                simp only[argLen,Option.some.injEq] at hm;simp only[argCells,Option.some.injEq] at hys;subst hm;subst hys;exact⟨[],fun w'=>rfl,fun w' _=>by simp[Builtin.firstCells,loadCells,loadCellsFrom],by simpa using VRs.nil⟩
              · cases hy
                simp only[argLen,Option.some.injEq] at hm;simp only[argCells,Option.some.injEq] at hys;subst hm;subst hys;exact⟨[],fun w'=>rfl,fun w' _=>rfl,by simpa using VRs.nil⟩
             obtain⟨news,s1,s2,s3⟩:=hmin;obtain⟨g1,g2,g3,g4,g5,g6⟩:=wr_ok R hb s3 hH;have hst:=run_storeCells_cells (P:=C.P) cb (o+(ν.rm b).2) news 0 w (by simpa using g2) (by simpa using g3) g4
             simp only[Nat.add_zero] at hst;refine⟨goInt (Nat.min m k:Nat),_,ν,?_,.int _ _,g5,g6⟩;simp only[Builtin.copy_,List.getElem?_toArray,List.getElem?_cons_zero,List.getElem?_cons_succ,Sem.run_bind,ab hu,Result.andThen_ok,s1,aw hz,Sem.run_pure];rw[s2 w rfl];simp only[Result.andThen_ok,hst,Sem.run_bind,Sem.run_pure]
           · cases h
         · cases h
     · cases h
   · cases h
 · cases h
theorem ui {z:List M} {zs:Array Value} (h:VRs ν z zs.toList) (n:Nat):VRs ν (rep z n) (Builtin.zeroCells zs n).toList:=by
 have:=rep_vr h n;unfold Builtin.zeroCells;exact this
theorem a4m (R:WR C base ν H.get H.n w) {ts:Array TypeId} {ty:TypeId} {x r:M} {u:Value} (hx:VR ν x u) {H':Hp} (h:clearM C H ts x=some (r,H')):
   Turns C base ν H w (fun w' z=>(Builtin.clear_ ts ty #[u]).run C.P w= .ok z w') r H':=by
 unfold clearM at h;split at h
 · rename_i t ht0
   split at h
   · rename_i e hu
     have eargs:Builtin.clear_ ts ty #[u]=Builtin.clear_ #[t] ty #[u]:=by simp[Builtin.clear_,ht0]
     rw[eargs];split at h
     · rename_i z b o k c hz
       cases hx with|sl _ _ _ _ cb cap hb hc hk hr=>
       split at h
       · rename_i H1 hH
         cases h;obtain⟨i,v,h1,h2,h3,h4⟩:=lr (ν:=ν) hz;have hv:=ui h4 k;obtain⟨g1,g2,g3,g4,g5,g6⟩:=wr_ok R hb hv hH;have hst:=run_storeCells_cells (P:=C.P) cb (o+(ν.rm b).2) (Builtin.zeroCells v.cells k).toList 0 w (by simpa using g2) (by simpa using g3) g4
         simp only[Nat.add_zero] at hst;have hzv:(zeroValue e).run C.P w= .ok v w:=by simp[zeroValue,typeInfo,h1,h2]
         by_cases hk0:k=0
         · subst hk0
           have e0:(Builtin.zeroCells v.cells 0).toList=[]:=by simp[Builtin.zeroCells]
           rw[e0] at g5 g6;refine⟨.tuple #[],w,ν,?_,VR.tup' .nil,g5,g6⟩;simp[Builtin.clear_,ab hu]
         · refine⟨.tuple #[],_,ν,?_,VR.tup' .nil,g5,g6⟩
           obtain⟨k',rfl⟩:=Nat.exists_eq_succ_of_ne_zero hk0;simp only[Builtin.clear_,List.getElem?_toArray,List.getElem?_cons_zero,Sem.run_bind,ab hu,Result.andThen_ok,hzv];rw[hst];rfl
       · cases h
     · cases h
       cases hx;exact⟨.tuple #[],w,ν,by simp[Builtin.clear_,ab hu],VR.tup' .nil,R,R.refl⟩
     · cases h
       cases hx;exact⟨.tuple #[],w,ν,by simp[Builtin.clear_,ab hu],VR.tup' .nil,R,R.refl⟩
     · cases h
   · cases h
 · cases h
theorem axf (R:WR C base ν H.get H.n w) {t:TypeId} {p x r:M} {u v:Value} (hp:VR ν p u) (hx:VR ν x v) {H':Hp} (h:storeM C H t p x=some (r,H')):
   r= .tup []∧∃ w',(Instr.storeAt t u v).run C.P w= .ok () w'∧WR C base ν H'.get H'.n w'∧St ν H.get H.n w ν H'.get H'.n w':=by
 unfold storeM at h;split at h
 · rename_i b o
   cases hp with|ptr _ _ cb hb=>
   split at h
   · rename_i z hz
     obtain⟨h1,hh⟩:=and1 h;have h1:x.cells.length=z:=by simpa using h1
     split at hh
     · rename_i H1 hH
       cases hh;by_cases hall:x.cells.all M.cell=true
       · have hv:=hx.cells hall
         obtain⟨g1,g2,g3,g4,g5,g6⟩:=wr_ok R hb hv hH;have hst:=run_storeCells_cells (P:=C.P) cb (o+(ν.rm b).2) v.cells.toList 0 w (by simpa using g2) (by simpa using g3) g4
         simp only[Nat.add_zero] at hst;have hsz:v.cells.size=z:=by have:=hv.1;simp at this;omega
         refine⟨rfl,_,?_,g5,g6⟩;simp only[Instr.storeAt,Instr.sureAddr,Sem.run_bind,Sem.run_pure,Result.andThen_ok,storeVar,aw hz,hsz,ne_eq,not_true_eq_false,if_false];exact hst
       ·
         exfalso;unfold Hp.wr at hH;split at hH
         · split at hH
           · rename_i o' ho'
             rcases pn _ _ ho' with⟨e,_⟩|⟨_,_,_,_,_,_,_,_,e,_⟩
             · rw[e] at hall;simp at hall
             · exact hall e
           · cases hH
         · cases hH
     · cases hh
   · cases h
 · cases h
theorem a3g (R:WR C base ν H.get H.n w) {t:TypeId} {x k y r:M} {u v z:Value} (hx:VR ν x u) (hk:VR ν k v) (hy:VR ν y z) {H':Hp} (h:insM C H t x k y=some (r,H')):
   r= .tup []∧∃ w',(Instr.mapUpdate t u v z).run C.P w= .ok () w'∧WR C base ν H'.get H'.n w'∧St ν H.get H.n w ν H'.get H'.n w':=by
 unfold insM at h;split at h
 · rename_i kt e hu
   split at h
   · rename_i d hd
     obtain⟨h1,hh⟩:=and1 h;split at hh
     · rename_i b
       cases hx with|map _ c hb=>
       split at hh
       · rename_i es cl ho
         split at hh
         · rename_i es' cl' hms
           obtain⟨h2,hh2⟩:=and1 hh;cases hh2;obtain⟨ob,q1,q2⟩:=R.ob b _ c ho rfl hb;cases q2 with|map _ _ en hl hen=>
           have key:∃ en':List MapEntry,(Instr.mapUpdate t (.map (some c)) v z).run C.P w= .ok () {w with heap:=w.heap.setIfInBounds c (.map en'.toArray cl')}∧ERs ν es' en':=by
             unfold mapSet at hms;have hERs:ERs ν es en:=⟨hl,hen⟩;split at hms
             · rename_i i x' hf
               cases hms;rcases jq hk 0 hERs hf with⟨e1,e2⟩|⟨j',v',y',e1,e2,e3,e4,en0,e5,e6,e7,e8⟩
               · cases e1
               · cases e1
                 simp only[Nat.sub_zero] at e5;have hfk:=MapKept.run_findKey (P:=C.P) (w:=w) (kt:=kt) hd e2;have hsame:(Instr.keyThatStays v v).run C.P w= .ok v w:=by
                   simp[Instr.keyThatStays,e8]
                 refine⟨en.modify i fun e=>{e with key:=v,val:=z},?_,?_⟩
                 · simp only[Instr.mapUpdate,Sem.run_bind,ab hu,Result.andThen_ok,MapKept.run_getObj_map q1,dn hd h1,hfk]
                   have e9:(((en.toArray)[i]?).map (·.key)).getD v=v:=by simp[e5,e6]
                   rw[e9,hsame];simp only[Result.andThen_ok,MapKept.run_setObj_map _ q1]
                   congr 3
                   simp
                 · refine⟨by simp[hl],fun q p1 p2 g1 g2=> ?_⟩
                   rw[List.getElem?_modify] at g1 g2;by_cases e:i=q
                   · subst e
                     cases ha:es[i]? with
                     |none=>simp[ha] at g1
                     | some a1=>
                      cases hb1:en[i]? with
                      |none=>simp[hb1] at g2
                      | some b1=>
                       simp[ha] at g1;simp[hb1] at g2;subst g1;subst g2;exact⟨hk,hy,(hen i a1 b1 ha hb1).2.2⟩
                   · simp[e] at g1 g2
                     exact hen q p1 p2 g1 g2
             · rename_i hf
               cases hms;rcases jq hk 0 hERs hf with⟨e1,e2⟩|⟨j',v',y',e1,e2,e3,_⟩
               · have hfk:=MapKept.run_findKey (P:=C.P) (w:=w) (kt:=kt) hd e2
                 refine⟨en++[{key:=v,val:=z,born:=cl}],?_,by simp[hl],fun q p1 p2 g1 g2=> ?_⟩
                 · simp only[Instr.mapUpdate,Sem.run_bind,ab hu,Result.andThen_ok,MapKept.run_getObj_map q1,dn hd h1,hfk,MapKept.run_setObj_map _ q1]
                   congr 3
                   simp
                 · by_cases e:q<es.length
                   · rw[List.getElem?_append_left e] at g1
                     rw[List.getElem?_append_left (by omega)] at g2
                     exact hen q p1 p2 g1 g2
                   · rw[List.getElem?_append_right (by omega)] at g1
                     rw[List.getElem?_append_right (by omega)] at g2
                     rw[hl] at g1;cases hq:q-en.length with
                     |zero=>rw[hq] at g1 g2;simp at g1 g2;subst g1;subst g2;exact⟨hk,hy,rfl⟩
                     |succ k=>rw[hq] at g1;simp at g1
               · cases e1
             · cases hms
           obtain⟨en',g1,g2,g3⟩:=key;have hlt:c<w.heap.size:=(R.lt b c hb).2.2;obtain⟨p1,p2⟩:=R.turn (o':= .map es' cl') (w':={w with heap:=w.heap.setIfInBounds c (.map en'.toArray cl')}) hb ho rfl (by simp[hlt]) (.map es' cl' en' g2 g3) (fun c' hc=>by simp[Array.getElem?_setIfInBounds_ne (Ne.symm hc)]) (by simp) ⟨rfl,rfl,rfl⟩
           refine⟨rfl,_,g1,?_,?_⟩
           · rw[qd];exact p1
           · rw[qd];exact p2
         · cases hh
       · cases hh
     · cases hh
   · cases h
 · cases h
end
end Go.Me
namespace Go.Me
open Go
variable [Gam]
set_option linter.unusedSectionVars false
set_option linter.unusedSimpArgs false
set_option linter.unusedVariables false
def afa (C:Cfg) (base:Nat) (ν:Nm) (H:Hp) (w:World) (f:FuncId) (vs:Array Value) (x:M) (H':Hp):Prop:=
 Turns C base ν H w (fun w' z=>(callFunc f vs).run C.P w= .ok (.value z) w') x H'∨
 (callFunc f vs).run C.P w= .ok (.enter f vs) w∧Calls C.P f vs w fun e w'=>∃ v ν',e= .returned v∧VR ν' x v∧WR C base ν' H'.get H'.n w'∧St ν H.get H.n w ν' H'.get H'.n w'
def uh (C:Cfg) (call:FuncId→List M→Hp→Option (M×Hp)):Prop:=
 ∀ f args H x H',call f args H=some (x,H')→∀ base ν w vs,WR C base ν H.get H.n w→VRs ν args vs→afa C base ν H w f vs.toArray x H'
def MethOk (C:Cfg):Prop:=∀ t name f r,C.meth t name=some (f,r)→∀ v w,(r=none→(method (C.P.types.size+Made.depth) t v name).run C.P w= .ok (f,v) w)∧
 ∀ i cs u,r=some i→v= .agg cs→cs[i]? =some u→(method (C.P.types.size+Made.depth) t v name).run C.P w= .ok (f,u) w
section
variable {C:Cfg} {base:Nat} {ν:Nm} {g:Gt} {n:Nat} {w:World} {H:Hp} {s:Tr M} {a:Act} {call:FuncId→List M→Hp→Option (M×Hp)}
theorem pa {o:Oper} {f:FuncId} {vs:Array Value} {x:M} {H':Hp} (h:afa C base ν H w f vs x H') {next:Act→World→Prop} {Q:Exit→Act→World→Prop}
   (hn:∀ v w' ν',VR ν' x v→WR C base ν' H'.get H'.n w'→St ν H.get H.n w ν' H'.get H'.n w'→next (a.put o.dst v) w'):o.upon C.P a next Q ((callFunc f vs).run C.P w):=by
 rcases h with⟨v,w',ν',h1,h2,h3,h4⟩|⟨h1,h2⟩
 · rw[h1];exact hn v w' ν' h2 h3 h4
 · rw[h1]
   refine h2.mono fun e w' ⟨v,ν',he,h3,h4,h5⟩=> ?_
   subst he;exact hn v w' ν' h3 h4 h5
theorem ext1 (x:Value) (xs:Array Value):(#[x]++xs).extract 1 (#[x]++xs).size=xs:=by apply Array.ext';simp
theorem aup (hM:MethOk C) (hC:uh C call) (R:WR C base ν H.get H.n w) (S:SR ν s a) {o:Oper} {x:M} {H':Hp} (h:evEff C H s call o=some (x,H')) {next:Act→World→Prop} {Q:Exit→Act→World→Prop}
   (hn:∀ v w' ν',VR ν' x v→WR C base ν' H'.get H'.n w'→St ν H.get H.n w ν' H'.get H'.n w'→next (a.put o.dst v) w'):o.wp C.P a w next Q:=by
 have turns:∀ {q:Sem Value},execOp a.eval o=(do pure (.value (← q)))→Turns C base ν H w (fun w' z=>q.run C.P w= .ok z w') x H'→o.wp C.P a w next Q:=fun {q} e ⟨v,w',ν',h1,h2,h3,h4⟩=>by
   unfold Oper.wp;rw[bg e h1];exact hn v w' ν' h2 h3 h4
 have blt:∀ {b:Builtin} {as:Array Operand} {ts:Array TypeId},o.op= .call {callee:= .builtin b,args:=as,argTypes:=ts}→∀ {q:Sem Value},(∀ cs,builtin b ts o.type cs (as.toList.map a.eval).toArray=(do pure (.value (← q))))→Turns C base ν H w (fun w' z=>q.run C.P w= .ok z w') x H'→o.wp C.P a w next Q:=fun {b as ts} ho {q} e ⟨v,w',ν',h1,h2,h3,h4⟩=>by
   unfold Oper.wp;rw[ayc (v:=v) (w':=w') ho (by rw[ajv a.eval as,e _];simp[h1])]
   exact hn v w' ν' h2 h3 h4
 have skip:∀ {q:Sem Unit} {w':World},execOp a.eval o=(do q;pure .skip)→q.run C.P w= .ok () w'→x= .tup []→WR C base ν H'.get H'.n w'→St ν H.get H.n w ν H'.get H'.n w'→o.wp C.P a w next Q:=fun {q w'} e h1 h2 h3 h4=>by
   unfold Oper.wp;rw[e];simp only[Sem.run_bind,h1,Result.andThen_ok,Sem.run_pure];exact hn undef w' ν (by rw[h2];exact VR.tup' .nil) h3 h4
 unfold evEff at h;split at h
 · rename_i t A X ho
   split at h
   · rename_i p u hp hu
     obtain⟨e,w',h1,h2,h3⟩:=axf R (ai S hp) (ai S hu) h;exact skip (by simp only[execOp,ho]) h1 e h2 h3
   · cases h
 · rename_i t m k X ho
   split at h
   · rename_i u v y hu hv hy
     obtain⟨e,w',h1,h2,h3⟩:=a3g R (ai S hu) (ai S hv) (ai S hy) h;exact skip (by simp only[execOp,ho]) h1 e h2 h3
   · cases h
 · rename_i t m k X ho
   split at h
   · rename_i u v y hu hv hy
     obtain⟨e,w',h1,h2,h3⟩:=a3g R (ai S hu) (ai S hv) (ai S hy) h;exact skip (by simp only[execOp,ho]) h1 e h2 h3
   · cases h
 · rename_i b as ts ho
   split at h
   · rename_i y z hl
     have hv:=i8 S hl;obtain⟨u,r,e1,h1,h2⟩:=hv.inv_cons;obtain⟨v,r',e2,h3,h4⟩:=h2.inv_cons;rw[h4.inv_nil] at e2;rw[e2] at e1;split at h
     · refine blt ho (q:=Builtin.append_ ts o.type #[u,v]) (fun cs=>by rw[e1];rfl) ?_
       split at h
       · rename_i q hq
         cases h;exact aw3 R h1 h3 hq
       · exact aw5 R h1 h3 h
     · exact blt ho (q:=Builtin.copy_ ts o.type #[u,v]) (fun cs=>by rw[e1];rfl) (copyM_ok R h1 h3 h)
     · cases h
   · rename_i y hl
     have hv:=i8 S hl;obtain⟨u,r,e1,h1,h2⟩:=hv.inv_cons;rw[h2.inv_nil] at e1;split at h
     · exact blt ho (q:=Builtin.clear_ ts o.type #[u]) (fun cs=>by rw[e1];rfl) (a4m R h1 h)
     · cases h
   · cases h
 · rename_i f as ts ho
   split at h
   · rename_i gf p q l hf hl
     have hv:=i8 S hl;obtain⟨vp,vq,ef,hp,hq⟩:=(ai S hf).fn_inv;have hall:=(hp.app hv).app hq;have:=hC gf (p++l++q) H x H' h base ν w _ R hall;unfold Oper.wp;have e:(execOp a.eval o).run C.P w=(callFunc gf (vp++as.toList.map a.eval++vq).toArray).run C.P w:=by
       simp only[execOp,ho,resolve,ef,Deferred.ofValue,Sem.run_bind,Sem.run_pure,Result.andThen_ok,invoke]
       congr 2
       apply Array.ext';simp
     rw[e];exact pa this hn
   · cases h
 · rename_i r name as ts ho
   split at h
   · rename_i t y l hr hl
     have hv:=i8 S hl;obtain⟨u,er,hu⟩:=(ai S hr).ifc_inv;have e:∀ {f:FuncId} {rv:Value},(method (C.P.types.size+Made.depth) t u name).run C.P w= .ok (f,rv) w→(execOp a.eval o).run C.P w=(callFunc f (rv::as.toList.map a.eval).toArray).run C.P w:=fun {f rv} hm=>by
       simp only[execOp,ho,resolve,er,Sem.run_bind,Sem.run_pure,Result.andThen_ok,invoke];have e0:(#[Value.iface t u]++as.map a.eval)[0]? =some (.iface t u):=by rw[Array.getElem?_append_left (by simp)];rfl
       rw[e0];simp only[callMethod,Sem.run_bind,run_program,Result.andThen_ok,hm,ext1];have e2: #[rv]++as.map a.eval=(rv::as.toList.map a.eval).toArray:=by apply Array.ext';simp
       rw[e2]
     split at h
     · rename_i gf hm
       obtain⟨m1,_⟩:=hM t name gf none hm u w;unfold Oper.wp;rw[e (m1 rfl)];exact pa (hC gf (y::l) H x H' h base ν w _ R (.cons hu hv)) hn
     · rename_i gf i hm
       obtain⟨_,m2⟩:=hM t name gf (some i) hm u w;split at h
       · rename_i cs
         split at h
         · rename_i z hz
           obtain⟨us,e1,h1⟩:=hu.agg_inv;obtain⟨v,h2,h3⟩:=h1.get hz;subst e1;unfold Oper.wp;rw[e (m2 i us.toArray v rfl rfl (by simpa using h2))]
           exact pa (hC gf (z::l) H x H' h base ν w _ R (.cons h3 hv)) hn
         · cases h
       · cases h
     · cases h
   · cases h
 · cases h
end
end Go.Me
namespace Go.Me
open Go
variable [Gam]
set_option linter.unusedSectionVars false
set_option linter.unusedSimpArgs false
set_option linter.unusedVariables false
section
variable {C:Cfg} {base:Nat} {ν:Nm} {g:Gt} {n N:Nat} {w:World} {H:Hp} {s:Tr M} {a:Act} {call:FuncId→List M→Hp→Option (M×Hp)}
theorem SR.put (S:SR ν s a) {d:Option Nat} {x:M} {v:Value} (hv:VR ν x v) {s':Tr M} (h:putM N s d x=some s') (hN:N≤a.tmps.size):SR ν s' (a.put d v):=by
 intro k y hk;unfold putM at h;split at h
 · cases h;exact S k y hk
 · rename_i j
   obtain⟨h1,h2⟩:=and1 h;cases h2;have h1:j<N:=by simpa[Nat.blt_eq] using h1
   rw[Tr.get_put] at hk;by_cases e:k=j
   · subst e
     rw[if_pos rfl] at hk;cases hk;have hlt:k<a.tmps.size:=by omega
     simpa[Act.put,hlt] using hv
   · rw[if_neg e] at hk
     have:=S k y hk;simpa[Act.put,Array.getD_eq_getD_getElem?,Array.getElem?_setIfInBounds_ne (Ne.symm e)] using this
theorem ou (a:Act) (d:Option Nat) (v:Value):(a.put d v).tmps.size=a.tmps.size:=by cases d<;>simp[Act.put]
theorem su (a:Act) (d:Option Nat) (v:Value):(a.put d v).defers=a.defers:=by cases d<;>rfl
theorem aw7 {ops:Array Oper} {o:Oper} (S:∀ j want d,o.guard=some (j,want)→(ops[j]?).bind (·.dst)=some d→∀ x,s.get d=some x→VR ν x (a.tmps.getD d undef)) {b:Bool} (h:wantM ops s o=some b):Region.wanted o (yielded ops a.tmps)=b:=by
 unfold wantM at h;unfold Region.wanted;split at h
 · rename_i hg;cases h;rw[hg]
 · rename_i j want hg
   rw[hg];simp only;split at h
   · rename_i d hd
     have hy:yielded ops a.tmps j=match a.tmps[d]? with
        |some (.bool b)=>some b
        |_=>none:=by unfold yielded;rw[hd];rfl
     rw[hy];split at h
     · rename_i c hc
       cases h;have hr:=S j want d hg hd _ hc;rw[Array.getD_eq_getD_getElem?] at hr;cases hq:a.tmps[d]? with
       |none=>rw[hq] at hr;cases hr
       | some u=>
        rw[hq] at hr;cases hr;simp
     · cases h
     · rename_i x hx1 hx2 hx
       cases h;have hr:=S j want d hg hd _ hx;rw[Array.getD_eq_getD_getElem?] at hr;cases hq:a.tmps[d]? with
       |none=>simp
       | some u=>
        rw[hq] at hr;simp only[Option.getD_some] at hr;cases u<;>first|simp|skip
        rename_i bb;cases hr
        · exact absurd rfl (hx1 bb)
        · exact absurd rfl hx2
     · cases h
   · rename_i hd
     cases h;have hy:yielded ops a.tmps j=none:=by unfold yielded;rw[hd];rfl
     rw[hy];simp
theorem wq (hM:MethOk C) (hC:uh C call) {ops:Array Oper} {Q:Exit→Act→World→Prop}:∀ (l:List Oper) {st st':S} {ν:Nm} {a:Act} {w:World},evOps C call ops N l st=some st'→WR C base ν st.H.get st.H.n w→SR ν st.s a→N≤a.tmps.size→
  (∀ a' w' ν',WR C base ν' st'.H.get st'.H.n w'→SR ν' st'.s a'→N≤a'.tmps.size→a'.defers=a.defers→St ν st.H.get st.H.n w ν' st'.H.get st'.H.n w'→Q .normal a' w')→wpList C.P ops Q l a w
 | [],st,st',ν,a,w,h,R,S,hN,hQ=>by
  simp only[evOps,Option.some.injEq] at h;subst h;exact hQ a w ν R S hN rfl R.refl
 | o::r,st,st',ν,a,w,h,R,S,hN,hQ=>by
  unfold evOps at h;split at h
  · rename_i d H1 hd
    split at h
    · rename_i s1 hs1
      have next:∀ v w' ν',VR ν' d.val v→WR C base ν' H1.get H1.n w'→St ν st.H.get st.H.n w ν' H1.get H1.n w'→wpList C.P ops Q r (a.put o.dst v) w':=fun v w' ν' hv R' T=>by
        refine wq hM hC r h R' ((S.mono (T.le R)).put hv hs1 hN) (by rw[ou];exact hN) fun a' w'' ν'' R2 S2 hN2 hdf T2=>hQ a' w'' ν'' R2 S2 hN2 (by rw[hdf,su]) (T.trans R T2)
      have wnt:∀ {b},wantM ops st.s o=some b→Region.wanted o (yielded ops a.tmps)=b:=fun hb=>aw7 (ν:=ν) (fun j want d _ _ x hx=>S d x hx) hb
      unfold wpList;unfold did at hd;split at hd
      · cases hd
      · rename_i hw
        cases hd;rw[if_neg (by rw[wnt hw];simp)]
        exact next undef w ν (VR.tup' .nil) R R.refl
      · rename_i hw
        rw[if_pos (wnt hw)];left;split at hd
        · rename_i x hx
          cases hd;obtain⟨v,w',h1,h2,h3,h4⟩:=aen R (fun b o h _=>h) S hx
          unfold Oper.wp;rw[h1];exact next v w' ν h2 h3 h4
        · split at hd
          · rename_i ob f hmk
            cases hd;obtain⟨w1,obj,v,ρ,h1,h2,h3,h4,h5,h6⟩:=a30 (w:=w) S hmk;obtain⟨g1,g2⟩:=R.alloc h2 h3 h4;unfold Oper.wp;rw[h1];refine next v _ (ν.add st.H.n w.heap.size (ρ,0)) (h6 _ _ (Nm.add_same _ _ _ _) (Nm.rm_same _ _ _ _)) ?_ ?_
            · rw[ea];exact g1
            · rw[ea];exact g2
          · split at hd
            · rename_i x H' heff
              cases hd;exact aup hM hC R S heff fun v w' ν' h1 h2 h3=>next v w' ν' h1 h2 h3
            · cases hd
    · cases h
  · cases h
end
