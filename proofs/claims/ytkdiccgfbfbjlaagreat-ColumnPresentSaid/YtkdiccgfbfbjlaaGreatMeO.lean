import Derived.Test.YtkdiccgfbfbjlaaGreatMeN
namespace Go.Me
open Go
variable [Gam]
set_option linter.unusedSectionVars false
set_option linter.unusedSimpArgs false
set_option linter.unusedVariables false
section
variable {C:Cfg} {base:Nat} {ν:Nm} {g:Gt} {n:Nat} {w:World} {H:Hp} {s:Tr M} {a:Act}
theorem copyM_ok (R:WR C base ν H.get H.n w) {ts:Array TypeId} {ty:TypeId} {x y r:M} {u v:Value} (hx:VR ν x u) (hy:VR ν y v) {H':Hp} (h:copyM C H ts x y=some (r,H')):
   Turns C base ν H w (fun w' z=>(Builtin.copy_ ts ty #[u,v]).run C.P w= .ok z w') r H':=by
 unfold copyM at h;split at h
 · rename_i t ht0
   split at h
   · rename_i e hu
     have eargs:Builtin.copy_ ts ty #[u,v]=Builtin.copy_ #[t] ty #[u,v]:=by simp[Builtin.copy_,ht0]
     rw[eargs];split at h
     · rename_i z m b o k c hz hm
       cases hx with|sl _ _ _ _ cb cap hb hc hk hr=>
       split at h
       · cases h
       · rename_i hns
         split at h
         · rename_i ys hys
           split at h
           · rename_i H1 hH
             cases h;have hmin:∃ news:List Value,(∀ w',(Builtin.lenOf v).run C.P w'= .ok m w')∧(∀ w',w'.heap=w.heap→(Builtin.firstCells z (Nat.min m k) v).run C.P w'= .ok news.toArray w')∧VRs ν (ys.take (Nat.min m k*z)) news:=by
              cases y<;>first| (simp[argLen] at hm;done)|skip
              · exact absurd rfl (hns _)
              · rename_i b' o' k' c'
                cases hy with|sl _ _ _ _ d cap' hb' hc' hk' hr'=>
                simp only[argLen,Option.some.injEq] at hm;subst hm;simp only[argCells] at hys;obtain⟨vs,q1,q2,q3⟩:=R.rds (H:=H) (fun b o h _=>h) hb' (k'*z) o' hys
                refine⟨vs.take (Nat.min k' k*z),fun w'=>rfl,fun w' hw=> ?_,q2.take _⟩
                simp only[Builtin.firstCells];have:=ii (P:=C.P) (w:=w') (c:=d) (i:=o'+(ν.rm b').2) (vs:=vs.take (Nat.min k' k*z)) fun j v hv=>by
                 rw[jo hw];rw[List.getElem?_take] at hv;split at hv
                 · exact q3 j v hv
                 · cases hv
                rw[List.length_take,q1,Nat.min_eq_left (Nat.mul_le_mul_right _ (Nat.min_le_left _ _))] at this;exact this
              · cases hy
                simp only[argLen,Option.some.injEq] at hm;simp only[argCells,Option.some.injEq] at hys;subst hm;subst hys;exact⟨[],fun w'=>rfl,fun w' _=>by simp[Builtin.firstCells,loadCells,loadCellsFrom],by simpa using VRs.nil⟩
              · cases hy
                simp only[argLen,Option.some.injEq] at hm;simp only[argCells,Option.some.injEq] at hys;subst hm;subst hys;exact⟨[],fun w'=>rfl,fun w' _=>rfl,by simpa using VRs.nil⟩
             obtain⟨news,s1,s2,s3⟩:=hmin;obtain⟨g1,g2,g3,g4,g5,g6⟩:=wr_ok R hb s3 hH;have hst:=run_storeCells_cells (P:=C.P) cb (o+(ν.rm b).2) news 0 w (by simpa using g2) (by simpa using g3) g4
             simp only[Nat.add_zero] at hst;refine⟨goInt (Nat.min m k:Nat),_,ν,?_,.int _ _,g5,g6⟩;simp only[Builtin.copy_,List.getElem?_toArray,List.getElem?_cons_zero,List.getElem?_cons_succ,Sem.run_bind,ab hu,Result.andThen_ok,s1,ax hz,Sem.run_pure];rw[s2 w rfl];simp only[Result.andThen_ok,hst,Sem.run_bind,Sem.run_pure]
           · cases h
         · cases h
     · cases h
   · cases h
 · cases h
theorem qu {z:List M} {zs:Array Value} (h:VRs ν z zs.toList) (n:Nat):VRs ν (rep z n) (Builtin.zeroCells zs n).toList:=by
 have:=rep_vr h n;unfold Builtin.zeroCells;exact this
theorem azl (R:WR C base ν H.get H.n w) {ts:Array TypeId} {ty:TypeId} {x r:M} {u:Value} (hx:VR ν x u) {H':Hp} (h:clearM C H ts x=some (r,H')):
   Turns C base ν H w (fun w' z=>(Builtin.clear_ ts ty #[u]).run C.P w= .ok z w') r H':=by
 unfold clearM at h;split at h
 · rename_i t ht0
   split at h
   · rename_i e hu
     have eargs:Builtin.clear_ ts ty #[u]=Builtin.clear_ #[t] ty #[u]:=by simp[Builtin.clear_,ht0]
     rw[eargs];split at h
     · rename_i z b o k c hz
       cases hx with|sl _ _ _ _ cb cap hb hc hk hr=>
       split at h
       · rename_i H1 hH
         cases h;obtain⟨i,v,h1,h2,h3,h4⟩:=j2 (ν:=ν) hz;have hv:=qu h4 k;obtain⟨g1,g2,g3,g4,g5,g6⟩:=wr_ok R hb hv hH;have hst:=run_storeCells_cells (P:=C.P) cb (o+(ν.rm b).2) (Builtin.zeroCells v.cells k).toList 0 w (by simpa using g2) (by simpa using g3) g4
         simp only[Nat.add_zero] at hst;have hzv:(zeroValue e).run C.P w= .ok v w:=by simp[zeroValue,typeInfo,h1,h2]
         by_cases hk0:k=0
         · subst hk0
           have e0:(Builtin.zeroCells v.cells 0).toList=[]:=by simp[Builtin.zeroCells]
           rw[e0] at g5 g6;refine⟨.tuple #[],w,ν,?_,VR.tup' .nil,g5,g6⟩;simp[Builtin.clear_,ab hu]
         · refine⟨.tuple #[],_,ν,?_,VR.tup' .nil,g5,g6⟩
           obtain⟨k',rfl⟩:=Nat.exists_eq_succ_of_ne_zero hk0;simp only[Builtin.clear_,List.getElem?_toArray,List.getElem?_cons_zero,Sem.run_bind,ab hu,Result.andThen_ok,hzv];rw[hst];rfl
       · cases h
     · cases h
       cases hx;exact⟨.tuple #[],w,ν,by simp[Builtin.clear_,ab hu],VR.tup' .nil,R,R.refl⟩
     · cases h
       cases hx;exact⟨.tuple #[],w,ν,by simp[Builtin.clear_,ab hu],VR.tup' .nil,R,R.refl⟩
     · cases h
   · cases h
 · cases h
theorem ash (R:WR C base ν H.get H.n w) {t:TypeId} {p x r:M} {u v:Value} (hp:VR ν p u) (hx:VR ν x v) {H':Hp} (h:storeM C H t p x=some (r,H')):
   r= .tup []∧∃ w',(Instr.storeAt t u v).run C.P w= .ok () w'∧WR C base ν H'.get H'.n w'∧St ν H.get H.n w ν H'.get H'.n w':=by
 unfold storeM at h;split at h
 · rename_i b o
   cases hp with|ptr _ _ cb hb=>
   split at h
   · rename_i z hz
     obtain⟨h1,hh⟩:=and1 h;have h1:x.cells.length=z:=by simpa using h1
     split at hh
     · rename_i H1 hH
       cases hh;by_cases hall:x.cells.all M.cell=true
       · have hv:=hx.cells hall
         obtain⟨g1,g2,g3,g4,g5,g6⟩:=wr_ok R hb hv hH;have hst:=run_storeCells_cells (P:=C.P) cb (o+(ν.rm b).2) v.cells.toList 0 w (by simpa using g2) (by simpa using g3) g4
         simp only[Nat.add_zero] at hst;have hsz:v.cells.size=z:=by have:=hv.1;simp at this;omega
         refine⟨rfl,_,?_,g5,g6⟩;simp only[Instr.storeAt,Instr.sureAddr,Sem.run_bind,Sem.run_pure,Result.andThen_ok,storeVar,ax hz,hsz,ne_eq,not_true_eq_false,if_false];exact hst
       ·
         exfalso;unfold Hp.wr at hH;split at hH
         · split at hH
           · rename_i o' ho'
             rcases m5 _ _ ho' with⟨e,_⟩|⟨_,_,_,_,_,_,_,_,e,_⟩
             · rw[e] at hall;simp at hall
             · exact hall e
           · cases hH
         · cases hH
     · cases hh
   · cases h
 · cases h
theorem aym (R:WR C base ν H.get H.n w) {t:TypeId} {x k y r:M} {u v z:Value} (hx:VR ν x u) (hk:VR ν k v) (hy:VR ν y z) {H':Hp} (h:insM C H t x k y=some (r,H')):
   r= .tup []∧∃ w',(Instr.mapUpdate t u v z).run C.P w= .ok () w'∧WR C base ν H'.get H'.n w'∧St ν H.get H.n w ν H'.get H'.n w':=by
 unfold insM at h;split at h
 · rename_i kt e hu
   split at h
   · rename_i d hd
     obtain⟨h1,hh⟩:=and1 h;split at hh
     · rename_i b
       cases hx with|map _ c hb=>
       split at hh
       · rename_i es cl ho
         split at hh
         · rename_i es' cl' hms
           obtain⟨h2,hh2⟩:=and1 hh;cases hh2;obtain⟨ob,q1,q2⟩:=R.ob b _ c ho rfl hb;cases q2 with|map _ _ en hl hen=>
           have key:∃ en':List MapEntry,(Instr.mapUpdate t (.map (some c)) v z).run C.P w= .ok () {w with heap:=w.heap.setIfInBounds c (.map en'.toArray cl')}∧ERs ν es' en':=by
             unfold mapSet at hms;have hERs:ERs ν es en:=⟨hl,hen⟩;split at hms
             · rename_i i x' hf
               cases hms;rcases ja hk 0 hERs hf with⟨e1,e2⟩|⟨j',v',y',e1,e2,e3,e4,en0,e5,e6,e7,e8⟩
               · cases e1
               · cases e1
                 simp only[Nat.sub_zero] at e5;have hfk:=MapKept.run_findKey (P:=C.P) (w:=w) (kt:=kt) hd e2;have hsame:(Instr.keyThatStays v v).run C.P w= .ok v w:=by
                   simp[Instr.keyThatStays,e8]
                 refine⟨en.modify i fun e=>{e with key:=v,val:=z},?_,?_⟩
                 · simp only[Instr.mapUpdate,Sem.run_bind,ab hu,Result.andThen_ok,MapKept.run_getObj_map q1,dg hd h1,hfk]
                   have e9:(((en.toArray)[i]?).map (·.key)).getD v=v:=by simp[e5,e6]
                   rw[e9,hsame];simp only[Result.andThen_ok,MapKept.run_setObj_map _ q1]
                   congr 3
                   simp
                 · refine⟨by simp[hl],fun q p1 p2 g1 g2=> ?_⟩
                   rw[List.getElem?_modify] at g1 g2;by_cases e:i=q
                   · subst e
                     cases ha:es[i]? with
                     |none=>simp[ha] at g1
                     | some a1=>
                      cases hb1:en[i]? with
                      |none=>simp[hb1] at g2
                      | some b1=>
                       simp[ha] at g1;simp[hb1] at g2;subst g1;subst g2;exact⟨hk,hy,(hen i a1 b1 ha hb1).2.2⟩
                   · simp[e] at g1 g2
                     exact hen q p1 p2 g1 g2
             · rename_i hf
               cases hms;rcases ja hk 0 hERs hf with⟨e1,e2⟩|⟨j',v',y',e1,e2,e3,_⟩
               · have hfk:=MapKept.run_findKey (P:=C.P) (w:=w) (kt:=kt) hd e2
                 refine⟨en++[{key:=v,val:=z,born:=cl}],?_,by simp[hl],fun q p1 p2 g1 g2=> ?_⟩
                 · simp only[Instr.mapUpdate,Sem.run_bind,ab hu,Result.andThen_ok,MapKept.run_getObj_map q1,dg hd h1,hfk,MapKept.run_setObj_map _ q1]
                   congr 3
                   simp
                 · by_cases e:q<es.length
                   · rw[List.getElem?_append_left e] at g1
                     rw[List.getElem?_append_left (by omega)] at g2
                     exact hen q p1 p2 g1 g2
                   · rw[List.getElem?_append_right (by omega)] at g1
                     rw[List.getElem?_append_right (by omega)] at g2
                     rw[hl] at g1;cases hq:q-en.length with
                     |zero=>rw[hq] at g1 g2;simp at g1 g2;subst g1;subst g2;exact⟨hk,hy,rfl⟩
                     |succ k=>rw[hq] at g1;simp at g1
               · cases e1
             · cases hms
           obtain⟨en',g1,g2,g3⟩:=key;have hlt:c<w.heap.size:=(R.lt b c hb).2.2;obtain⟨p1,p2⟩:=R.turn (o':= .map es' cl') (w':={w with heap:=w.heap.setIfInBounds c (.map en'.toArray cl')}) hb ho rfl (by simp[hlt]) (.map es' cl' en' g2 g3) (fun c' hc=>by simp[Array.getElem?_setIfInBounds_ne (Ne.symm hc)]) (by simp) ⟨rfl,rfl,rfl⟩
           refine⟨rfl,_,g1,?_,?_⟩
           · rw[nk];exact p1
           · rw[nk];exact p2
         · cases hh
       · cases hh
     · cases hh
   · cases h
 · cases h
end
