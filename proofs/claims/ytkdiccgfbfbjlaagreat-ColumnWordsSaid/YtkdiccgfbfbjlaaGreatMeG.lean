import Derived.Test.YtkdiccgfbfbjlaaGreatMeE
import Derived.Laws.Tables
namespace Go.Me
open Go
variable [Gam]
set_option linter.unusedSectionVars false
def SR (ν:Nm) (s:Tr M) (a:Act):Prop:=∀ k x,s.get k=some x→VR ν x (a.tmps.getD k undef)
section
variable {C:Cfg} {base:Nat} {ν:Nm} {g:Gt} {n:Nat} {w:World} {H:Hp} {s:Tr M} {a:Act}
theorem SR.mono {ν':Nm} (S:SR ν s a) (h:ν.le ν'):SR ν' s a:=fun k x e=>(S k x e).mono h
theorem ai (S:SR ν s a) {X:Operand} {x:M} (h:val s X=some x):VR ν x (a.eval X):=by
 cases X with
 |tmp t=>exact S t x h
 |const v=>exact ajz h
 |global g=>simp only[val,Option.some.injEq] at h;subst h;exact .glob g 0
 | func f=>
  simp only[val,Option.some.injEq] at h;subst h;exact .fn (.func f) [] [] [] [] rfl rfl (by simp) (by simp)
theorem i8 (S:SR ν s a):∀ {l:List Operand} {xs:List M},vals s l=some xs→VRs ν xs (l.map a.eval)
 | [],xs,h=>by simp only[vals,Option.some.injEq] at h;subst h;exact .nil
 | X::l,xs,h=>by
  unfold vals at h;split at h
  · rename_i v r h1 h2
    cases h;exact .cons (ai S h1) (i8 S h2)
  · cases h
theorem valO_vr (S:SR ν s a) {X:Option Operand} {x:Option M} (h:valO s X=some x):(x=none∧X.map a.eval=none)∨∃ y v,x=some y∧X.map a.eval=some v∧VR ν y v:=by
 cases X with
 |none=>simp only[valO,Option.some.injEq] at h;subst h;exact .inl ⟨rfl,rfl⟩
 | some X=>
  unfold valO at h;simp only at h;split at h
  · rename_i v hv
    cases h;exact .inr ⟨v,_,rfl,rfl,ai S hv⟩
  · cases h
theorem afu {cs:List M} {vs:Array Value} {ν:Nm} (h:∀ (i:Nat) x,cs[i]? =some x→∃ v,vs[i]? =some v∧VR ν x v):∀ (k i:Nat) {l:List M},rdsG cs i k=some l→
  ∃ us:List Value,us.length=k∧VRs ν l us∧∀ (j:Nat) v,us[j]? =some v→vs[i+j]? =some v
 |0,i,l,e=>by simp only[rdsG,Option.some.injEq] at e;subst e;exact⟨[],rfl,.nil,by simp⟩
 | k+1,i,l,e=>by
  unfold rdsG at e;split at e
  · rename_i x l' h1 h2
    cases e;obtain⟨v,h3,h4⟩:=h i x h1;obtain⟨us,h5,h6,h7⟩:=afu h k (i+1) h2;refine⟨v::us,by simp[h5],.cons h4 h6,fun j u hu=> ?_⟩
    cases j with
    |zero=>simp at hu;subst hu;exact h3
    |succ j=>simp at hu;rw[show i+(j+1)=i+1+j by omega];exact h7 j u hu
  · cases e
theorem yf (R:WR C base ν g n w) (hs:∀ b o,H.get b=some o→o.live=true→g b=some o) {t:TypeId} {p x:M} {u:Value} (hp:VR ν p u) (h:loadM C H t p=some x):
   ∃ v,(Instr.loadAt t u).run C.P w= .ok v w∧VR ν x v:=by
 unfold loadM at h;split at h
 · rename_i b o
   cases hp with|ptr _ _ c hb=>
   split at h
   · rename_i k ha hz
     split at h
     · rename_i l hl
       cases h;obtain⟨vs,h1,h2,h3⟩:=R.rds hs hb k o hl;refine⟨.agg vs.toArray,?_,VR.agg' h2⟩;have:=je (P:=C.P) h3;rw[h1] at this;simp[Instr.loadAt,Instr.sureAddr,loadVar,dt ha,aw hz,this]
     · cases h
   · rename_i ha
     obtain⟨v,h1,h2⟩:=R.rd hs hb h;exact⟨v,by simp[Instr.loadAt,Instr.sureAddr,loadVar,dt ha,h1],h2⟩
   · cases h
 · rename_i k o
   cases hp with|glob=>
   split at h
   · rename_i cs hcs
     obtain⟨_,vs,e,fr,h1,h2⟩:=R.gl k cs hcs;have hc:∀ j v,vs[j]? =some v→w.cell? ⟨k,j,none⟩=some v:=fun j v hv=>by simp[World.cell?,h1,hv]
     split at h
     · rename_i z ha hz
       split at h
       · rename_i l hl
         cases h;obtain⟨us,h3,h4,h5⟩:=afu h2 z o hl;refine⟨.agg us.toArray,?_,VR.agg' (h4.mono (fun b c h=>by cases h))⟩
         have:=je (P:=C.P) (w:=w) (c:=k) (i:=o) (vs:=us) fun j v hv=>hc _ _ (h5 j v hv)
         rw[h3] at this;simp[Instr.loadAt,Instr.sureAddr,loadVar,dt ha,aw hz,this]
       · cases h
     · rename_i ha
       obtain⟨v,h3,h4⟩:=h2 o x h;exact⟨v,by simp[Instr.loadAt,Instr.sureAddr,loadVar,dt ha,hc o v h3],h4.mono (fun b c h=>by cases h)⟩
     · cases h
   · cases h
 · rename_i k o
   cases hp with|vg=>
   split at h
   · rename_i cs hcs
     obtain⟨_,vs,e,h1,hcv,h2⟩:=R.vg k cs hcs;have hc:∀ j v,vs[j]? =some v→w.cell? ⟨(Gam.at_ k).1,j+(Gam.at_ k).2,none⟩=some v:=hcv w h1
     split at h
     · rename_i z ha hz
       split at h
       · rename_i l hl
         cases h;obtain⟨us,h3,h4,h5⟩:=afu h2 z o hl;refine⟨.agg us.toArray,?_,VR.agg' (h4.mono (fun b c h=>by cases h))⟩
         have:=je (P:=C.P) (w:=w) (c:=(Gam.at_ k).1) (i:=o+(Gam.at_ k).2) (vs:=us) fun j v hv=>by rw[show o+(Gam.at_ k).2+j=o+j+(Gam.at_ k).2 by omega];exact hc _ _ (h5 j v hv)
         rw[h3] at this;simp[Instr.loadAt,Instr.sureAddr,loadVar,dt ha,aw hz,this]
       · cases h
     · rename_i ha
       obtain⟨v,h3,h4⟩:=h2 o x h;exact⟨v,by simp[Instr.loadAt,Instr.sureAddr,loadVar,dt ha,hc o v h3],h4.mono (fun b c h=>by cases h)⟩
     · cases h
   · cases h
 · cases h
set_option linter.unusedSimpArgs false
set_option linter.unusedVariables false
def eqVal:Value→Bool
 | .pointer _| .slice _ _ _| .func _ _ _| .nilFunc| .iface _ _| .nilIface| .map _=>true
 |_=>false
theorem run_eq (op:BinOp) (neg:Bool) (hop:op=if neg then .neq else .eql) (t:TypeId) {u v:Value} (hu:eqVal u=true) (hv:eqVal v=true) {r:Bool}
  (h:(Op.equal t u v).run C.P w= .ok r w):(binOp op t u v).run C.P w= .ok (.bool (if neg then !r else r)) w:=by
 have h':(Op.equalIn Op.maxDepth t u v).run C.P w= .ok r w:=h;cases neg<;>subst hop<;>cases u<;>simp[eqVal] at hu<;>cases v<;>simp[eqVal] at hv<;>simp[binOp,Op.equal,h']
theorem run_nilguard (op:BinOp) (t:TypeId) (X Y:Operand) {u v:Value} (h:(∀ n,u≠ .agg n)) (h':u= .nilIface→v≠ .nilIface):(eqGuard op t X Y u v).run C.P w= .ok () w:=by
 unfold eqGuard;cases op<;>try rfl
 all_goals
  cases u<;>first|rfl| (exact absurd rfl (h _))|skip
  cases v<;>first|rfl| (exact absurd rfl (h' rfl))
theorem ax8 {d:TypeDesc} {t:TypeId} (ht:und C t=some d) {x y:M} {u v:Value} (hx:VR ν x u) (hy:VR ν y v) {r:Bool} (h:eqM d x y=some r):
   eqVal u=true∧eqVal v=true∧(u= .nilIface→v≠ .nilIface)∧(Op.equal t u v).run C.P w= .ok r w:=by
 have ht':(underlying t).run C.P w= .ok d w:=ab ht;have go:∀ q:Sem Bool,Op.equal t u v=q→q.run C.P w= .ok r w→(Op.equal t u v).run C.P w= .ok r w:=fun q e h=>by rw[e];exact h
 unfold eqM at h;split at h<;>first| (cases h;done)| (split at h)
 all_goals first| (cases h;done)|skip
 all_goals first| (cases h)|skip
 all_goals first
   | (cases hx;cases hy;refine⟨rfl,rfl,by simp,?_⟩;show(Op.equalIn (9999+1) t _ _).run C.P w=_;unfold Op.equalIn;simp[ht'];done)
   |skip
 rename_i f p g' q;cases hx;cases hy;cases hfg:f==g'
 · rw[hfg] at h
   simp only[cond_false,Option.some.injEq] at h;subst h;refine⟨rfl,rfl,by simp,?_⟩
   show(Op.equalIn (9999+1) t _ _).run C.P w=_;unfold Op.equalIn;have hne:f≠g':=by simpa using hfg
   simp[ht',hne]
 · rw[hfg] at h;cases h
theorem run_binM {op:BinOp} {t:TypeId} {X Y:Operand} {x y r:M} {u v:Value} (hx:VR ν x u) (hy:VR ν y v) (h:binM C op t X Y x y=some r):
   ∃ z,(do eqGuard op t X Y u v;binOp op t u v:Sem Value).run C.P w= .ok z w∧VR ν r z:=by
 unfold binM at h;split at h
 · rename_i u' v' e1 e2
   rw[hx.toV e1,hy.toV e2];split at h
   · rename_i z hz
     exact⟨z,pureRun_run w hz,gh h⟩
   · cases h
 · split at h
   · rename_i d hd
     split at h
     · rename_i b hb
       cases h;obtain⟨e1,e2,e3,e4⟩:=ax8 (w:=w) hd hx hy hb;refine⟨.bool b,?_,.bool b⟩;have:=run_eq .eql false rfl t e1 e2 e4;simp only[Sem.run_bind,run_nilguard .eql t X Y (fun n h=>by subst h;simp[eqVal] at e1) e3,Result.andThen_ok,this]
       rfl
     · rename_i b hb
       cases h;obtain⟨e1,e2,e3,e4⟩:=ax8 (w:=w) hd hx hy hb;refine⟨.bool (!b),?_,.bool _⟩;have:=run_eq .neq true rfl t e1 e2 e4;simp only[Sem.run_bind,run_nilguard .neq t X Y (fun n h=>by subst h;simp[eqVal] at e1) e3,Result.andThen_ok,this]
       rfl
     · cases h
   · cases h
theorem n6 {t:TypeId} {f:Nat} {fd:Field} (h:fieldOf C t f=some fd):∃ fs,und C t=some (.struct fs)∧fs[f]? =some fd:=by
 unfold fieldOf at h;split at h
 · rename_i fs hu;exact⟨fs,hu,h⟩
 · cases h
theorem afp {t:TypeId} {f:Nat} {x r:M} {u:Value} (hx:VR ν x u) (h:fieldAM C t x f=some r):∃ v,(Instr.fieldAt t u f).run C.P w= .ok v w∧VR ν r v:=by
 unfold fieldAM at h;split at h
 · rename_i fd hf
   obtain⟨fs,hu,hfs⟩:=n6 hf;split at h
   · rename_i z hz
     split at h
     · rename_i b o
       cases h;cases hx with|ptr _ _ c hb=>
       exact⟨_,by simp[Instr.fieldAt,ab hu,hfs,Instr.sureAddr,fieldPlace,aw hz,b7],.ptr _ _ c hb⟩
     · rename_i b o
       cases h;cases hx;exact⟨_,by simp[Instr.fieldAt,ab hu,hfs,Instr.sureAddr,fieldPlace,aw hz,b7],.glob _ _⟩
     · rename_i b o
       cases h;cases hx;exact⟨_,by simp[Instr.fieldAt,ab hu,hfs,Instr.sureAddr,fieldPlace,aw hz,b7,Nat.add_right_comm],.vg _ _⟩
     · cases h
   · cases h
 · cases h
theorem yd {t:TypeId} {l:List M} {vs:List Value} {o:Nat} {r:M} (hv:VRs ν l vs) (h:partM C t l o=some r):∃ v,(part t vs.toArray o).run C.P w= .ok v w∧VR ν r v:=by
 unfold partM at h;split at h
 · rename_i ha
   split at h
   · rename_i z hz
     cases h;refine⟨.agg ((vs.drop o).take z).toArray,?_,VR.agg' ((hv.drop o).take z)⟩;simp only[part,Sem.run_bind,dt ha,Result.andThen_ok,if_true,aw hz,Sem.run_pure]
     congr 1
     congr 1
     apply Array.ext';simp[List.take_drop,Nat.add_comm]
   · cases h
 · rename_i ha
   obtain⟨v,h1,h2⟩:=hv.get h;refine⟨v,?_,h2⟩;simp[part,dt ha,h1]
 · cases h
theorem avo {t:TypeId} {f:Nat} {x r:M} {u:Value} (hx:VR ν x u) (h:fieldM C t x f=some r):∃ v,(Instr.field t u f).run C.P w= .ok v w∧VR ν r v:=by
 unfold fieldM at h;split at h
 · rename_i fd l hf
   obtain⟨fs,hu,hfs⟩:=n6 hf;obtain⟨vs,rfl,hv⟩:=hx.agg_inv;obtain⟨v,h1,h2⟩:=yd (w:=w) hv h;exact⟨v,by simp[Instr.field,ab hu,hfs,asAgg,h1],h2⟩
 · cases h
theorem gw {a b:Nat} {β:Type} {x:Option β} {r:β} (h:(bif Nat.blt a b then x else none)=some r):a<b∧x=some r:=by
 cases e:Nat.blt a b
 · rw[e] at h;cases h
 · rw[e] at h;exact⟨by simpa[Nat.blt_eq] using e,h⟩
theorem ax7 {t:TypeId} {x i r:M} {u v:Value} (hx:VR ν x u) (hi:VR ν i v) (h:idxAM C t x i=some r):∃ z,(Instr.indexAt t u v).run C.P w= .ok z w∧VR ν r z:=by
 unfold idxAM at h;split at h
 · rename_i ik k
   cases hi;split at h
   · rename_i b o m c
     cases hx with|sl _ _ _ _ c cap hb hc hk hr=>
     split at h
     · rename_i e hu
       split at h
       · rename_i z hz
         obtain⟨h1,h2⟩:=gw h;cases h2;exact⟨_,by simp[Instr.indexAt,asIntOf,ab hu,h1,Nat.not_le.2 h1,aw hz,b7],.ptr _ _ c hb⟩
       · cases h
     · cases h
   · rename_i b o
     cases hx with|ptr _ _ c hb=>
     split at h
     · rename_i m e hu
       split at h
       · rename_i z hz
         obtain⟨h1,h2⟩:=gw h;cases h2;exact⟨_,by simp[Instr.indexAt,asIntOf,ab hu,h1,Nat.not_le.2 h1,Instr.sureAddr,aw hz,b7],.ptr _ _ c hb⟩
       · cases h
     · cases h
   · rename_i b o
     cases hx with|glob=>
     split at h
     · rename_i m e hu
       split at h
       · rename_i z hz
         obtain⟨h1,h2⟩:=gw h;cases h2;exact⟨_,by simp[Instr.indexAt,asIntOf,ab hu,h1,Nat.not_le.2 h1,Instr.sureAddr,aw hz,b7],.glob _ _⟩
       · cases h
     · cases h
   · rename_i b o m
     cases hx with|vsl _ _ _ cap hc=>
     split at h
     · rename_i e hu
       split at h
       · rename_i z hz
         obtain⟨h1,h2⟩:=gw h;cases h2;exact⟨_,by simp[Instr.indexAt,asIntOf,ab hu,h1,Nat.not_le.2 h1,aw hz,b7,Nat.add_right_comm],.vg _ _⟩
       · cases h
     · cases h
   · cases h
 · cases h
theorem run_idxM {t:TypeId} {x i r:M} {u v:Value} (hx:VR ν x u) (hi:VR ν i v) (h:idxM C t x i=some r):∃ z,(Instr.index t u v).run C.P w= .ok z w∧VR ν r z:=by
 unfold idxM at h;split at h
 · rename_i l
   split at h
   · rename_i ik k
     cases hi;obtain⟨vs,rfl,hv⟩:=hx.agg_inv;split at h
     · rename_i m e hu
       split at h
       · rename_i z hz
         obtain⟨h1,h2⟩:=gw h;obtain⟨q,h3,h4⟩:=yd (w:=w) hv h2;exact⟨q,by simp[Instr.index,asIntOf,ab hu,h1,Nat.not_le.2 h1,aw hz,h3],h4⟩
       · cases h
     · cases h
   · cases h
 · split at h
   · rename_i p q e1 e2
     rw[hx.toV e1,hi.toV e2];split at h
     · rename_i z hz
       exact⟨z,pureRun_run w hz,gh h⟩
     · cases h
   · cases h
end
end Go.Me
namespace Go.Me
open Go
variable [Gam]
set_option linter.unusedSectionVars false
set_option linter.unusedSimpArgs false
set_option linter.unusedVariables false
section
variable {C:Cfg} {base:Nat} {ν:Nm} {g:Gt} {n:Nat} {w:World} {H:Hp} {s:Tr M} {a:Act}
theorem akh:∀ (xs:List M) (us:List Value) {l:List M} {vs:List Value} (off j0:Nat),VRs ν xs us→VRs ν l vs→VRs ν (setAt l (off+j0) xs) ((us.zipIdx j0).foldl (fun cs (p:Value×Nat)=>cs.setIfInBounds (off+p.2) p.1) vs.toArray).toList
 | [],us,l,vs,off,j0,h1,h2=>by rw[h1.inv_nil];exact h2
 | x::xs,us,l,vs,off,j0,h1,h2=>by
  obtain⟨u,r,rfl,h3,h4⟩:=h1.inv_cons;have:=akh xs r (l:=l.set (off+j0) x) (vs:=vs.set (off+j0) u) off (j0+1) h4 (h2.set _ h3);simpa[setAt,List.zipIdx_cons,List.setIfInBounds_toArray,Nat.add_assoc] using this
theorem and3 {a b c:Bool} {β:Type} {x:Option β} {r:β} (h:(bif a&&b&&c then x else none)=some r):a=true∧b=true∧c=true∧x=some r:=by
 cases a<;>cases b<;>cases c<;>first| (cases h;done)|exact⟨rfl,rfl,rfl,h⟩
theorem and2 {a b:Bool} {β:Type} {x:Option β} {r:β} (h:(bif a&&b then x else none)=some r):a=true∧b=true∧x=some r:=by
 cases a<;>cases b<;>first| (cases h;done)|exact⟨rfl,rfl,h⟩
theorem and1 {a:Bool} {β:Type} {x:Option β} {r:β} (h:(bif a then x else none)=some r):a=true∧x=some r:=by
 cases a<;>first| (cases h;done)|exact⟨rfl,h⟩
theorem wo {place pl:Nat→Option (Nat×Nat)} (hp:∀ i q,pl i=some q→place i=some q):∀ (ps:List (Nat×M)) (us:List (Nat×Value)) {l:List M} {cells:Array Value} {r:List M},
  ps.length=us.length→(∀ (i:Nat) x u,ps[i]? =some x→us[i]? =some u→x.1=u.1∧VR ν x.2 u.2)→VRs ν l cells.toList→fillM pl l ps=some r→∃ cells',Instr.fill place cells us=some cells'∧VRs ν r cells'.toList
 | [],us,l,cells,r,hl,hu,h,e=>by
  have:us=[]:=List.eq_nil_of_length_eq_zero hl.symm;subst this;simp only[fillM,Option.some.injEq] at e;subst e;exact⟨cells,rfl,h⟩
 | (i,x)::ps,us,l,cells,r,hl,hu,h,e=>by
  cases us with
  |nil=>simp at hl
  | cons q us=>
   obtain⟨i',u⟩:=q;obtain⟨e1,e2⟩:=hu 0 _ _ rfl rfl;simp only at e1 e2;subst e1;unfold fillM at e;split at e
   · rename_i o z hq
     obtain⟨h1,h2,h3,h4⟩:=and3 e;have hc:=e2.cells h3;have hz:u.cells.size=z:=by
      have:=hc.1;simp only[beq_iff_eq] at h1;simpa[h1] using this.symm
     have hb:o+z≤cells.size:=by
      have:=h.1;simp only[Nat.ble_eq] at h2;simp at this;omega
     have hs:=akh (ν:=ν) x.cells u.cells.toList o 0 hc h;have ih:=wo hp ps us (cells:=(u.cells.toList.zipIdx 0).foldl (fun cs (p:Value×Nat)=>cs.setIfInBounds (o+p.2) p.1) cells) (by simpa using hl) (fun j y v h5 h6=>hu (j+1) y v (by simpa using h5) (by simpa using h6)) (by simpa using hs) h4
     obtain⟨c',f1,f2⟩:=ih;refine⟨c',?_,f2⟩;rw[← f1];simp only[Instr.fill,hp i _ hq,hz,ne_eq,not_true_eq_false,decide_false,Bool.false_or];rw[if_neg (by simp;omega)]
     congr 1
     rw[← Array.foldl_toList];simp
   · cases e
theorem qe (S:SR ν s a):∀ {l:List (Nat×Operand)} {xs:List (Nat×M)},parts2 s l=some xs→xs.length=l.length∧∀ (i:Nat) x u,xs[i]? =some x→(l.map fun p=>(p.1,a.eval p.2))[i]? =some u→x.1=u.1∧VR ν x.2 u.2
 | [],xs,h=>by simp only[parts2,Option.some.injEq] at h;subst h;exact⟨rfl,by simp⟩
 | (i,X)::l,xs,h=>by
  unfold parts2 at h;split at h
  · rename_i v r h1 h2
    cases h;obtain⟨g1,g2⟩:=qe S h2;refine⟨by simp[g1],fun j x u h3 h4=> ?_⟩
    cases j with
    |zero=>simp at h3 h4;subst h3;subst h4;exact⟨rfl,ai S h1⟩
    |succ j=>simp only[List.getElem?_cons_succ,List.map_cons] at h3 h4;exact g2 j x u h3 h4
  · cases h
theorem ly {t:TypeId} {z:Nat} (h:size C t=some z):∃ i,C.P.info? t=some i∧i.size=z:=by
 unfold size at h;split at h
 · rename_i i hi;cases h;exact⟨i,hi,rfl⟩
 · cases h
theorem aw6 {t:TypeId} {x:M} (h:zero C t=some x):∃ i v,C.P.info? t=some i∧i.zero=some v∧∀ ν,VR ν x v:=by
 unfold zero at h;split at h
 · rename_i i hi
   split at h
   · rename_i v hv;exact⟨i,v,hi,hv,fun ν=>ajz h⟩
   · cases h
 · cases h
theorem adu:∀ {l:List Value} {xs:List M},ofVs l=some xs→xs.all M.cell=true
 | [],_,e=>by simp[ofVs] at e;subst e;rfl
 | v::l,xs,e=>by
  unfold ofVs at e;split at e
  · rename_i x r h1 h2
    cases e;have:x.cell=true:=by
     unfold ofV0 at h1;split at h1<;>first| (cases h1;done)| (cases h1;rfl)
    simp[this,adu h2]
  · cases e
theorem ava {t:TypeId} {x:M} (h:zero C t=some x):x.cells.all M.cell=true:=by
 unfold zero at h;split at h
 · split at h
   · rename_i v hv
     unfold ofV at h;split at h
     · split at h
       · rename_i l hl;cases h;exact adu hl
       · cases h
     · split at h
       · cases h;rfl
       · cases h
     · split at h
       · cases h;rfl
       · cases h
     · unfold ofV0 at h
       split at h<;>first| (cases h;done)| (cases h;rfl)
   · cases h
 · cases h
theorem lr {t:TypeId} {x:M} (h:zero C t=some x):∃ i v,C.P.info? t=some i∧i.zero=some v∧VR ν x v∧VRs ν x.cells v.cells.toList:=by
 obtain⟨i,v,h1,h2,h3⟩:=aw6 h;exact⟨i,v,h1,h2,h3 ν,(h3 ν).cells (ava h)⟩
theorem adr:∀ {l:List Field},allSized C l=true→∃ pl,l.mapM (fun f=>(C.P.info? f.type).map fun i=>(f.offset,i.size))=some pl∧∀ (i:Nat) f,l[i]? =some f→∀ z,size C f.type=some z→pl[i]? =some (f.offset,z)
 | [],_=>⟨[],rfl,by simp⟩
 | f::l,h=>by
  simp only[allSized,Bool.and_eq_true] at h;obtain⟨pl,h1,h2⟩:=adr h.2;have h3:=h.1;split at h3
  · rename_i z hz
    obtain⟨i,hi,hsz⟩:=ly hz;refine⟨(f.offset,i.size)::pl,by simp[hi,h1],fun j f' hj z' hz'=> ?_⟩
    cases j with
    | zero=>
     simp at hj;subst hj;obtain⟨i',hi',hsz'⟩:=ly hz';rw[hi] at hi';cases hi';simp[hsz']
    |succ j=>simp at hj;simpa using h2 j f' hj z' hz'
  · cases h3
theorem avp {t:TypeId} {ps:List (Nat×M)} {us:Array (Nat×Value)} {r:M} (hl:ps.length=us.toList.length) (hu:∀ (i:Nat) x u,ps[i]? =some x→us.toList[i]? =some u→x.1=u.1∧VR ν x.2 u.2) (h:buildM C t ps=some r):
   ∃ v,(Instr.build t us).run C.P w= .ok v w∧VR ν r v:=by
 unfold buildM at h;split at h
 · rename_i zv hz
   obtain⟨i,z,hi,hz1,_,hz2⟩:=lr (ν:=ν) hz;split at h
   · rename_i fs hf
     obtain⟨h1,h2⟩:=and1 h;split at h2
     · rename_i l hl'
       cases h2;obtain⟨pl,p1,p2⟩:=adr h1;obtain⟨c',f1,f2⟩:=wo (ν:=ν) (place:=(pl.toArray[·]?)) (pl:=placeS C fs) (fun i q hq=>by
         unfold placeS at hq;split at hq
         · rename_i f hf'
           split at hq
           · rename_i k hk
             cases hq;simpa using p2 i f (by simpa using hf') k hk
           · cases hq
         · cases hq) ps us.toList hl hu hz2 hl'
       refine⟨.agg c',run_build w t us c' ?_,?_⟩
       · unfold Program.built
         have:C.P.underlying t=some (.struct fs):=hf;simp only[hi,this,hz1,p1];exact f1
       · have:=VR.agg' f2
         simpa using this
     · cases h2
   · rename_i k e hf
     split at h
     · rename_i sz hsz
       split at h
       · rename_i l hl'
         cases h;obtain⟨ie,hie,hse⟩:=ly hsz;obtain⟨c',f1,f2⟩:=wo (ν:=ν) (place:=fun i=>some (i*sz,sz)) (fun i q hq=>hq) ps us.toList hl hu hz2 hl'
         refine⟨.agg c',run_build w t us c' ?_,?_⟩
         · unfold Program.built
           have:C.P.underlying t=some (.array k e):=hf;simp only[hi,this,hz1,hie,hse];exact f1
         · have:=VR.agg' f2
           simpa using this
       · cases h
     · cases h
   · cases h
 · cases h
end
