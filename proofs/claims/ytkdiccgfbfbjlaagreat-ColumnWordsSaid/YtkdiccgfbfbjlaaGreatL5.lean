import Derived.Test.YtkdiccgfbfbjlaaGreatL4
import Derived.Orders
import Derived.OrdersIn
import Derived.RangeFuncLeaves
namespace Go.Ev
open Go
section
variable {P:Program} {cfg:Cfg} {x:Cx} {N dep:Nat} {s:Get} {a:Act} {w:World}
theorem Arr.less {F:Nat→Prop} {b o cap cap' z:Nat} {es:List D} (A:Arr F w b o cap z es) (h:cap'≤cap):Arr F w b o cap' z es:=
 ⟨A.pos,fun j hj=>A.room j (zp hj (zu z h)),A.wid,A.cel,A.els⟩
theorem ke (dst:Option Nat) (p:IOpd) {y:V} (h:y.isOwn=false):evMv dst p y=some (put1 dst y):=by
 cases y with
 |own nw z es=>simp[V.isOwn] at h
 |rcd ys=>simp[V.isOwn] at h
 |_=>cases p<;>rfl
theorem sim_clip (hC:a5q P cfg) (R:Rel cfg x N s a w) {o:Oper} {f:FuncId} (hf:cfg.clip f=true) {k:Nat} (hd:o.dst=some k) (hk:k<N) {c:Call} (hcal:c.callee= .value (.func f)) (ho:o.op= .call c) {p:IOpd} (hargs:cOpds c.args.toList=some [p])
   {y:V} (hy:val cfg s p=some y) {u:List (Loc×V)} (hu:evClip (some k) p y=some u):Walks P cfg x N dep (updG s u) a w o:=by
 obtain⟨X,hXl,hX⟩:=mk1 (X:= .tmp 0) hargs;obtain⟨l,hr,hl⟩:=a6 R hX hy;have hA:c.args.map a.eval= #[a.eval X]:=by
   have:c.args= #[X]:=by apply Array.ext';simpa using hXl
   rw[this];simp
 have hrun:(execOp a.eval o).run P w=(callFunc f #[a.eval X]).run P w:=by
   have e:a.eval (.func f)= .func (.func f) #[] #[]:=rfl;simp[execOp,ho,resolve,hcal,e,hA,Deferred.ofValue,invoke]
 have go:∀ ad len cap,a.eval X= .slice ad len cap→len≤cap→(∃ x',Rel cfg x' N (updG s u) (a.put o.dst (.slice ad len len)) w∧Fr dep x x' w w)→Walks P cfg x N dep (updG s u) a w o:=by
   intro ad len cap he hle hx;rw[he] at hrun;refine(hC f hf ad len cap w hle).walks hrun (fun v w' h=> ?_)
   obtain⟨rfl,rfl⟩:=h;exact hx
 unfold evClip at hu;split at hu
 ·
   obtain⟨ad,e⟩:=hr.d_inv.nilS_inv;refine go ad 0 0 e (y7 _) ⟨x,?_,.refl _ _ _⟩;rw[hd];rw[ke _ _ rfl] at hu;cases hu;exact R.put hk rfl (l:=none) (.d _ _ _ (.nilS ad))
 ·
   rename_i es;have hrd:=hr.d_inv;generalize hev:a.eval X=v at hrd;cases hrd with
   | slA ad cap=>
     refine go ad 0 cap hev (aad _) ⟨x,?_,.refl _ _ _⟩;rw[hd];rw[ke _ _ rfl] at hu;cases hu;exact R.put hk rfl (l:=none) (.d _ _ _ (.slA _ _))
   |sl b of len cap z _ vs hlen hcap hz hc hm h=>
   refine go _ _ _ hev hcap ⟨x,?_,.refl _ _ _⟩;rw[hd];have hput:u=put1 (some k) (.d (.sl es)):=by
     rw[ke _ _ rfl] at hu;cases hu;rfl
   rw[hput];exact R.put hk rfl (l:=none) (.d _ _ _ (.sl b of len len z es vs hlen (y7 _) hz hc hm h))
 ·
   rename_i nw z es;have hslot:∃ j,p= .t j:=by
     cases p with
     |t j=>exact⟨j,rfl⟩
     |c d=>simp[val] at hy
     |g n=>simp[val] at hy
   obtain⟨j,rfl⟩:=hslot;obtain⟨hl1,rfl⟩:=hl j rfl;have he:s (.slot j)=some (.own nw z es):=hy;obtain⟨b,o',cap,g1,g2,g3,g4⟩:=R.own_at he;have hv:a.eval (.tmp j)= .slice (some (ad3 b o')) es.length cap:=by simpa[conc,Act.eval] using g1
   have g4':=g4.less g3;cases nw
   · have hput:u=put1 (some k) (.bor (.slot j) 0 es.length):=by simpa[evMv] using hu.symm
     refine go _ _ _ hv g3 ⟨x,?_,.refl _ _ _⟩;rw[hd,hput];refine R.put hk rfl (l:=none) (.bor _ _ _ _ _ _ _ (y7 _) fun z' es' hs=> ?_)
     rw[he] at hs;cases hs;exact⟨o',_,cap,g1,by omega,.inr yp,g4'.room⟩
   · have hput:u=put1 (some k) (.own true z es)++[(.slot j,.junk)]:=by simpa[evMv] using hu.symm
     refine go _ _ _ hv g3 ⟨x.give b (some (.at (.slot k))),?_,Fr.give g2 _⟩;rw[hd,hput];exact R.handAny hk he g2 g4' rfl (y7 _)
 ·
   rename_i l' off n;have hput:u=put1 (some k) (.bor l' off n):=by
     rw[ke _ _ rfl] at hu;cases hu;rfl
   generalize hev:a.eval X=v at hr;cases hr with
   |bor _ _ _ _ b o' cap' hcap h=>
   refine go _ _ _ hev hcap ⟨x,?_,.refl _ _ _⟩;rw[hd,hput];refine R.put hk rfl (l:=none) (.bor _ _ _ _ _ _ _ (y7 _) fun z es hs=> ?_)
   obtain⟨o,L,C,h1,h2,h3,h4⟩:=h z es hs;refine⟨o,L,C,h1,h2,?_,fun j hj=>h4 j (zp hj (zu z hcap))⟩
   rcases h3 with h3|h3
   · exact .inl ⟨h3.1,h3.1⟩
   · exact .inr h3
 · cases hu
structure COper (P:Program) (N:Nat) (ops:Array Oper) (o:Oper) (io:IOper):Prop where
 dst:io.dst=o.dst
 lt:∀ k,o.dst=some k→k<N
 op:∃ own g,gOp g ((cOp P own o.op).getD .bad)=io.op
 guard:match o.guard with
  |none=>io.guard=none
  |some (j,b)=>∃ k,(ops[j]?).bind (·.dst)=some k∧io.guard=some (k,b)
theorem cn (R:Rel cfg x N s a w) {ops:Array Oper} {o:Oper} {io:IOper} (hc:COper P N ops o io) {t:Bool} (hg:guardOk s io.guard=some t):Region.wanted o (yielded ops a.tmps)=t:=by
 have h:=hc.guard;unfold Region.wanted;cases hog:o.guard with
 | none=>
  rw[hog] at h;simp only at h;rw[h] at hg;cases hg;rfl
 | some jb=>
  obtain⟨j,b⟩:=jb;rw[hog] at h;simp only at h ⊢;obtain⟨k,h1,h2⟩:=h;rw[h2] at hg;unfold guardOk at hg;simp only at hg;split at hg
  · rename_i c hs
    cases hg;obtain⟨u,hu,hr⟩:=R.locs _ _ hs;have e:=hr.d_inv.bool_inv;subst e;have hk:=R.slotN _ _ hs;have hget:a.tmps[k]? =some (.bool c):=by
     have:a.tmps.getD k undef= .bool c:=by simpa[conc] using hu
     rw[Array.getD_eq_getD_getElem?] at this;rw[← R.size] at hk;rw[zm hk] at this ⊢;exact congrArg some this
    simp only[yielded,h1,Option.bind_some,hget];cases c<;>cases b<;>rfl
  · rename_i hs
    cases hg;obtain⟨u,hu,hr⟩:=R.locs _ _ hs;have hk:=R.slotN _ _ hs;have hr':=hr.d_inv;cases hr' with
    |tup vs cs hl h=>
    have hget:a.tmps[k]? =some (.tuple vs.toArray):=by
     have:a.tmps.getD k undef= .tuple vs.toArray:=by simpa[conc] using hu
     rw[Array.getD_eq_getD_getElem?] at this;rw[← R.size] at hk;rw[zm hk] at this ⊢;exact congrArg some this
    simp only[yielded,h1,Option.bind_some,hget];rfl
  · cases hg
theorem aj3 (F:Nat→Prop) (w:World):Rd F w undef (.tup []):=by
 have:=Rd.tup (F:=F) (w:=w) [] [] rfl (fun i v c h=>by simp at h)
 exact this
theorem jo {s:Get}:∀ {l:List IOpd} {p:Loc×V},p∈giveL s l→∃ k nw z es,IOpd.t k∈l∧s p.1=some (.own nw z es)∧p.2= .d (.sl es)∧(p.1= .slot k∨∃ o n,s (.slot k)=some (.bor p.1 o n))
 | [],p,h=>by cases h
 | .c _::r,p,h=>by
  obtain⟨k,nw,z,es,h4,h⟩:=jo (l:=r) h;exact⟨k,nw,z,es,zq _ h4,h⟩
 | .g _::r,p,h=>by
  obtain⟨k,nw,z,es,h4,h⟩:=jo (l:=r) h;exact⟨k,nw,z,es,zq _ h4,h⟩
 | .t k::r,p,h=>by
  have more:p∈giveL s r→∃ k' nw z es,IOpd.t k'∈ .t k::r∧s p.1=some (.own nw z es)∧p.2= .d (.sl es)∧(p.1= .slot k'∨∃ o n,s (.slot k')=some (.bor p.1 o n)):=fun h=>by
    obtain⟨k,nw,z,es,h4,h⟩:=jo (l:=r) h;exact⟨k,nw,z,es,zq _ h4,h⟩
  unfold giveL at h;split at h
  · rename_i nw z es hk
    rcases zr.1 h with e|h
    · subst e
      exact⟨k,nw,z,es,List.mem_cons_self,hk,rfl,.inl rfl⟩
    · exact more h
  · rename_i l o n hk
    split at h
    · rename_i z es hl
      rcases zr.1 h with e|h
      · subst e
        exact⟨k,false,z,es,List.mem_cons_self,hl,rfl,.inr ⟨o,n,hk⟩⟩
      · exact more h
    · exact more h
  · exact more h
theorem jn {s:Get}:∀ {l:List IOpd} {p:Loc×V},p∈giveP s l→∃ k l' o n z es,IOpd.t k∈l∧p=(.slot k,.d (.sl ((es.drop o).take n)))∧s (.slot k)=some (.bor l' o n)∧s l'=some (.own false z es)∧(l',V.d (.sl es))∈giveL s l
 | [],p,h=>by cases h
 | .c _::r,p,h=>by
  obtain⟨k,l',o,n,z,es,h4,h⟩:=jn (l:=r) h;exact⟨k,l',o,n,z,es,zq _ h4,h⟩
 | .g _::r,p,h=>by
  obtain⟨k,l',o,n,z,es,h4,h⟩:=jn (l:=r) h;exact⟨k,l',o,n,z,es,zq _ h4,h⟩
 | .t k::r,p,h=>by
  have sup:∀ q,q∈giveL s r→q∈giveL s (.t k::r):=fun q hq=>by
    unfold giveL;split
    · exact zq _ hq
    · split
      · exact zq _ hq
      · exact hq
    · exact hq
  have more:p∈giveP s r→∃ k' l' o n z es,IOpd.t k'∈ .t k::r∧p=(.slot k',.d (.sl ((es.drop o).take n)))∧s (.slot k')=some (.bor l' o n)∧s l'=some (.own false z es)∧(l',V.d (.sl es))∈giveL s (.t k::r):=fun h=>by
    obtain⟨k,l',o,n,z,es,h4,h1,h2,h3,h5⟩:=jn (l:=r) h;exact⟨k,l',o,n,z,es,zq _ h4,h1,h2,h3,sup _ h5⟩
  unfold giveP at h;split at h
  · rename_i l o n hk
    split at h
    · rename_i z es hl
      rcases zr.1 h with e|h
      · exact⟨k,l,o,n,z,es,List.mem_cons_self,e,hk,hl,by unfold giveL;rw[hk];simp only[hl];exact List.mem_cons_self⟩
      · exact more h
    · exact more h
  · exact more h
theorem Rel.givesL:∀ (u:List (Loc×V)) {s:Get} {x:Cx},Rel cfg x N s a w→(∀ p∈u,∃ es,p.2= .d (.sl es)∧(s p.1=some (.d (.sl es))∨∃ nw z,s p.1=some (.own nw z es)))→∃ x',Rel cfg x' N (updG s u) a w∧Fr dep x x' w w∧
  (∀ b,x.ow b=none→x'.ow b=none)∧x'.ad=x.ad∧(∀ p∈u,(∃ nw z es,s p.1=some (.own nw z es))→∀ b o L C,conc x a w p.1=some (.slice (some (ad3 b o)) L C)→x'.ow b=none)
 | [],s,x,R,_=>⟨x,R,.refl _ _ _,fun _ h=>h,rfl,fun _ h=>by cases h⟩
 | (l,v)::u,s,x,R,h=>by
  obtain⟨es,hv,hl⟩:=h (l,v) List.mem_cons_self;simp only at hv hl;subst hv;have hrest2:∀ p∈u,∃ es',p.2= .d (.sl es')∧(updG s [(l,.d (.sl es))] p.1=some (.d (.sl es'))∨∃ nw z,updG s [(l,.d (.sl es))] p.1=some (.own nw z es')):=fun p hp=>by
    obtain⟨es',h1,h2⟩:=h p (zq _ hp);refine⟨es',h1,?_⟩;by_cases e:p.1=l
    · rw[a7,if_pos e]
      rw[e] at h2;have:es'=es:=by
        rcases hl with hl|⟨nw,z,hl⟩<;>rcases h2 with h2|⟨nw',z',h2⟩<;>rw[hl] at h2<;>cases h2<;>rfl
      rw[this];exact .inl rfl
    · rw[a7,if_neg e]
      exact h2
  rcases hl with hl|⟨nw,z,hl⟩
  · have R1:Rel cfg x N (updG s [(l,.d (.sl es))]) a w:=R.congr fun l'=>by
      rw[a7];split
      · rename_i e;rw[e,hl]
      · rfl
    obtain⟨x2,R2,F2,g1,g2,g3⟩:=Rel.givesL u R1 hrest2;refine⟨x2,R2,F2,g1,g2,fun p hp hown=> ?_⟩
    have hpl:p.1≠l:=fun e=>by obtain⟨_,_,_,h1⟩:=hown;rw[e,hl] at h1;cases h1
    rcases zr.1 hp with rfl|hp
    · exact absurd rfl hpl
    · exact g3 p hp (by rw[a7,if_neg hpl];exact hown)
  · obtain⟨b,h1,⟨o0,L0,C0,hb0⟩,R1⟩:=R.release hl
    obtain⟨x2,R2,F2,g1,g2,g3⟩:=Rel.givesL u R1 hrest2;have hnone:∀ b',x.ow b'=none→(x.give b none).ow b'=none:=fun b' hb'=>by
      by_cases e:b'=b
      · subst e;exact Cx.give_same _ _ _
      · rw[Cx.give_ne _ _ e];exact hb'
    have hcc:conc (x.give b none) a w=conc x a w:=by funext q;cases q<;>rfl
    refine⟨x2,R2,(Fr.give h1 _).trans F2,fun b' hb'=>g1 b' (hnone b' hb'),g2,fun p hp hown b' o L C hcv=> ?_⟩
    by_cases hpl:p.1=l
    · rw[hpl,hb0] at hcv
      cases hcv;exact g1 _ (Cx.give_same _ _ _)
    · rcases zr.1 hp with rfl|hp
      · exact absurd rfl hpl
      · exact g3 p hp (by rw[a7,if_neg hpl];exact hown) b' o L C (by rw[hcc];exact hcv)
theorem Rel.reread {s:Get} (R:Rel cfg x N s a w) {k:Nat} (hk:k<N) {y:D} (hy:Rd (freeB x) w (a.tmps.getD k undef) y):Rel cfg x N (updG s [(.slot k,.d y)]) a w:=by
 have:=R.put hk (v:=a.tmps.getD k undef) (y:= .d y) rfl (l:=none) (.d _ _ _ hy);have e:a.put (some k) (a.tmps.getD k undef)=a:=by
  simp only[Act.put]
  congr 1
  rw[Array.getD_eq_getD_getElem?];apply Array.ext_getElem?;intro i;by_cases h:k=i
  · subst h
    by_cases hlt:k<a.tmps.size
    · simp[hlt]
    · simp[hlt]
  · simp[Array.getElem?_setIfInBounds,h]
 rwa [e] at this
theorem Rel.givesP:∀ (u:List (Loc×V)) {s:Get},Rel cfg x N s a w→(∀ p∈u,∃ k y,p=(.slot k,.d y)∧k<N∧Rd (freeB x) w (a.tmps.getD k undef) y)→Rel cfg x N (updG s u) a w
 | [],s,R,_=>R
 | p::u,s,R,h=>by
  obtain⟨k,y,rfl,hk,hy⟩:=h p List.mem_cons_self;exact Rel.givesP u (R.reread hk hy) (fun p hp=>h p (zq _ hp))
theorem Rel.givesUp {s:Get} {x:Cx} (R:Rel cfg x N s a w) (l:List IOpd):∃ x',Rel cfg x' N (updG s (giveUp s l)) a w∧Fr dep x x' w w:=by
 obtain⟨x1,R1,F1,g1,g2,g3⟩:=Rel.givesL (dep:=dep) (giveL s l) R fun p hp=>by
  obtain⟨k,nw,z,es,_,h1,h2,_⟩:=jo hp;exact⟨es,h2,.inr ⟨nw,z,h1⟩⟩
 refine⟨x1,?_,F1⟩;unfold giveUp;rw[bm];refine Rel.givesP _ R1 fun p hp=> ?_
 obtain⟨k,l',o,n,z,es,_,rfl,h1,h2,h3⟩:=jn hp;obtain⟨u,hu,hr⟩:=R.locs _ _ h1;simp only[conc,Option.some.injEq] at hu;subst hu;obtain⟨b,o',cap',hv,⟨o2,L2,C2,hcv⟩,hle,hcap,hA⟩:=R.bor_at' hr h2;have hb1:=g3 (l',V.d (.sl es)) h3 ⟨false,z,es,h2⟩ b o2 L2 C2 hcv;refine⟨k,_,rfl,R.slotN _ _ h1,?_⟩;rw[hv];exact(hA.mono (fun b o u h1 h2=>⟨g1 b h1,h2⟩) (fun _ _ h=>h) (fun _ _ _ h=>h)).rd hb1 (by simp;omega) hcap
theorem sim_opD (hI:xg P cfg) (R:Rel cfg x N s a w) {o:Oper} {own:Bool} {io:IOp} (hop:cOp P own o.op=some io) (hk:∀ k,o.dst=some k→k<N) (hds:o.dst=none→io.isStore=true)
   {u:List (Loc×V)} (hu:evOpD cfg dep s o.dst io=some u):Goes P cfg x N dep (updG s u) a w o:=by
 unfold evOpD at hu;split at hu
 · rw[yw] at hu
   obtain⟨u1,h1,h2⟩:=hu;subst h2;obtain⟨x1,R1,F1⟩:=R.givesUp (dep:=dep) (upds io);obtain⟨v,w',x',g1,g2,g3⟩:=sim_op hI R1 hop hk hds h1;rw[bm];exact⟨v,w',x',g1,g2,F1.trans g3⟩
 · exact sim_op hI R hop hk hds hu
theorem x6 {orc:Orc} (hC:CfgOk P cfg) (hO:OrcOk P cfg orc) (R:Rel cfg x N s a w) {ops:Array Oper} {o:Oper} {io:IOper} (hc:COper P N ops o io) (hg:guardOk s io.guard=some true) {u:List (Loc×V)} (hu:stepU cfg orc dep s io=some u):
   Walks P cfg x N dep (updG s u) a w o:=by
 unfold stepU at hu;rw[hg] at hu;simp only at hu;obtain⟨own0,gv,hop⟩:=hc.op;have hopS:io.op≠ .bad→(∀ own f args i,io.op≠ .callg own f args i)→cOp P own0 o.op=some io.op:=fun h hg'=>by
   have hop:=aug hop hg';cases hq:cOp P own0 o.op with
   |none=>rw[hq] at hop;exact absurd hop.symm h
   |some q=>rw[hq] at hop;exact congrArg some hop
 split at hu
 · cases hu
 · rename_i hds
   split at hu
   · rename_i hcall
     have hop':=hopS (fun e=>by rw[e] at hcall;simp[isCallOp] at hcall) (fun _ _ _ _ e=>by rw[e] at hcall;simp[isCallOp] at hcall)
     have hst:io.op.isStore=false:=by cases h:io.op<;>rw[h] at hcall<;>first|rfl|simp[isCallOp] at hcall
     have hd:∃ k,o.dst=some k:=by
       rw[hst,hc.dst] at hds;cases h:o.dst with
       |none=>simp[h] at hds
       |some k=>exact⟨k,rfl⟩
     obtain⟨k,hd⟩:=hd;have hk:=hc.lt k hd;split at hu
     · rename_i p hclip
       simp only[y8] at hu;obtain⟨y,hy,hu⟩:=hu;unfold clipArg at hclip;split at hclip
       · rename_i own f p' hio
         split at hclip
         · rename_i hf
           cases hclip;rw[hio] at hop'
           obtain⟨c,ho,hcal,his⟩:=a4q hop';rw[hc.dst,hd] at hu;exact sim_clip hC.clip R hf hd hk hcal ho his hy hu
         · cases hclip
       · cases hclip
     · split at hu
       · rename_i own f vs ht
         obtain⟨args,h1,h2⟩:=mp hC.meth R hop' hcall ht;rw[hc.dst] at hu;split at hu
         · rename_i u' hcu
           cases hu;exact x8 hO R hd hk h1 (by simpa using h2.1) (fun i v y e1 e2=>h2.2 i v y (by simpa using e1) e2) hcu
         · unfold callR at hu
           split at hu
           · rename_i own' f' args' hio
             have hu:callT cfg orc s o.dst own' f' args'=some u:=by
              split at hu
              · split at hu
                · exact hu
                · cases hu
              · cases hu
             unfold callT at hu;simp only[y8,yw] at hu;obtain⟨vs',hvs',u',hu',rfl⟩:=hu;obtain⟨x',R',F'⟩:=R.givesUp (dep:=dep) args';have ht':target cfg (updG s (giveUp s args')) io.op=some (own',f',vs'):=by rw[hio];simp only[target,hvs',Option.map_some]
             obtain⟨args2,k1,k2⟩:=mp hC.meth R' hop' hcall ht';rw[bm];exact(x8 hO R' hd hk k1 (by simpa using k2.1) (fun i v y e1 e2=>k2.2 i v y (by simpa using e1) e2) hu').pre F'
           · cases hu
       · cases hu
   · unfold evOpG at hu
     split at hu
     · rename_i own f args i hio
       rw[hio] at hop;obtain⟨c,ho,hcal,his⟩:=a4q (gOp_g hop);rw[hc.dst] at hu hds;rw[hio] at hds;have hd:∃ k,o.dst=some k:=by
         cases h:o.dst with
         |none=>simp[h,IOp.isStore] at hds
         |some k=>exact⟨k,rfl⟩
       obtain⟨k,hd⟩:=hd;exact axx hO R hd (hc.lt k hd) ho hcal his hu
     · rename_i hng
       by_cases hbad:io.op= .bad
       · rw[hbad] at hu;cases hu
       · rw[hc.dst] at hu hds
         refine(sim_opD hC.intTy R (hopS hbad hng) hc.lt (fun h=> ?_) hu).walks
         rw[h] at hds;simpa using hds
theorem x7 {orc:Orc} (hC:CfgOk P cfg) (hO:OrcOk P cfg orc) {st st':St} (R:Rel cfg x N st.get a w) {ops:Array Oper} {o:Oper} {io:IOper} (hc:COper P N ops o io) (hu:stepM cfg orc dep st io=some st'):
   guardOk st.get io.guard=some true∧Walks P cfg x N dep st'.get a w o:=by
 unfold stepM at hu;split at hu
 · rename_i hg
   refine⟨hg,?_⟩;split at hu
   · rename_i hq
     simp only[ze] at hq;obtain⟨⟨hds,hcall⟩,_⟩:=hq;obtain⟨own0,gv,hop⟩:=hc.op;have hop:=aug hop (fun _ _ _ _ e=>by rw[e] at hcall;simp[isCallOp] at hcall)
     have hop':cOp P own0 o.op=some io.op:=by
       cases hq:cOp P own0 o.op with
       |none=>rw[hq] at hop;rw[← hop] at hcall;simp[isCallOp] at hcall
       |some q=>rw[hq] at hop;exact congrArg some hop
     rw[hc.dst] at hds;obtain⟨k,hd⟩:=zn.1 hds;split at hu
     · rename_i own f vs ht
       obtain⟨args,h1,h2⟩:=mp hC.meth R hop' hcall ht;rw[hc.dst] at hu;exact axw hO R hd (hc.lt k hd) h1 (by simpa using h2.1) (fun i v y e1 e2=>h2.2 i v y (by simpa using e1) e2) hu
     · cases hu
   · cases hu
 · cases hu
theorem axh {orc:Orc} (hC:CfgOk P cfg) (hO:OrcOk P cfg orc) {st st':St} (R:Rel cfg x N st.get a w) {ops:Array Oper} {o:Oper} {io:IOper} (hc:COper P N ops o io) (hu:evStep cfg orc dep st io=some st')
   {next:Act→World→Prop} {Q:Exit→Act→World→Prop} (hn:∀ v w' x',Rel cfg x' N st'.get (a.put o.dst v) w'→Fr dep x x' w w'→next (a.put o.dst v) w'):
   (Region.wanted o (yielded ops a.tmps)=true∧o.wp P a w next Q)∨(Region.wanted o (yielded ops a.tmps)=false∧next (a.put o.dst undef) w):=by
 unfold evStep at hu;split at hu
 · rename_i u hsu
   cases hu;rw[d7] at hn;cases hg:guardOk st.get io.guard with
   |none=>unfold stepU at hsu;rw[hg] at hsu;cases hsu
   | some t=>
    cases t
    · refine .inr ⟨cn R hc hg,?_⟩
      unfold stepU at hsu;rw[hg] at hsu;cases hsu;refine hn undef w x ?_ (.refl _ _ _);rw[hc.dst];cases hd:o.dst with
      |none=>exact R
      |some k=>exact R.put (hc.lt k hd) rfl (l:=none) (.d _ _ _ (aj3 _ _))
    · exact .inl ⟨cn R hc hg,x6 hC hO R hc hg hsu next Q hn⟩
 · obtain⟨hg,hw⟩:=x7 hC hO R hc hu
   exact .inl ⟨cn R hc hg,hw next Q hn⟩
theorem ajy {orc:Orc} (hC:CfgOk P cfg) (hO:OrcOk P cfg orc) {ops:Array Oper} {Q:Exit→Act→World→Prop}:∀ (l:List IOper) (i:Nat) (x:Cx) (a:Act) (w:World) (st st':St),Rel cfg x N st.get a w→
  (∀ j io,l[j]? =some io→∃ o,ops[i+j]? =some o∧COper P N ops o io)→evOps cfg orc dep l st=some st'→
  (∀ a' w' x',Rel cfg x' N st'.get a' w'→Fr dep x x' w w'→Q .normal a' w')→wpOps P ops Q (List.range' i l.length) a w
 | [],i,x,a,w,st,st',R,_,h,hQ=>by
  cases h;exact hQ a w x R (.refl _ _ _)
 | io::l,i,x,a,w,st,st',R,hl,h,hQ=>by
  obtain⟨o,ho,hc⟩:=hl 0 io rfl;unfold evOps at h;split at h
  · rename_i st1 hst
    have hrest:∀ v w' x',Rel cfg x' N st1.get (a.put o.dst v) w'→Fr dep x x' w w'→wpOps P ops Q (List.range' (i+1) l.length) (a.put o.dst v) w':=fun v w' x' R' F=>
      ajy hC hO l (i+1) x' _ w' st1 st' R' (fun j io' hj=>by
       obtain⟨o',h1,h2⟩:=hl (j+1) io' (by simpa using hj)
       exact⟨o',by rw[show i+1+j=i+(j+1) by omega];exact h1,h2⟩) h (fun a' w'' x'' R'' F'=>hQ a' w'' x'' R'' (F.trans F'))
    rw[List.length_cons,List.range'_succ];simp only[Nat.add_zero] at ho;unfold wpOps;rw[ho];simp only;rcases axh hC hO R hc hst (Q:=Q) hrest with⟨h1,h2⟩|⟨h1,h2⟩
    · rw[if_pos h1];exact .inl h2
    · rw[if_neg (by rw[h1];simp)];exact h2
  · cases h
end
end Go.Ev
namespace Go.Ev
open Go
section
variable {cfg:Cfg} {dep n:Nat} {s s':Get}
theorem ae {x:IOpd} (h:∀ l∈aa s n x,s' l=s l):val cfg s' x=val cfg s x:=by
 cases x with
 |t k=>exact h (.slot k) (by simp[aa])
 |c d=>rfl
 |g k=>rfl
theorem mj {x:IOpd} {l:Loc} {o m:Nat} (h:val cfg s x=some (.bor l o m)):l∈aa s n x:=by
 cases x with
 | t k=>
  have h':s (.slot k)=some (.bor l o m):=h;simp[aa,h']
 |c d=>simp[val] at h
 |g k=>simp[val] at h
theorem a44 {x:IOpd} {l:Loc} {o m:Nat} (h:val cfg s x=some (.bref l o m)):l∈aa s n x:=by
 cases x with
 | t k=>
  have h':s (.slot k)=some (.bref l o m):=h;simp[aa,h']
 |c d=>simp[val] at h
 |g k=>simp[val] at h
theorem axl:∀ (n d k off:Nat) (j:Nat),j<n→Loc.cell ⟨d,k,off+j⟩∈fv d k off n
 |n+1,d,k,off,0,_=>by simp[fv]
 | n+1,d,k,off,j+1,h=>by
  have:=axl n d k (off+1) j yp;rw[show off+1+j=off+(j+1) by omega] at this
  simp[fv,this]
theorem ref_in {x:IOpd} {d k off:Nat} (h:val cfg s x=some (.ref d k off)):∀ j,j<n→Loc.cell ⟨d,k,off+j⟩∈aa s n x:=by
 intro j hj;cases x with
 | t k'=>
  have h':s (.slot k')=some (.ref d k off):=h;simp only[aa,h'];exact zq _ (axl n d k off j hj)
 |c d=>simp[val] at h
 |g k=>simp[val] at h
theorem d8 {x:IOpd} (h:∀ l∈aa s n x,s' l=s l):dat cfg s' x=dat cfg s x:=by unfold dat;rw[ae h]
theorem auy {x:IOpd} {v:V} (hv:val cfg s x=some v) (h:∀ l∈aa s n x,s' l=s l):cont s' v=cont s v:=by
 cases v with
 |bor l o m=>simp only[cont];rw[h l (mj hv)]
 |d y=>cases y<;>rfl
 |_=>rfl
theorem argD_loc {x:IOpd} {v:V} (hv:val cfg s x=some v) (h:∀ l∈aa s n x,s' l=s l):argD s' v=argD s v:=by
 cases v with
 |bor l o m=>simp only[argD];rw[h l (mj hv)]
 |iptr e o=>cases o<;>rfl
 |_=>rfl
theorem ul {x:IOpd} (h:∀ l∈aa s n x,s' l=s l):(val cfg s' x).bind (cont s')=(val cfg s x).bind (cont s):=by
 rw[ae h];cases hv:val cfg s x with
 |none=>rfl
 |some v=>simp only[Option.bind_some];exact auy hv h
theorem auu:∀ {xs:List IOpd},(∀ l∈xs.flatMap (aa s n),s' l=s l)→dats cfg s' xs=dats cfg s xs
 | [],_=>rfl
 | x::xs,h=>by
  simp only[dats];rw[d8 (n:=n) (x:=x) (fun l hl=>h l (by simp[hl])),auu (fun l hl=>h l (by
   rw[List.flatMap_cons];exact aak _ hl))]
theorem ft:∀ {xs:List IOpd},(∀ l∈xs.flatMap (aa s n),s' l=s l)→vals cfg s' xs=vals cfg s xs
 | [],_=>rfl
 | x::xs,h=>by
  simp only[vals];rw[ae (n:=n) (x:=x) (fun l hl=>h l (by simp[hl])),ft (fun l hl=>h l (by
   rw[List.flatMap_cons];exact aak _ hl))]
theorem sy:∀ {ps:List (Nat×IOpd)},(∀ l∈(ps.map fun p=>p.2).flatMap (aa s n),s' l=s l)→parts2 cfg s' ps=parts2 cfg s ps
 | [],_=>rfl
 | (i,x)::xs,h=>by
  simp only[parts2];rw[d8 (n:=n) (x:=x) (fun l hl=>h l (by simp[hl])),sy (fun l hl=>h l (by
   rw[List.map_cons,List.flatMap_cons];exact aak _ hl))]
theorem sr:∀ {ps:List (Nat×IOpd)} {i:Nat},(∀ l∈(ps.map fun p=>p.2).flatMap (aa s n),s' l=s l)→cz cfg s' i ps=cz cfg s i ps
 | [],_,_=>rfl
 | (j,x)::xs,i,h=>by
  simp only[cz];rw[ae (n:=n) (x:=x) (fun l hl=>h l (by simp[hl])),sr (ps:=xs) (fun l hl=>h l (by
   rw[List.map_cons,List.flatMap_cons];exact aak _ hl))]
theorem py {k:Nat}:∀ {ps:List (Nat×Nat×IOpd)} {i:Nat} {s s':Get},(∀ j,IOpd.t j∈ps.map (fun p=>p.2.2)→s' (.slot j)=s (.slot j))→recOf cfg k s' i ps=recOf cfg k s i ps
 | [],_,_,_,_=>rfl
 | (o,n,x)::xs,i,s,s',h=>by
  have hx:val cfg s' x=val cfg s x:=by
   cases x with
   |t j=>exact h j yt
   |c d=>rfl
   |g n=>rfl
  have h1:recOf cfg k s' (i+1) xs=recOf cfg k s (i+1) xs:=py fun j hj=>h j (by simp only[List.map_cons];exact zq _ hj)
  have h2:∀ j',recOf cfg k (updG s' [(.slot j',.junk)]) (i+1) xs=recOf cfg k (updG s [(.slot j',.junk)]) (i+1) xs:=fun j'=>py fun j hj=>by
   simp only[a7];split
   · rfl
   · exact h j (by simp only[List.map_cons];exact zq _ hj)
  unfold recOf;simp only[hx,h1,h2]
theorem sx:∀ {ps:List (Nat×Nat×IOpd)},(∀ l∈(ps.map fun p=>p.2.2).flatMap (aa s n),s' l=s l)→c8 cfg s' ps=c8 cfg s ps
 | [],_=>rfl
 | (i,j,x)::xs,h=>by
  simp only[c8];rw[d8 (n:=n) (x:=x) (fun l hl=>h l (by simp[hl])),sx (fun l hl=>h l (by
   rw[List.map_cons,List.flatMap_cons];exact aak _ hl))]
theorem tq:∀ (m d k off:Nat),(∀ j,j<m→s' (.cell ⟨d,k,off+j⟩)=s (.cell ⟨d,k,off+j⟩))→cw s' d k off m=cw s d k off m
 |0,_,_,_,_=>rfl
 | m+1,d,k,off,h=>by
  have h0:=h 0 yp;simp only[Nat.add_zero] at h0;have ih:=tq m d k (off+1) (fun j hj=>by
   have:=h (j+1) yp
   rwa [show off+(j+1)=off+1+j by omega] at this)
  simp only[cw,h0,ih]
theorem ae8:∀ (m d k off:Nat),(∀ j,j<m→s' (.cell ⟨d,k,off+j⟩)=s (.cell ⟨d,k,off+j⟩))→alive s' d k off m=alive s d k off m
 |0,_,_,_,_=>rfl
 | m+1,d,k,off,h=>by
  have h0:=h 0 yp;simp only[Nat.add_zero] at h0;have ih:=ae8 m d k (off+1) (fun j hj=>by
   have:=h (j+1) yp
   rwa [show off+(j+1)=off+1+j by omega] at this)
  simp only[alive,h0,ih]
theorem a37 {x:IOpd} {v:V} (dst:Option Nat) (hv:val cfg s x=some v) (h:∀ l∈aa s n x,s' l=s l):evAsg s' dst x v=evAsg s dst x v:=by
 cases v with
 |bor l o m=>cases x<;>simp only[evAsg]<;>rw[h l (mj hv)]
 |d y=>cases y<;>cases x<;>rfl
 |own nw z0 es0=>cases nw<;>cases x<;>rfl
 |_=>cases x<;>rfl
theorem awq {x:IOpd} {v:V} (dst z:Option Nat) (hn:n=z.getD 1) (hv:val cfg s x=some v) (h:∀ l∈aa s n x,s' l=s l):dx s' dst z v=dx s dst z v:=by
 cases v with
 |bref l i o=>simp only[dx];rw[h l (a44 hv)]
 | ref d k off=>
  have hr:=fun j hj=>h _ (ref_in (n:=n) hv j hj)
  cases z with
  | none=>
   have:=hr 0 (by rw[hn];decide)
   simp only[Nat.add_zero] at this;simp only[dx,this]
  | some m=>
   simp only[Option.getD_some] at hn;subst hn;simp only[dx,tq n d k off hr]
 |d y=>cases y<;>rfl
 |_=>rfl
theorem ai8 {p x:IOpd} {va v:V} (hp:val cfg s p=some va) (hv:val cfg s x=some v) (h:∀ l∈aa s n p,s' l=s l) (h':∀ l∈aa s n x,s' l=s l):br s' n va x v=br s n va x v:=by
 cases va with
 |bref l i o=>simp only[br];rw[h l (a44 hp)]
 | ref d k off=>
  have hr:=fun j hj=>h _ (ref_in (n:=n) hp j hj)
  simp only[br,ae8 n d k off hr];cases v with
  |bor l o m=>cases x<;>simp only[]<;>rw[h' l (mj hv)]
  |d y=>cases y<;>cases x<;>rfl
  |own nw z0 es0=>cases nw<;>cases x<;>rfl
  |_=>cases x<;>rfl
 |d y=>cases y<;>rfl
 |_=>rfl
theorem po {lo hi:Option IOpd} (len:Nat) (h:∀ l∈(lo.toList++hi.toList).flatMap (aa s n),s' l=s l):bc cfg s' len lo hi=bc cfg s len lo hi:=by
 have hlo:∀ x,lo=some x→dat cfg s' x=dat cfg s x:=fun x e=>d8 (n:=n) (fun l hl=>h l (by subst e;simp[hl]))
 have hhi:∀ x,hi=some x→dat cfg s' x=dat cfg s x:=fun x e=>d8 (n:=n) (fun l hl=>h l (by subst e;simp[hl]))
 cases lo<;>cases hi<;>simp only[bc]
 · rw[hhi _ rfl]
 · rw[hlo _ rfl]
 · rw[hlo _ rfl,hhi _ rfl]
theorem axb {mx:Option IOpd} (len:Nat) (h:∀ l∈mx.toList.flatMap (aa s n),s' l=s l):topOf cfg s' len mx=topOf cfg s len mx:=by
 cases mx with
 |none=>rfl
 |some x=>simp only[topOf];rw[d8 (n:=n) (fun l hl=>h l (by simp[hl]))]
theorem ai9 {x:IOpd} {v:V} {lo hi mx:Option IOpd} (dst:Option Nat) (z:Nat) (hv:val cfg s x=some v) (h:∀ l∈aa s n x,s' l=s l) (h':∀ l∈(lo.toList++hi.toList).flatMap (aa s n),s' l=s l)
  (h'':∀ l∈mx.toList.flatMap (aa s n),s' l=s l):fl cfg s' dst z x v lo hi mx=fl cfg s dst z x v lo hi mx:=by
 unfold fl;rw[auy hv h];cases cont s v with
 |none=>rfl
 | some es=>
  simp only[axb es.length h''];cases topOf cfg s es.length mx with
  |none=>rfl
  | some top=>
   simp only[po top h'];cases bc cfg s top lo hi with
   |none=>rfl
   | some lh=>
    simp only;cases v with
    |bor l o m=>cases x<;>simp only[]<;>rw[h l (mj hv)]
    |d y=>cases y<;>cases x<;>rfl
    |own nw z0 es0=>cases nw<;>cases x<;>rfl
    |_=>cases x<;>rfl
theorem a33 {x:IOpd} {v:V} (dst:Option Nat) (z:Nat) (j:Int) (hv:val cfg s x=some v) (h:∀ l∈aa s n x,s' l=s l):evIdx s' dst z x v j=evIdx s dst z x v j:=by
 unfold evIdx;cases v with
 |bor l o m=>cases x<;>simp only[]<;>rw[h l (mj hv)]
 |d y=>cases y<;>cases x<;>rfl
 |own nw z0 es0=>cases nw<;>cases x<;>rfl
 |_=>cases x<;>rfl
theorem n7 {x:IOpd} {v:V} (dst:Option Nat) (z b:Nat) (ys:List D) (hv:val cfg s x=some v) (h:∀ l∈aa s n x,s' l=s l):cx s' dst z b x v ys=cx s dst z b x v ys:=by
 unfold cx;cases v with
 |bor l o m=>cases x<;>simp only[]<;>rw[h l (mj hv)]
 |d y=>cases y<;>cases x<;>rfl
 |own nw z0 es0=>cases nw<;>cases x<;>rfl
 |_=>cases x<;>rfl
theorem awr {x:IOpd} {v:V} (dst:Option Nat) (z:Nat) (ys:List D) (hv:val cfg s x=some v) (h:∀ l∈aa s n x,s' l=s l):mc s' dst z x v ys=mc s dst z x v ys:=by
 unfold mc;cases v with
 |bor l o m=>cases x<;>simp only[]<;>rw[h l (mj hv)]
 | own nw z' es=>
  cases x with
  | t k=>
   cases nw
   · simp only
     rw[h (.slot k) (by simp[aa])]
   · rfl
  |_=>rfl
 |d y=>cases y<;>cases x<;>rfl
 |_=>cases x<;>rfl
end
end Go.Ev
namespace Go.Ev
open Go
section
variable {cfg:Cfg} {dep:Nat} {s s':Get}
theorem auo {dst:Option Nat} {io:IOp} (h:∀ l∈io.operands.flatMap (aa s io.span),s' l=s l)
  (hb:∀ k,dst=some k→(∀ zs,io= .alloc zs→s' (.cell ⟨dep,k,0⟩)=s (.cell ⟨dep,k,0⟩))∧(∀ n x,io= .box n x→s' (.cell ⟨dep,k,0⟩)=s (.cell ⟨dep,k,0⟩))):
  evOp cfg dep s' dst io=evOp cfg dep s dst io:=by
 have h1:∀ x,io.operands=[x]→∀ l∈aa s io.span x,s' l=s l:=fun x e l hl=>h l (by rw[e];simpa using hl)
 have h2:∀ x y,io.operands=[x,y]→(∀ l∈aa s io.span x,s' l=s l)∧∀ l∈aa s io.span y,s' l=s l:=fun x y e=>⟨fun l hl=>h l (by rw[e];simp[hl]),fun l hl=>h l (by rw[e];simp[hl])⟩
 cases io with
 |mv x=>simp only[evOp];rw[ae (h1 x rfl)]
 | asg x=>
  simp only[evOp];rw[ae (h1 x rfl)];cases hv:val cfg s x with
  |none=>rfl
  |some v=>simp only[Option.bind_some];exact a37 dst hv (h1 x rfl)
 | pick c a b=>
  have hc:∀ l∈aa s 0 c,s' l=s l:=fun l hl=>h l (by simp[IOp.operands];exact .inl hl)
  have ha:∀ l∈aa s 0 a,s' l=s l:=fun l hl=>h l (by simp[IOp.operands];exact .inr (.inl hl))
  have hb':∀ l∈aa s 0 b,s' l=s l:=fun l hl=>h l (by simp[IOp.operands];exact .inr (.inr hl))
  simp only[evOp];rw[ae hc];cases hv:val cfg s c with
  |none=>rfl
  | some v=>
   cases v with
   | d y=>
     cases y with
     | bool t=>
      have e:val cfg s' (if t=true then a else b)=val cfg s (if t=true then a else b):=by
       cases t
       · exact ae hb'
       · exact ae ha
      simp only[e]
     |_=>rfl
   |_=>rfl
 | alloc zs=>
  cases dst with
  |none=>rfl
  |some k=>simp only[evOp];rw[(hb k rfl).1 zs rfl]
 | box n x=>
  cases dst with
  |none=>rfl
  | some k=>
   simp only[evOp];rw[ae (h1 x rfl)];cases hv:val cfg s x with
   |none=>rfl
   |some v=>simp only[evBox];rw[(hb k rfl).2 n x rfl]
 |build zs ps=>simp only[evOp];rw[sx h]
 | buildR n ps=>
  cases dst with
  |none=>rfl
  | some k=>
   simp only[evOp];rw[py fun j hj=>h _ (aab.2 ⟨.t j,hj,by simp[aa]⟩)]
 |lit own z n zd ps=>simp only[evOp,evVec];rw[sy h,sr h]
 | load z a=>
  simp only[evOp];rw[ae (h1 a rfl)];cases hv:val cfg s a with
  |none=>rfl
  |some v=>simp only[Option.bind_some];exact awq dst z rfl hv (h1 a rfl)
 | store n a x=>
  obtain⟨ha,hx⟩:=h2 a x rfl;simp only[evOp];rw[ae ha,ae hx];cases hva:val cfg s a with
  |none=>rfl
  | some va=>
   cases hvx:val cfg s x with
   |none=>rfl
   |some vx=>simp only;rw[show br s' n va x vx=br s n va x vx from ai8 hva hvx ha hx]
 |nilck x=>simp only[evOp];rw[ae (h1 x rfl)]
 |bin op x y=>obtain⟨ha,hx⟩:=h2 x y rfl;simp only[evOp];rw[ae ha,ae hx]
 |eqn neg c x y=>obtain⟨ha,hx⟩:=h2 x y rfl;simp only[evOp];rw[ae ha,ae hx]
 |isNil neg x=>simp only[evOp];rw[ae (h1 x rfl)]
 |un op x=>simp only[evOp];rw[ae (h1 x rfl)]
 |cvInt k x=>simp only[evOp];rw[ae (h1 x rfl)]
 |cvStr x=>simp only[evOp];rw[ae (h1 x rfl)]
 |b2s x=>simp only[evOp];rw[ul (h1 x rfl)]
 |s2b own x=>simp only[evOp];rw[ae (h1 x rfl)]
 |cvB own x=>simp only[evOp];rw[ae (h1 x rfl)]
 |mkI t x=>simp only[evOp];rw[ae (h1 x rfl)]
 | mkF f a b=>
  have ha:∀ l∈a.flatMap (aa s 0),s' l=s l:=fun l hl=>h l (by simp only[IOp.operands,List.flatMap_append];exact List.mem_append_left _ hl)
  have hb':∀ l∈b.flatMap (aa s 0),s' l=s l:=fun l hl=>h l (by simp only[IOp.operands,List.flatMap_append];exact aak _ hl)
  simp only[evOp];rw[ft ha,ft hb']
 |mkS z b zd l c=>obtain⟨ha,hx⟩:=h2 l c rfl;simp only[evOp];rw[d8 ha,d8 hx]
 | slice z x lo hi mx=>
  have hx:∀ l∈aa s 0 x,s' l=s l:=fun l hl=>h l (by simp[IOp.operands];exact .inl hl)
  have hlh:∀ l∈(lo.toList++hi.toList).flatMap (aa s 0),s' l=s l:=fun l hl=>h l (by
   simp only[IOp.operands,List.flatMap_append] at hl ⊢;simp only[aan] at hl ⊢;rcases hl with hl|hl
   · exact .inl (.inl (.inr hl))
   · exact .inl (.inr hl))
  have hm:∀ l∈mx.toList.flatMap (aa s 0),s' l=s l:=fun l hl=>h l (by
   simp only[IOp.operands,List.flatMap_append];exact aak _ hl)
  simp only[evOp];rw[ae hx];cases hv:val cfg s x with
  |none=>rfl
  |some v=>simp only[Option.bind_some];exact ai9 dst z hv hx hlh hm
 | sliceS x lo hi=>
  have hx:∀ l∈aa s 0 x,s' l=s l:=fun l hl=>h l (by simp[IOp.operands];exact .inl hl)
  have hlh:∀ l∈(lo.toList++hi.toList).flatMap (aa s 0),s' l=s l:=fun l hl=>h l (by
   simp only[IOp.operands,List.flatMap_append] at hl ⊢;simp only[aan] at hl ⊢;rcases hl with hl|hl
   · exact .inl (.inr hl)
   · exact .inr hl)
  simp only[evOp];rw[ae hx];cases hv:val cfg s x with
  |none=>rfl
  | some v=>
   cases v with
   | d y=>
     cases y with
     |str b=>simp only;rw[po b.length hlh]
     |_=>rfl
   |_=>rfl
 |fieldA off x=>simp only[evOp];rw[ae (h1 x rfl)]
 |field off z x=>simp only[evOp];rw[ae (h1 x rfl)]
 | idxA z x i=>
  obtain⟨ha,hx⟩:=h2 x i rfl;simp only[evOp];rw[ae ha,d8 hx];cases hv:val cfg s x with
  |none=>rfl
  | some v=>
   cases(dat cfg s i).bind D.toInt? with
   |none=>rfl
   |some j=>simp only;exact a33 dst z j hv ha
 |idxS x i=>obtain⟨ha,hx⟩:=h2 x i rfl;simp only[evOp];rw[ae ha,d8 hx]
 |idxC n z g x i=>obtain⟨ha,hx⟩:=h2 x i rfl;simp only[evOp];rw[ae ha,d8 hx]
 |idxB n z x i=>obtain⟨ha,hx⟩:=h2 x i rfl;simp only[evOp];rw[ae ha,d8 hx]
 |ext x i=>simp only[evOp];rw[ae (h1 x rfl)]
 |len isS x=>cases isS<;>simp only[evOp]<;>rw[ae (h1 x rfl)]
 |minmax mx xs=>simp only[evOp];rw[show dats cfg s' xs=dats cfg s xs from auu (n:=0) h]
 | append z b x y=>
  obtain⟨ha,hx⟩:=h2 x y rfl;simp only[evOp];rw[ae ha,ul hx];cases hv:val cfg s x with
  |none=>rfl
  | some v=>
   cases(val cfg s y).bind (cont s) with
   |none=>rfl
   |some ys=>simp only;exact n7 dst z b ys hv ha
 | appendS x y=>
  obtain⟨ha,hx⟩:=h2 x y rfl;simp only[evOp];rw[ae ha,ae hx];cases hv:val cfg s x with
  |none=>rfl
  | some v=>
   cases val cfg s y with
   |none=>rfl
   | some w=>
     cases w with
     | d d=>
      cases d with
      |str b=>simp only;exact n7 dst 1 1 _ hv ha
      |_=>rfl
     |_=>rfl
 | copy z x y=>
  obtain⟨ha,hx⟩:=h2 x y rfl;simp only[evOp];rw[ae ha,ul hx];cases hv:val cfg s x with
  |none=>rfl
  | some v=>
   cases(val cfg s y).bind (cont s) with
   |none=>rfl
   |some ys=>simp only;exact awr dst z ys hv ha
 |tass t zero ok x=>simp only[evOp];rw[ae (h1 x rfl)]
 |call own f args=>rfl
 |callg own f args i=>rfl
 |callv own x args=>rfl
 |inv own x nm args=>rfl
 |bad=>rfl
theorem gg:∀ {vs:List V},(∀ v∈vs,argD s' v=argD s v)→argsD s' vs=argsD s vs
 | [],_=>rfl
 | v::vs,h=>by
  simp only[argsD];rw[h v yt,gg (fun u hu=>h u (by simp[hu]))]
theorem nk {v:V} (h:v.plainV=true):argD s' v=argD s v:=by
 cases v with
 |iptr e o=>cases o<;>rfl
 |bor l o n=>simp[V.plainV] at h
 |_=>rfl
theorem fq {n:Nat}:∀ {xs:List IOpd} {vs:List V},vals cfg s xs=some vs→(∀ l∈xs.flatMap (aa s n),s' l=s l)→∀ v∈vs,argD s' v=argD s v
 | [],vs,hv,_,v,hm=>by cases hv;simp at hm
 | x::xs,vs,hv,h,v,hm=>by
  unfold vals at hv;split at hv
  · rename_i v' vs' h1 h2
    cases hv;rcases zr.1 hm with rfl|hm
    · exact argD_loc (n:=n) h1 (fun l hl=>h l (by simp[hl]))
    · exact fq (n:=n) h2 (fun l hl=>h l (by
     rw[List.flatMap_cons];exact aak _ hl)) v hm
  · cases hv
theorem sb {io:IOp} (h:∀ l∈io.operands.flatMap (aa s io.span),s' l=s l):target cfg s' io=target cfg s io∧∀ own f vs,target cfg s io=some (own,f,vs)→argsD s' vs=argsD s vs:=by
 cases io with
 | call own f args=>
  refine⟨by simp only[target];rw[show vals cfg s' args=vals cfg s args from ft (n:=0) h],fun own' f' vs ht=> ?_⟩
  simp only[target,yw] at ht;obtain⟨vs',hv,he⟩:=ht;cases he;exact gg (fq (n:=0) hv h)
 | callv own x args=>
  have hx:∀ l∈aa s 0 x,s' l=s l:=fun l hl=>h l (by simp[IOp.operands];exact .inl hl)
  have ha:∀ l∈args.flatMap (aa s 0),s' l=s l:=fun l hl=>h l (by
    simp only[IOp.operands,List.flatMap_cons];exact aak _ hl)
  refine⟨by simp only[target];rw[ae hx,ft ha],fun own' f' vs ht=> ?_⟩
  simp only[target] at ht;split at ht
  · rename_i f0 vs' hv hvs
    cases ht;exact gg (fq hvs ha)
  · rename_i f0 va vb vs' hv hvs
    split at ht
    · rename_i hq
      simp only[ze,aac] at hq;cases ht;refine gg fun v hm=> ?_
      simp only[aan] at hm;rcases hm with(hm|hm)|hm
      · exact nk (hq.1 v hm)
      · exact fq hvs ha v hm
      · exact nk (hq.2 v hm)
    · cases ht
  · cases ht
 | inv own x nm args=>
  have hx:∀ l∈aa s 0 x,s' l=s l:=fun l hl=>h l (by simp[IOp.operands];exact .inl hl)
  have ha:∀ l∈args.flatMap (aa s 0),s' l=s l:=fun l hl=>h l (by
    simp only[IOp.operands,List.flatMap_cons];exact aak _ hl)
  refine⟨by simp only[target];rw[ae hx,ft ha],fun own' f' vs ht=> ?_⟩
  simp only[target] at ht;split at ht
  · rename_i t d vs' hv hvs
    simp only[yw] at ht;obtain⟨f0,_,he⟩:=ht;cases he;refine gg fun v hm=> ?_
    rcases zr.1 hm with rfl|hm
    · rfl
    · exact fq hvs ha v hm
  · rename_i t y vs' hv hvs
    split at ht
    · rename_i hq
      simp only[yw] at ht;obtain⟨f0,_,he⟩:=ht;cases he;refine gg fun v hm=> ?_
      rcases zr.1 hm with rfl|hm
      · exact nk hq
      · exact fq hvs ha v hm
    · cases ht
  · cases ht
 |_=>exact⟨rfl,fun _ _ _ h=>by cases h⟩
theorem aef {g:Option (Nat×Bool)} (h:∀ k b,g=some (k,b)→s' (.slot k)=s (.slot k)):guardOk s' g=guardOk s g:=by
 cases g with
 |none=>rfl
 | some kb=>
  obtain⟨k,b⟩:=kb;simp only[guardOk];rw[h k b rfl]
theorem av8 {n:Nat} {x:IOpd} {v:V} (hv:val cfg s x=some v) (h:∀ l∈aa s n x,s' l=s l):givenV s' x v=givenV s x v:=by
 cases v with
 |bor l o m=>cases x<;>simp only[givenV]<;>rw[h l (mj hv)]
 |d y=>cases y<;>cases x<;>rfl
 |own nw z es=>cases nw<;>cases x<;>rfl
 |_=>cases x<;>rfl
theorem gp:∀ (u:List (Loc×V)) {s s':Get} {l:Loc},s' l=s l→updG s' u l=updG s u l
 | [],_,_,_,h=>h
 | (l0,v)::r,s,s',l,h=>gp r (by show(if l=l0 then some v else s' l)=(if l=l0 then some v else s l);rw[h])
theorem aiu {x:IOpd} {v:V} {g:List (Loc×V)×V} (h:givenV s x v=some g):g.1=[]∨∃ l,g.1=[(l,.junk)]:=by
 unfold givenV at h;split at h
 · cases h;exact .inl rfl
 · cases h;exact .inl rfl
 · cases h;exact .inr ⟨_,rfl⟩
 · split at h
   · split at h
     · cases h;exact .inr ⟨_,rfl⟩
     · cases h
   · cases h
 · cases h
theorem ail {n:Nat} {u:List (Loc×V)} (hu:u=[]∨∃ l,u=[(l,.junk)]) {x:IOpd} {l:Loc} (h:l∈aa (updG s u) n x):l∈aa s n x:=by
 rcases hu with rfl|⟨l0,rfl⟩
 · exact h
 · cases x with
   | t k=>
    simp only[aa,updG] at h ⊢;by_cases e:Loc.slot k=l0
    · rw[if_pos e] at h
      simp at h;simp[h]
    · rw[if_neg e] at h
      exact h
   |_=>exact h
theorem a40 {orc:Orc} {n:Nat} {dst:Option Nat} {own:Bool} {f:FuncId} {args:List IOpd} {i:Nat} (h:∀ l∈args.flatMap (aa s n),s' l=s l):callG cfg orc s' dst own f args i=callG cfg orc s dst own f args i:=by
 unfold callG;cases hx:args[i]? with
 |none=>rfl
 | some x=>
  simp only[Option.bind_some];have hx':∀ l∈aa s n x,s' l=s l:=fun l hl=>h l (aab.2 ⟨x,List.mem_of_getElem? hx,hl⟩)
  rw[ae hx'];cases hv:val cfg s x with
  |none=>rfl
  | some v=>
   simp only[Option.bind_some];rw[av8 hv hx'];cases hg:givenV s x v with
   |none=>rfl
   | some g=>
    simp only[Option.bind_some];have hall:∀ l∈(args.set i (.c .nilS)).flatMap (aa (updG s g.1) n),updG s' g.1 l=updG s g.1 l:=fun l hl=>by
     obtain⟨y,h1,h2⟩:=aab.1 hl;have h3:=ail (aiu hg) h2;refine gp _ ?_;rcases aap h1 with h1|rfl
     · exact h l (aab.2 ⟨y,h1,h3⟩)
     · simp[aa] at h3
    rw[ft hall];cases hvs:vals cfg (updG s g.1) (args.set i (.c .nilS)) with
    |none=>rfl
    | some vs=>
     simp only[Option.bind_some];rw[gg (fq hvs hall)]
theorem ma {n:Nat}:∀ {l:List IOpd},(∀ q∈l.flatMap (aa s n),s' q=s q)→giveL s' l=giveL s l
 | [],_=>rfl
 | .c _::r,h=>ma (l:=r) fun q hq=>h q (aab.2 (by obtain⟨y,h1,h2⟩:=aab.1 hq;exact⟨y,zq _ h1,h2⟩))
 | .g _::r,h=>ma (l:=r) fun q hq=>h q (aab.2 (by obtain⟨y,h1,h2⟩:=aab.1 hq;exact⟨y,zq _ h1,h2⟩))
 | .t k::r,h=>by
  have ih:=ma (l:=r) fun q hq=>h q (aab.2 (by obtain⟨y,h1,h2⟩:=aab.1 hq;exact⟨y,zq _ h1,h2⟩))
  have e:=h (.slot k) (aab.2 ⟨.t k,List.mem_cons_self,by simp[aa]⟩)
  simp only[giveL,ih,e];split
  · rfl
  · rename_i l _ _ hk
    rw[h l (aab.2 ⟨.t k,List.mem_cons_self,by simp[aa,hk]⟩)]
  · rfl
theorem l9 {n:Nat}:∀ {l:List IOpd},(∀ q∈l.flatMap (aa s n),s' q=s q)→giveP s' l=giveP s l
 | [],_=>rfl
 | .c _::r,h=>l9 (l:=r) fun q hq=>h q (aab.2 (by obtain⟨y,h1,h2⟩:=aab.1 hq;exact⟨y,zq _ h1,h2⟩))
 | .g _::r,h=>l9 (l:=r) fun q hq=>h q (aab.2 (by obtain⟨y,h1,h2⟩:=aab.1 hq;exact⟨y,zq _ h1,h2⟩))
 | .t k::r,h=>by
  have ih:=l9 (l:=r) fun q hq=>h q (aab.2 (by obtain⟨y,h1,h2⟩:=aab.1 hq;exact⟨y,zq _ h1,h2⟩))
  have e:=h (.slot k) (aab.2 ⟨.t k,List.mem_cons_self,by simp[aa]⟩)
  simp only[giveP,ih,e];split
  · rename_i l _ _ hk
    rw[h l (aab.2 ⟨.t k,List.mem_cons_self,by simp[aa,hk]⟩)]
  · rfl
theorem tm {n:Nat} {l:List IOpd} (h:∀ q∈l.flatMap (aa s n),s' q=s q):giveUp s' l=giveUp s l:=by
 unfold giveUp;rw[ma h,l9 h]
theorem a3o {s:Get} {l:List IOpd} {p:Loc×V} (h:p∈giveUp s l):∃ es,p.2= .d (.sl es):=by
 rcases aan.1 h with h|h
 · obtain⟨_,_,_,es,_,_,h2,_⟩:=jo h
   exact⟨es,h2⟩
 · obtain⟨_,_,_,_,_,_,_,rfl,_⟩:=jn h
   exact⟨_,rfl⟩
theorem awa (s:Get) (l:List IOpd) (q:Loc):updG s (giveUp s l) q=s q∨∃ es,updG s (giveUp s l) q=some (.d (.sl es)):=by
 have key:∀ (u:List (Loc×V)) (g:Get),(∀ p∈u,∃ es,p.2= .d (.sl es))→updG g u q=g q∨∃ es,updG g u q=some (.d (.sl es)):=by
  intro u
  induction u with
  |nil=>intro g _;exact .inl rfl
  | cons p u ih=>
   intro g hp;obtain⟨l,v⟩:=p;obtain⟨es,hv⟩:=hp (l,v) List.mem_cons_self;simp only at hv;subst hv;rw[a8];rcases ih (fun l'=>if l'=l then some (.d (.sl es)) else g l') (fun p h=>hp p (zq _ h)) with h|h
   · rw[h]
     by_cases e:q=l
     · rw[if_pos e];exact .inr ⟨es,rfl⟩
     · rw[if_neg e];exact .inl rfl
   · exact .inr h
 exact key _ s fun p hp=>a3o hp
theorem nx {n:Nat} {u:List IOpd} {x:IOpd} {l:Loc} (h:l∈aa (updG s (giveUp s u)) n x):l∈aa s n x:=by
 cases x with
 | t k=>
  simp only[aa] at h ⊢;rcases awa s u (.slot k) with e|⟨es,e⟩
  · rw[e] at h;exact h
  · rw[e] at h
    simp only[aal] at h;rw[h];exact List.mem_cons_self
 |_=>exact h
theorem upds_in {op:IOp} {x:IOpd} (h:x∈upds op):x∈op.operands:=by
 cases op<;>first|exact h| (simp[upds] at h)
theorem a3z {dst:Option Nat} {io:IOp} (h:∀ l∈io.operands.flatMap (aa s io.span),s' l=s l)
   (hb:∀ k,dst=some k→(∀ zs,io= .alloc zs→s' (.cell ⟨dep,k,0⟩)=s (.cell ⟨dep,k,0⟩))∧(∀ n x,io= .box n x→s' (.cell ⟨dep,k,0⟩)=s (.cell ⟨dep,k,0⟩))):
   evOpD cfg dep s' dst io=evOpD cfg dep s dst io:=by
 have hg:gives cfg s' io=gives cfg s io:=by
   cases io with
   | store n a x=>
     simp only[gives];rw[ae (s:=s) (s':=s') (x:=a) (n:=n) fun l hl=>h l (aab.2 ⟨a,by simp[IOp.operands],hl⟩)]
   |_=>rfl
 have hu:giveUp s' (upds io)=giveUp s (upds io):=tm (n:=io.span) fun q hq=>by
   obtain⟨y,h1,h2⟩:=aab.1 hq;exact h q (aab.2 ⟨y,upds_in h1,h2⟩)
 unfold evOpD;rw[hg,hu,auo h hb];split
 · rename_i hgv
   rw[auo (s:=updG s (giveUp s (upds io))) (s':=updG s' (giveUp s (upds io))) (fun l hl=> ?_) (fun k hk=> ?_)]
   · obtain⟨y,h1,h2⟩:=aab.1 hl
     exact gp _ (h l (aab.2 ⟨y,h1,nx h2⟩))
   · refine⟨fun zs e=> ?_,fun n x e=> ?_⟩
     · rw[e] at hgv;cases hgv
     · rw[e] at hgv;cases hgv
 · rfl
theorem a3y {orc:Orc} {dst:Option Nat} {io:IOp} (h:∀ l∈io.operands.flatMap (aa s io.span),s' l=s l)
   (hb:∀ k,dst=some k→(∀ zs,io= .alloc zs→s' (.cell ⟨dep,k,0⟩)=s (.cell ⟨dep,k,0⟩))∧(∀ n x,io= .box n x→s' (.cell ⟨dep,k,0⟩)=s (.cell ⟨dep,k,0⟩))):
   evOpG cfg orc dep s' dst io=evOpG cfg orc dep s dst io:=by
 unfold evOpG;split
 · exact a40 h
 · exact a3z h hb
theorem a4u {orc:Orc} {dst:Option Nat} {own:Bool} {f:FuncId} {args:List IOpd} {n:Nat} (h:∀ l∈args.flatMap (aa s n),s' l=s l):
  callT cfg orc s' dst own f args=callT cfg orc s dst own f args:=by
 have hu:giveUp s' args=giveUp s args:=tm (n:=n) h;have hl:∀ l∈args.flatMap (aa (updG s (giveUp s args)) n),updG s' (giveUp s args) l=updG s (giveUp s args) l:=fun l hl=>by
  obtain⟨y,h1,h2⟩:=aab.1 hl;exact gp _ (h l (aab.2 ⟨y,h1,nx h2⟩))
 unfold callT;rw[hu,ft hl];cases hv:vals cfg (updG s (giveUp s args)) args with
 |none=>rfl
 | some vs=>
  simp only[Option.bind_some,callU];rw[gg (fq hv hl)]
theorem a4w {orc:Orc} {dst:Option Nat} {io:IOp} {vs:List V} (h:∀ l∈io.operands.flatMap (aa s io.span),s' l=s l) (ha:argsD s' vs=argsD s vs):
  callR cfg orc s' dst io vs=callR cfg orc s dst io vs:=by
 cases io with
 | call own f args=>
  have ht:callT cfg orc s' dst own f args=callT cfg orc s dst own f args:=a4u (n:=0) h;simp only[callR,ha,ht]
 |_=>rfl
theorem axi {orc:Orc} {io:IOper} (h:∀ l∈bx dep s io,s' l=s l):stepU cfg orc dep s' io=stepU cfg orc dep s io:=by
 have hop:∀ l∈io.op.operands.flatMap (aa s io.op.span),s' l=s l:=fun l hl=>h l (by unfold bx;exact aak _ hl)
 have hg:guardOk s' io.guard=guardOk s io.guard:=aef fun k b e=>h _ (by unfold bx;rw[e];simp)
 have hbox:∀ k,io.dst=some k→(∀ zs,io.op= .alloc zs→s' (.cell ⟨dep,k,0⟩)=s (.cell ⟨dep,k,0⟩))∧(∀ n x,io.op= .box n x→s' (.cell ⟨dep,k,0⟩)=s (.cell ⟨dep,k,0⟩)):=fun k hk=>
   ⟨fun zs e=>h _ (by unfold bx;rw[e,hk];simp),fun n x e=>h _ (by unfold bx;rw[e,hk];simp)⟩
 obtain⟨t1,t2⟩:=sb (cfg:=cfg) hop;unfold stepU;rw[hg,a3y hop hbox,t1];split
 · rfl
 · rfl
 · split
   · rfl
   · split
     · cases hcl:clipArg cfg io.op with
       | some x=>
        simp only;have hx:val cfg s' x=val cfg s x:=by
         unfold clipArg at hcl;split at hcl
         · rename_i f x' e
           split at hcl
           · cases hcl
             exact ae (n:=io.op.span) (fun l hl=>hop l (by rw[e] at hl ⊢;simpa[IOp.operands] using hl))
           · cases hcl
         · cases hcl
        rw[hx]
       | none=>
        simp only;cases ht:target cfg s io.op with
        |none=>rfl
        | some r=>
         obtain⟨own,f,vs⟩:=r;simp only[callU];rw[t2 own f vs ht,a4w hop (t2 own f vs ht)]
     · rfl
end
end Go.Ev
namespace Go.Ev
open Go
theorem oz {a b:List Loc} (h:disj a b=true) {l:Loc} (ha:l∈a) (hb:l∈b):False:=by
 simp only[disj,aac] at h;have:=h l ha;simp at this;exact this hb
def bz (u:List (Loc×V)):List Loc:=u.map (·.1)
theorem h9 {u:List (Loc×V)} {s:Get} {l:Loc} (h:l ∉ bz u):updG s u l=s l:=
 mo u s fun p hp e=>h (e ▸ List.mem_map_of_mem hp)
theorem afi:∀ {u:List (Loc×V)} (s s':Get) {l:Loc},l∈bz u→updG s u l=updG s' u l
 | [],_,_,_,h=>by simp[bz] at h
 | (l0,v)::r,s,s',l,h=>by
  simp only[updG];by_cases hr:l∈bz r
  · exact afi _ _ hr
  · rw[h9 hr,h9 hr]
    simp only[bz,List.map_cons,zr] at h;rcases h with rfl|h
    · simp
    · exact absurd h hr
def part:List (List (Loc×V))→(Nat→Bool)→Nat→Get→Get
 | [],_,_,s=>s
 |u::us,d,i,s=>part us d (i+1) (if d i then updG s u else s)
theorem gq:∀ (us:List (List (Loc×V))) (d d':Nat→Bool) (k:Nat) (s s':Get) (l:Loc),s l=s' l→(∀ j u,us[j]? =some u→d (k+j)≠d' (k+j)→l ∉ bz u)→part us d k s l=part us d' k s' l
 | [],_,_,_,_,_,_,h,_=>h
 | u::us,d,d',k,s,s',l,h,hk=>by
  refine gq us d d' (k+1) _ _ l ?_ (fun j u' hj hd=>hk (j+1) u' (by simpa using hj) (by rw[show k+(j+1)=k+1+j by omega];exact hd))
  have h0:=hk 0 u rfl;simp only[Nat.add_zero] at h0;by_cases hl:l∈bz u
  · have:d k=d' k:=by
      apply Classical.byContradiction;intro hne;exact h0 hne hl
    rw[this];split
    · exact afi _ _ hl
    · exact h
  · have e1:(if d k then updG s u else s) l=s l:=by split<;>simp[h9 hl]
    have e2:(if d' k then updG s' u else s') l=s' l:=by split<;>simp[h9 hl]
    rw[e1,e2,h]
theorem vt (us:List (List (Loc×V))) (d:Nat→Bool) (k:Nat) (s:Get) (l:Loc) (h:∀ j u,us[j]? =some u→d (k+j)=true→l ∉ bz u):part us d k s l=s l:=by
 have:∀ (us:List (List (Loc×V))) (k:Nat) (s:Get),part us (fun _=>false) k s=s:=by
  intro us
  induction us with
  |nil=>intros;rfl
  |cons u us ih=>intro k s;simp[part,ih]
 rw[gq us d (fun _=>false) k s s l rfl (fun j u hj hd=>h j u hj (by simpa using hd)),this]
theorem a2v:∀ (us:List (List (Loc×V))) (d:Nat→Bool) (k i:Nat) (s s'':Get) (u:List (Loc×V)) (l:Loc),us[i]? =some u→d (k+i)=true→l∈bz u→
  (∀ j u',us[j]? =some u'→i<j→d (k+j)=true→l ∉ bz u')→part us d k s l=updG s'' u l
 | [],_,_,_,_,_,_,_,h,_,_,_=>by simp at h
 | u0::us,d,k,0,s,s'',u,l,h,hd,hl,hlast=>by
  simp only[List.getElem?_cons_zero,Option.some.injEq] at h;subst h;simp only[Nat.add_zero] at hd;simp only[part,hd,if_true];rw[vt us d (k+1) _ l (fun j u' hj hdj=>hlast (j+1) u' (by simpa using hj) yp (by rw[show k+(j+1)=k+1+j by omega];exact hdj))]
  exact afi _ _ hl
 | u0::us,d,k,i+1,s,s'',u,l,h,hd,hl,hlast=>by
  simp only[part];exact a2v us d (k+1) i _ s'' u l (by simpa using h) (by rw[show k+1+i=k+(i+1) by omega];exact hd) hl (fun j u' hj hij hdj=>hlast (j+1) u' (by simpa using hj) yp (by rw[show k+(j+1)=k+1+j by omega];exact hdj))
theorem avy (us:List (List (Loc×V))) (d d':Nat→Bool) (k:Nat) (s:Get) (h:∀ j,j<us.length→d (k+j)=d' (k+j)):part us d k s=part us d' k s:=by
 funext l
 exact gq us d d' k s s l rfl (fun j u hj hd=>absurd (h j (y4.1 hj).1) hd)
theorem aeo {cfg:Cfg} {orc:Orc} {dep:Nat} {e0:List (Nat×V)}:∀ (l:List IOper) (pre:Bool) (st st':St) (rw_:List Rec),evOpsU cfg orc dep e0 pre l st=some (rw_,st')→
  ∃ us:List (List (Loc×V)),us.length=l.length∧st'.get=part us (fun _=>true) 0 st.get∧
    ∀ i io,l[i]? =some io→∃ (u:List (Loc×V)) (b:Bool) (t:St) (pre':Bool),us[i]? =some u∧t.get=part us (fun j=>decide (j<i)) 0 st.get∧stepX cfg orc dep e0 pre' t io=some (b,u)∧
      rw_[i]? =some (b,u.all (fun p=>p.2.calm dep),bx dep (part us (fun j=>decide (j<i)) 0 st.get) io,bz u)∧
      (pre'=true→pre=true∧∀ j u',j<i→us[j]? =some u'→u'.all (fun p=>p.2.calm dep)=true)
 | [],pre,st,st',rw_,h=>by cases h;exact⟨[],rfl,rfl,fun i io h=>by simp at h⟩
 | io::l,pre,st,st',rw_,h=>by
  unfold evOpsU at h;split at h
  · rename_i b u hu
    split at h
    · rename_i rw' st2 h2
      cases h;obtain⟨us,h3,h4,h5⟩:=aeo l _ (st.upd u) st' rw' h2;have hsh:∀ (us:List (List (Loc×V))) (d d':Nat→Bool) (k k':Nat) (s:Get),(∀ j,d (k+j)=d' (k'+j))→part us d k s=part us d' k' s:=by
        intro us
        induction us with
        |nil=>intros;rfl
        | cons u us ih=>
         intro d d' k k' s hd;have h0:=hd 0;simp only[Nat.add_zero] at h0;simp only[part,h0];exact ih d d' (k+1) (k'+1) _ (fun j=>by have:=hd (j+1);rwa [show k+(j+1)=k+1+j by omega,show k'+(j+1)=k'+1+j by omega] at this)
      refine⟨u::us,by simp[h3],?_,fun i io' hi=> ?_⟩
      · rw[h4,d7]
        simp only[part,if_true];exact hsh us _ _ 0 (0+1) _ (fun j=>rfl)
      · cases i with
        | zero=>
         simp only[List.getElem?_cons_zero,Option.some.injEq] at hi;subst hi;have hs0:part (u::us) (fun j=>decide (j<0)) 0 st.get=st.get:=by
          funext l
          exact vt _ _ _ _ _ (fun j u _ hd=>by simp at hd)
         rw[hs0];exact⟨u,b,st,pre,rfl,rfl,hu,rfl,fun e=>⟨e,fun j u' hj _=>absurd hj (Nat.not_lt_zero _)⟩⟩
        | succ i=>
         obtain⟨u',b',t,pre',g1,g0,g2,g3,g4⟩:=h5 i io' (by simpa using hi)
         have hs1:part (u::us) (fun j=>decide (j<i+1)) 0 st.get=part us (fun j=>decide (j<i)) 0 (st.upd u).get:=by
          rw[d7];simp only[part,show decide (0<i+1)=true by simp,if_true]
          exact hsh us _ _ (0+1) 0 _ (fun j=>by simp;omega)
         rw[hs1];refine⟨u',b',t,pre',by simpa using g1,g0,g2,by simpa using g3,fun e=> ?_⟩
         obtain⟨q1,q2⟩:=g4 e;simp only[ze] at q1;refine⟨q1.1,fun j u'' hj hu''=> ?_⟩
         cases j with
         | zero=>
          simp only[List.getElem?_cons_zero,Option.some.injEq] at hu'';rw[← hu''];exact q1.2
         |succ j=>exact q2 j u'' yp (by simpa using hu'')
    · cases h
  · cases h
theorem ni:∀ (es:List (List Nat)) (k:Nat),backw k es=true→∀ i e,es[i]? =some e→∀ p∈e,p<k+i
 | [],_,_,i,e,h=>by simp at h
 | e0::es,k,hb,i,e,h=>by
  simp only[backw,ze,aac,zh] at hb;intro p hp;cases i with
  | zero=>
   simp only[List.getElem?_cons_zero,Option.some.injEq] at h;subst h;simpa using hb.1 p hp
  | succ i=>
   have:=ni es (k+1) hb.2 i e (by simpa using h) p hp
   omega
theorem v6 {p:Nat}:∀ {l:List Nat},p∈uniq l→p∈l
 | x::r,h=>by
  simp only[uniq,uadd] at h;split at h
  · exact zq _ (v6 h)
  · rcases zr.1 h with rfl|h
    · exact List.mem_cons_self
    · exact zq _ (v6 h)
theorem gd (es:List (List Nat)):∀ (r acc:List (List Nat)),(∀ (i:Nat) e,r[i]? =some e→es[acc.length+i]? =some e)→
  (∀ (j:Nat) b,acc[j]? =some b→∀ p∈b,∃ e,es[j]? =some e∧(p∈e∨∃ q∈e,q<j∧∃ b',(az acc r)[q]? =some b'∧p∈b'))→
  ∀ (j:Nat) b,(az acc r)[j]? =some b→∀ p∈b,∃ e,es[j]? =some e∧(p∈e∨∃ q∈e,q<j∧∃ b',(az acc r)[q]? =some b'∧p∈b')
 | [],acc,_,h=>h
 | e0::r,acc,hr,h=>by
  have hpre:∀ (r acc:List (List Nat)) (j:Nat) b,acc[j]? =some b→(az acc r)[j]? =some b:=by
    intro r
    induction r with
    |nil=>exact fun _ _ _ h=>h
    | cons e r ih=>
      intro acc j b h;simp only[az];refine ih _ j b ?_;rw[aag (y4.1 h).1];exact h
  simp only[az] at h ⊢;refine gd es r _ (fun i e hi=> ?_) (fun j b hj p hp=> ?_)
  · have:=hr (i+1) e (by simpa using hi)
    rw[zo,List.length_singleton];rw[show acc.length+1+i=acc.length+(i+1) by omega]
    exact this
  · by_cases hlt:j<acc.length
    · rw[aag hlt] at hj
      exact h j b hj p hp
    · have hj2:j=acc.length:=by
        have:=(y4.1 hj).1;simp at this;omega
      subst hj2;have hes:=hr 0 e0 rfl;simp only[Nat.add_zero] at hes;refine⟨e0,hes,?_⟩;rw[List.getElem?_append_right (y7 _)] at hj;simp only[Nat.sub_self,List.getElem?_cons_zero,Option.some.injEq] at hj;have key:∀ (l:List Nat) (a:List Nat),p∈l.foldl (fun a e=>e::((acc[e]?).getD []++a)) a→p∈a∨p∈l∨∃ q∈l,p∈(acc[q]?).getD []:=by
        intro l
        induction l with
        |nil=>exact fun a h=> .inl h
        | cons q l ih=>
         intro a hp;rcases ih _ hp with hp|hp|⟨q',h1,h2⟩
         · rcases zr.1 hp with rfl|hp
           · exact .inr (.inl yt)
           · rcases aan.1 hp with hp|hp
             · exact .inr (.inr ⟨q,by simp,hp⟩)
             · exact .inl hp
         · exact .inr (.inl (by simp[hp]))
         · exact .inr (.inr ⟨q',by simp[h1],h2⟩)
      rw[← hj] at hp;rcases key e0 [] (v6 hp) with hp|hp|⟨q,h1,h2⟩
      · simp at hp
      · exact .inl hp
      · refine .inr ⟨q,h1,?_⟩
        cases hq:acc[q]? with
        |none=>rw[hq] at h2;simp at h2
        | some b'=>
         rw[hq] at h2;refine⟨(y4.1 hq).1,b',?_,h2⟩;refine hpre r _ q b' ?_;rw[aag (y4.1 hq).1];exact hq
theorem kv {es:List (List Nat)} {d:Nat→Bool} (hd:∀ (j:Nat) e,es[j]? =some e→d j=true→∀ q∈e,d q=true):
  ∀ (j:Nat) b,(az [] es)[j]? =some b→d j=true→∀ p∈b,d p=true:=by
 have hs:=gd es es [] (fun i e h=>by simpa using h) (fun j b h=>by simp at h)
 intro j
 induction j using Nat.strongRecOn with
 | _ j ih=>
  intro b hb hdj p hp;obtain⟨e,he,h⟩:=hs j b hb p hp;rcases h with h|⟨q,h1,h2,b',h3,h4⟩
  · exact hd j e he hdj p h
  · exact ih q h2 b' h3 (hd j e he hdj q h1) p h4
theorem lp:∀ (es acc:List (List Nat)),(az acc es).length=acc.length+es.length
 | [],acc=>rfl
 |e::es,acc=>by rw[az,lp es];simp;omega
theorem pd {bs:List (List Nat)} {i j:Nat} (hij:i<j) (hj:j<bs.length) (h:i ∉ bs[j]):(i,j)∈au bs:=by
 unfold au;refine aab.2 ⟨j,aax.2 hj,aas.2 ⟨i,aa4.2 ⟨aax.2 hij,?_⟩,rfl⟩⟩;rw[yy hj];simpa using h
theorem jc {l:List Rec}:∀ {un:List (Nat×Nat)},unordOk l un=true→∀ i j,(i,j)∈un→∃ bi ci ri wi bj cj rj wj,l[i]? =some (bi,ci,ri,wi)∧l[j]? =some (bj,cj,rj,wj)∧disj wi (rj++wj)=true∧disj wj ri=true∧besideOk bi cj wj=true∧besideOk bj ci wi=true
 | [],_,i,j,h=>by simp at h
 | (i0,j0)::r,hk,i,j,h=>by
  unfold unordOk at hk;split at hk
  · rename_i bi ci ri wi bj cj rj wj h1 h2
    simp only[ze] at hk;rcases zr.1 h with e|h
    · cases e
      exact⟨bi,ci,ri,wi,bj,cj,rj,wj,h1,h2,hk.1.1.1.1,hk.1.1.1.2,hk.1.1.2,hk.1.2⟩
    · exact jc hk.2 i j h
  · cases hk
theorem ta:∀ {l:List Loc} {c:Cel},noCell l=true→Loc.cell c ∉ l
 | .slot k::r,c,h,hm=>by
  rcases zr.1 hm with e|e
  · cases e
  · exact ta (l:=r) h e
 | .cell _::_,_,h,_=>by simp[noCell] at h
mutual
theorem D.eqb_eq:∀ {a b:D},D.eqb a b=true→a=b
 | .bool a,y,h=>by cases y<;>simp[D.eqb] at h;rw[h]
 | .int k a,y,h=>by cases y<;>simp[D.eqb] at h;rw[h.1,h.2]
 | .str a,y,h=>by cases y<;>simp[D.eqb] at h;rw[h]
 | .nilS,y,h=>by cases y<;>simp[D.eqb] at h;rfl
 | .nilP,y,h=>by cases y<;>simp[D.eqb] at h;rfl
 | .nilI,y,h=>by cases y<;>simp[D.eqb] at h;rfl
 | .nilF,y,h=>by cases y<;>simp[D.eqb] at h;rfl
 | .nilM,y,h=>by cases y<;>simp[D.eqb] at h;rfl
 | .sl a,y,h=>by cases y<;>simp[D.eqb] at h;rw[D.eqbs_eq h]
 | .agg a,y,h=>by cases y<;>simp[D.eqb] at h;rw[D.eqbs_eq h]
 | .tup a,y,h=>by cases y<;>simp[D.eqb] at h;rw[D.eqbs_eq h]
 | .ptr a,y,h=>by cases y<;>simp[D.eqb] at h;rw[D.eqb_eq h]
 | .ifc t a,y,h=>by cases y<;>simp[D.eqb] at h;rw[h.1,D.eqb_eq h.2]
 | .fn f,y,h=>by cases y<;>simp[D.eqb] at h;rw[h]
 | .unk,y,h=>by cases y<;>simp[D.eqb] at h;rfl
 | .unkB,y,h=>by cases y<;>simp[D.eqb] at h;rfl
theorem D.eqbs_eq:∀ {a b:List D},D.eqbs a b=true→a=b
 | [],y,h=>by cases y<;>simp[D.eqbs] at h;rfl
 |a::r,y,h=>by cases y<;>simp[D.eqbs] at h;rw[D.eqb_eq h.1,D.eqbs_eq h.2]
end
mutual
theorem V.eqb_eq:∀ {a b:V},V.eqb a b=true→a=b
 | .d a,y,h=>by cases y<;>simp[V.eqb] at h;rw[D.eqb_eq h]
 | .own n z a,y,h=>by cases y<;>simp[V.eqb] at h;rw[h.1,h.2.1,D.eqbs_eq h.2.2]
 | .iptr a o,y,h=>by cases y<;>simp[V.eqb] at h;rw[D.eqb_eq h.1,h.2]
 | .ref e k o,y,h=>by cases y<;>simp[V.eqb] at h;rw[h.1,h.2.1,h.2.2]
 | .clo f a b,y,h=>by cases y<;>simp[V.eqb] at h;rw[h.1,V.eqbs_eq h.2.1,V.eqbs_eq h.2.2]
 | .ifc t a,y,h=>by cases y<;>simp[V.eqb] at h;rw[h.1,V.eqb_eq h.2]
 | .junk,y,h=>by cases y<;>simp[V.eqb] at h;rfl
 | .bor l a b,y,h=>by cases y<;>simp[V.eqb] at h;rw[h.1,h.2.1,h.2.2]
 | .bref l a b,y,h=>by cases y<;>simp[V.eqb] at h;rw[h.1,h.2.1,h.2.2]
 | .vec a,y,h=>by cases y<;>simp[V.eqb] at h;rw[V.eqbs_eq h]
 | .vref a,y,h=>by cases y<;>simp[V.eqb] at h;rw[V.eqb_eq h]
 | .rcd a,y,h=>by cases y<;>simp[V.eqb] at h;rw[V.eqbs_eq h]
theorem V.eqbs_eq:∀ {a b:List V},V.eqbs a b=true→a=b
 | [],y,h=>by cases y<;>simp[V.eqbs] at h;rfl
 |a::r,y,h=>by cases y<;>simp[V.eqbs] at h;rw[V.eqb_eq h.1,V.eqbs_eq h.2]
end
theorem updG_snoc (s:Get) (u:List (Loc×V)) (l l':Loc) (v:V):updG s (u++[(l,v)]) l'=if l'=l then some v else updG s u l':=by
 rw[bm];rfl
theorem updG_filter {l0 l:Loc} (hne:l≠l0):∀ (u:List (Loc×V)) (s s':Get),s l=s' l→updG s (u.filter fun p=> !decide (p.1=l0)) l=updG s' u l
 | [],_,_,h=>h
 | (l1,v)::r,s,s',h=>by
  rw[List.filter_cons];by_cases e:l1=l0
  · subst e
    simp only[decide_true,Bool.not_true,zf,if_false];exact updG_filter hne r s _ (by rw[h];show s' l=if l=l1 then some v else s' l;rw[if_neg hne])
  · simp only[e,decide_false,aa0,if_true]
    exact updG_filter hne r _ _ (by show(if l=l1 then some v else s l)=(if l=l1 then some v else s' l);rw[h])
theorem memDiff_get {cs:Option (List Cel)}:∀ {old new:List (Cel×V)} {ch:List (Loc×V)},memDiff cs old new=some ch→(∀ k,Loc.slot k ∉ bz ch)∧∀ (s:Get) (c:Cel),s (.cell c)=lk old c→updG s ch (.cell c)=lk new c
 | [],[],ch,h=>by cases h;exact⟨fun k hk=>by simp[bz] at hk,fun s c h=>h⟩
 | (c0,v0)::r,(c1,v1)::r',ch,h=>by
  unfold memDiff at h;split at h
  · rename_i e
    subst e;have put:∀ {u:List (Loc×V)},((∀ k,Loc.slot k ∉ bz u)∧∀ (s:Get) (c:Cel),s (.cell c)=lk r c→updG s u (.cell c)=lk r' c)→
        (∀ k,Loc.slot k ∉ bz (u++[(.cell c0,v1)]))∧∀ (s:Get) (c:Cel),s (.cell c)=lk ((c0,v0)::r) c→updG s (u++[(.cell c0,v1)]) (.cell c)=lk ((c0,v1)::r') c:=by
      intro u hu;refine⟨fun k hk=> ?_,fun s c hs=> ?_⟩
      · simp only[bz,List.map_append,List.map_cons,List.map_nil,aan,aal,reduceCtorEq,or_false] at hk
        exact hu.1 k hk
      · rw[updG_snoc]
        simp only[lk] at hs ⊢;by_cases e:c0=c
        · subst e;simp
        · rw[if_neg (fun q=>e (by cases q;rfl)),if_neg e]
          rw[if_neg e] at hs;exact hu.2 s c hs
    split at h
    · simp only[yw] at h
      obtain⟨u,h1,rfl⟩:=h;exact put (memDiff_get h1)
    · split at h
      · simp only[yw] at h
        obtain⟨u,h1,rfl⟩:=h;exact put (memDiff_get h1)
      · split at h
        · rename_i hq
          have:=V.eqb_eq hq;subst this;simp only[yw] at h;obtain⟨u,h1,rfl⟩:=h;obtain⟨g1,g2⟩:=memDiff_get h1;refine⟨fun k hk=>g1 k ?_,fun s c hs=> ?_⟩
          · simp only[bz,aas] at hk ⊢
            obtain⟨p,hp,e⟩:=hk;exact⟨p,(aa4.1 hp).1,e⟩
          · simp only[lk] at hs ⊢
            by_cases e:c0=c
            · subst e
              rw[if_pos rfl] at hs ⊢;rw[← hs];refine h9 fun hk=> ?_
              simp only[bz,aas] at hk;obtain⟨p,hp,e⟩:=hk;have:=(aa4.1 hp).2;rw[e] at this;simp at this
            · rw[if_neg e] at hs ⊢
              rw[updG_filter (fun q=>e (by cases q;rfl)) u s s rfl]
              exact g2 s c hs
        · cases h
  · cases h
 | [],_::_,_,h=>by simp[memDiff] at h
 |_::_,[],_,h=>by simp[memDiff] at h
theorem calm_unbor {dep:Nat} {v:V} (h:v.calm dep=true):v.unbor dep=v:=by
 unfold V.calm at h;unfold V.unbor;split at h
 · rfl
 · rfl
 · split<;>first|rfl|rw[if_pos h]
theorem calmE_spec {dep:Nat}:∀ {e:List (Nat×V)},calmE dep e=true→∀ k v,lk e k=some v→v.calm dep=true
 | (k0,v0)::r,h,k,v,hk=>by
  simp only[calmE,ze] at h;simp only[lk] at hk;split at hk
  · cases hk;exact h.1
  · exact calmE_spec h.2 k v hk
section
variable {cfg:Cfg} {orc:Orc} {dep:Nat}
theorem landed_put {dst:Option Nat} {own shared:Bool} {r:V} {u:List (Loc×V)} (h:landed dst own shared r=some u):∃ v,u=put1 dst v:=by
 unfold landed at h;split at h
 · split at h
   · cases h
   · cases h;exact⟨_,rfl⟩
 · split at h
   · cases h
   · cases h;exact⟨_,rfl⟩
 · cases h
theorem callM_shape {s s':St} {k:Nat} {own:Bool} {f:FuncId} {vs:List V} (h:callM orc dep s (some k) own f vs=some s'):
   ∃ r m v,((argsD s.get vs).isNone&&vs.all V.plainV)=true∧orc f (dep+1) vs s.mem=some (r,m)∧s'=St.upd ⟨dropBor dep s.env,cutMem dep m⟩ [(.slot k,v)]∧
     ∀ t:St,((argsD t.get vs).isNone&&vs.all V.plainV)=true→t.mem=s.mem→callM orc dep t (some k) own f vs=some (St.upd ⟨dropBor dep t.env,cutMem dep m⟩ [(.slot k,v)]):=by
 unfold callM at h;split at h
 · rename_i hq
   split at h
   · rename_i r m hor
     split at h
     · rename_i hup
       split at h
       · rename_i u hl
         obtain⟨v,rfl⟩:=landed_put hl;cases h;refine⟨r,m,v,hq,hor,rfl,fun t ht hm=> ?_⟩
         unfold callM;rw[if_pos ht,hm,hor];simp only[hup,if_true,hl];rfl
       · rename_i hl
         split at h
         · rename_i hp
           cases h;refine⟨r,m,r,hq,hor,rfl,fun t ht hm=> ?_⟩
           unfold callM;rw[if_pos ht,hm,hor];simp only[hup,if_true,hl,hp];rfl
         · cases h
     · cases h
   · cases h
 · cases h
theorem stepM_shape {s s':St} {io:IOper} {k:Nat} (hd:io.dst=some k) (h:stepM cfg orc dep s io=some s'):
   ∃ m v,s'=St.upd ⟨dropBor dep s.env,cutMem dep m⟩ [(.slot k,v)]∧
     ∀ t:St,(∀ l∈bx dep s.get io,t.get l=s.get l)→t.mem=s.mem→stepM cfg orc dep t io=some (St.upd ⟨dropBor dep t.env,cutMem dep m⟩ [(.slot k,v)])∧chgOf cfg t.get io.op=chgOf cfg s.get io.op:=by
 unfold stepM at h;split at h
 · rename_i hg
   split at h
   · rename_i hc
     split at h
     · rename_i own f vs ht
       rw[hd] at h;obtain⟨r,m,v,h1,h2,h3,h4⟩:=callM_shape h;refine⟨m,v,h3,fun t hl hm=> ?_⟩
       have hop:∀ l∈io.op.operands.flatMap (aa s.get io.op.span),t.get l=s.get l:=fun l hl'=>hl l (by unfold bx;exact aak _ hl')
       have hg':guardOk t.get io.guard=guardOk s.get io.guard:=aef fun k b e=>hl _ (by unfold bx;rw[e];simp)
       obtain⟨t1,t2⟩:=sb (cfg:=cfg) hop;refine⟨?_,by unfold chgOf;rw[t1]⟩
       unfold stepM;simp only[hg',hg];rw[if_pos hc];simp only[t1,ht,hd];exact h4 t (by rw[t2 own f vs ht];exact h1) hm
     · cases h
   · cases h
 · cases h
theorem M_get {t:St} {m:List (Cel×V)} {v:V} {k:Nat} {cs:Option (List Cel)} {ch:List (Loc×V)} (hch:memDiff cs t.mem (cutMem dep m)=some ch) (hcalm:∀ j v,t.get (.slot j)=some v→v.calm dep=true) (l:Loc):
   updG t.get (ch++[(.slot k,v)]) l=(St.upd ⟨dropBor dep t.env,cutMem dep m⟩ [(.slot k,v)]).get l:=by
 obtain⟨g1,g2⟩:=memDiff_get hch;rw[updG_snoc,d7];show _=if l= .slot k then some v else _
 by_cases e:l= .slot k
 · rw[if_pos e,if_pos e]
 · rw[if_neg e,if_neg e]
   cases l with
   | slot j=>
    rw[h9 (g1 j)];show lk t.env j=lk (dropBor dep t.env) j;rw[df];cases hj:lk t.env j with
    |none=>rfl
    |some u=>rw[Option.map_some,calm_unbor (hcalm j u hj)]
   |cell c=>exact g2 t.get c rfl
end
end Go.Ev
namespace Go.Ev
open Go
section
variable {P:Program} {cfg:Cfg} {N dep:Nat}
theorem stepU_wp {x:Cx} {s:Get} {a:Act} {w:World} {orc:Orc} (hC:CfgOk P cfg) (hO:OrcOk P cfg orc) (R:Rel cfg x N s a w) {ops:Array Oper} {o:Oper} {io:IOper} (hc:COper P N ops o io) {u:List (Loc×V)} (hsu:stepU cfg orc dep s io=some u)
  {next:Act→World→Prop} {Q:Exit→Act→World→Prop} (hn:∀ v w' x',Rel cfg x' N (updG s u) (a.put o.dst v) w'→Fr dep x x' w w'→next (a.put o.dst v) w'):
  (Region.wanted o (yielded ops a.tmps)=true∧o.wp P a w next Q)∨(Region.wanted o (yielded ops a.tmps)=false∧next (a.put o.dst undef) w):=by
 cases hg:guardOk s io.guard with
 |none=>unfold stepU at hsu;rw[hg] at hsu;cases hsu
 | some t=>
  cases t
  · refine .inr ⟨cn R hc hg,?_⟩
    unfold stepU at hsu;rw[hg] at hsu;cases hsu;refine hn undef w x ?_ (.refl _ _ _);rw[hc.dst];cases hd:o.dst with
    |none=>exact R
    |some k=>exact R.put (hc.lt k hd) rfl (l:=none) (.d _ _ _ (aj3 _ _))
  · exact .inl ⟨cn R hc hg,x6 hC hO R hc hg hsu next Q hn⟩
def doneF (listed:Array Bool) (j:Nat):Bool:=listed.getD j false
def left (n:Nat) (d:Nat→Bool):Nat:=((List.range n).filter fun i=> !d i).length
theorem filt1 (f:Nat→Bool) (n:Nat):(List.filter f [n]).length=if f n then 1 else 0:=by
 cases h:f n<;>simp[h]
theorem ad2 (d d':Nat→Bool) (h:∀ i,d i=true→d' i=true):∀ n,left n d'≤left n d
 |0=>y7 _
 | n+1=>by
  have ih:=ad2 d d' h n;unfold left at *;rw[List.range_succ,List.filter_append,List.filter_append,zo,zo];have:(List.filter (fun i=> !d' i) [n]).length≤(List.filter (fun i=> !d i) [n]).length:=by
   rw[filt1,filt1];have:=h n;cases hd:d n<;>cases hd':d' n<;>simp_all
  omega
theorem a27 (d d':Nat→Bool) (h:∀ i,d i=true→d' i=true):∀ n i,i<n→d i=false→d' i=true→left n d'<left n d
 |0,i,hi,_,_=>by omega
 | n+1,i,hi,h1,h2=>by
  have hm:=ad2 d d' h n;by_cases e:i=n
  · subst e
    unfold left at *;rw[List.range_succ,List.filter_append,List.filter_append,zo,zo];simp[h1,h2];omega
  · have ih:=a27 d d' h n i yp h1 h2
    have hm1:(List.filter (fun i=> !d' i) [n]).length≤(List.filter (fun i=> !d i) [n]).length:=by
     rw[filt1,filt1];have:=h n;cases hd:d n<;>cases hd':d' n<;>simp_all
    unfold left at *;rw[List.range_succ,List.filter_append,List.filter_append,zo,zo];omega
theorem a25 {n:Nat} {d:Nat→Bool} (h:left n d=0):∀ i,i<n→d i=true:=by
 intro i hi;unfold left at h;have:=z8 h;rw[List.filter_eq_nil_iff] at this;have:=this i (aax.2 hi);simpa using this
theorem ready_spec {ops:Array Oper} {listed:Array Bool} (hs:listed.size=ops.size) {i:Nat} (hi:i∈Region.ready .any ops listed):
   i<ops.size∧doneF listed i=false∧∃ o,ops[i]? =some o∧∀ q∈ak o,doneF listed q=true:=by
 unfold Region.ready at hi;rw[aa4] at hi;obtain⟨h1,h2⟩:=hi;have hlt:=aax.1 h1;simp only[ze,aaw] at h2;refine⟨hlt,?_,ops[i],zm hlt,fun q hq=> ?_⟩
 · have:=h2.1
   unfold doneF;rw[Array.getD_eq_getD_getElem?] at this ⊢;rw[zm yp] at this ⊢;exact this
 · have h3:=h2.2
   rw[zm hlt] at h3;simp only[Option.map_some,Option.getD_some,Array.all_eq_true_iff_forall_mem] at h3;unfold ak at hq;obtain⟨e,he,rfl⟩:=aas.1 hq;obtain⟨he1,he2⟩:=aa4.1 he;have:=h3 e (by simpa using he1)
   rw[he2] at this;simpa[doneF] using this
theorem ym {ops:Array Oper} {listed:Array Bool} (hs:listed.size=ops.size) (hb:backw 0 (ops.toList.map ak)=true) (h:Region.ready .any ops listed=[]):∀ i,i<ops.size→doneF listed i=true:=by
 intro i
 induction i using Nat.strongRecOn with
 | _ i ih=>
  intro hi;apply Classical.byContradiction;intro hno;have hno':doneF listed i=false:=by simpa using hno
  have:i∈Region.ready .any ops listed:=by
   unfold Region.ready;rw[aa4];refine⟨aax.2 hi,?_⟩;simp only[ze,aaw];constructor
   · unfold doneF at hno'
     rw[Array.getD_eq_getD_getElem?] at hno' ⊢;rw[zm yp] at hno' ⊢;exact hno'
   · rw[zm hi]
     simp only[Option.map_some,Option.getD_some,Array.all_eq_true_iff_forall_mem];intro e he;cases hbd:Region.binds .any e with
     |false=>rfl
     | true=>
      have hlt:=ni _ 0 hb i (ak ops[i]) (by simp[hi]) e.on (aas.2 ⟨e,aa4.2 ⟨by simpa using he,hbd⟩,rfl⟩)
      have:=ih e.on yp yp;simpa[doneF] using this
  rw[h] at this;simp at this
theorem aew {listed:Array Bool} {i:Nat} (hi:i<listed.size) (j:Nat):doneF (listed.setIfInBounds i true) j=if j=i then true else doneF listed j:=by
 unfold doneF;rw[Array.getD_eq_getD_getElem?,Array.getD_eq_getD_getElem?,Array.getElem?_setIfInBounds];by_cases e:i=j
 · subst e;simp[hi]
 · simp[e,Ne.symm e]
theorem stepX_wp {x:Cx} {t t':St} {g:Get} {a:Act} {w:World} {orc:Orc} {e0:List (Nat×V)} {pre b:Bool} (hC:CfgOk P cfg) (hO:OrcOk P cfg orc) (R:Rel cfg x N g a w) {ops:Array Oper} {o:Oper} {io:IOper} (hc:COper P N ops o io) {u:List (Loc×V)}
   (hsu:stepX cfg orc dep e0 pre t io=some (b,u)) (hloc:∀ l∈bx dep t.get io,g l=t.get l)
   (ht:∀ k,t'.get (.slot k)=g (.slot k)) (hcell:b=true→∀ c,g (.cell c)=t.get (.cell c)) (hcalm:calmE dep e0=true→pre=true→b=true→∀ j v,g (.slot j)=some v→v.calm dep=true)
   {next:Act→World→Prop} {Q:Exit→Act→World→Prop} (hn:∀ v w' x',Rel cfg x' N (updG g u) (a.put o.dst v) w'→Fr dep x x' w w'→next (a.put o.dst v) w'):
   (Region.wanted o (yielded ops a.tmps)=true∧o.wp P a w next Q)∨(Region.wanted o (yielded ops a.tmps)=false∧next (a.put o.dst undef) w):=by
 unfold stepX at hsu;split at hsu
 · rename_i u' hu
   cases hsu;exact stepU_wp hC hO R hc (by rw[axi hloc];exact hu) hn
 · split at hsu
   · rename_i hq
     simp only[ze] at hq;split at hsu
     · rename_i s' hs'
       split at hsu
       · rename_i k hk
         split at hsu
         · rename_i ch v hch hv
           cases hsu;obtain⟨m,v',rfl,h2⟩:=stepM_shape hk hs';have hv':v=v':=by
            have:lk (Go.Ev.st (dropBor dep t.env) k v') k=some v:=hv;rw[lk_st,if_pos rfl] at this;cases this;rfl
           subst hv';have hg:∀ l,(St.mk t'.env t.mem).get l=g l:=fun l=>by
            cases l with
            |slot j=>exact ht j
            |cell c=>exact(hcell rfl c).symm
           have R2:Rel cfg x N (St.mk t'.env t.mem).get a w:=R.congr hg;obtain⟨h3,h4⟩:=h2 ⟨t'.env,t.mem⟩ (fun l hl=>by rw[hg];exact hloc l hl) rfl
           obtain⟨hgd,hw⟩:=x7 hC hO R2 hc h3;have hcm:∀ j v,(St.mk t'.env t.mem).get (.slot j)=some v→v.calm dep=true:=fun j v hj=>hcalm hq.1 hq.2 rfl j v (by rw[← hg];exact hj)
           refine .inl ⟨cn R2 hc hgd,hw next Q fun v w' x' R' F'=>hn v w' x' (R'.congr fun l=> ?_) F'⟩
           rw[← M_get (t:=⟨t'.env,t.mem⟩) hch hcm l];have:∀ (us:List (Loc×V)) (s s':Get),s l=s' l→updG s us l=updG s' us l:=fun us s s' e=>gp us e
           exact(this _ _ _ (hg l)).symm
         · cases hsu
       · cases hsu
     · cases hsu
   · cases hsu
theorem aik:∀ (us:List (List (Loc×V))) (d:Nat→Bool) (k:Nat) (s:St),∃ t:St,t.get=part us d k s.get
 | [],_,_,s=>⟨s,rfl⟩
 | u::us,d,k,s=>by
  cases h:d k with
  | true=>
   obtain⟨t,ht⟩:=aik us d (k+1) (s.upd u);refine⟨t,?_⟩;rw[ht,d7];simp only[part,h,if_true]
  | false=>
   obtain⟨t,ht⟩:=aik us d (k+1) s;refine⟨t,?_⟩;rw[ht];simp only[part,h,zf,if_false]
theorem ads {Z:V→Prop} {l:Loc}:∀ (us:List (List (Loc×V))) (d:Nat→Bool) (k:Nat) (s:Get),(∀ v,s l=some v→Z v)→(∀ j u,us[j]? =some u→d (k+j)=true→∀ p∈u,p.1=l→Z p.2)→∀ v,part us d k s l=some v→Z v
 | [],_,_,_,h,_=>h
 | u::us,d,k,s,h,hu=>by
  refine ads us d (k+1) _ ?_ (fun j u' hj hd=>hu (j+1) u' (by simpa using hj) (by rw[show k+(j+1)=k+1+j by omega];exact hd))
  by_cases hd:d k=true
  · rw[if_pos hd]
    have h0:=hu 0 u rfl (by simpa using hd)
    have key:∀ (u:List (Loc×V)) (s:Get),(∀ v,s l=some v→Z v)→(∀ p∈u,p.1=l→Z p.2)→∀ v,updG s u l=some v→Z v:=by
     intro u
     induction u with
     |nil=>exact fun s h _=>h
     | cons p u ih=>
      obtain⟨l0,v0⟩:=p;intro s h hp;refine ih _ (fun v hv=> ?_) (fun p hm=>hp p (zq _ hm))
      have hv:(if l=l0 then some v0 else s l)=some v:=hv
      split at hv
      · rename_i e
        cases hv;exact hp (l0,v0) List.mem_cons_self e.symm
      · exact h v hv
    exact key u s h h0
  · rw[if_neg hd];exact h
theorem wpAny_ev {orc:Orc} (hC:CfgOk P cfg) (hO:OrcOk P cfg orc) {ops:Array Oper} {Q:Exit→Act→World→Prop} {l:List IOper} (hlen:l.length=ops.size) (hl:∀ (j:Nat) io,l[j]? =some io→∃ o,ops[j]? =some o∧COper P N ops o io)
  (hb:backw 0 (ops.toList.map ak)=true) {st st':St} {rw_:List Rec} (hev:evOpsU cfg orc dep st.env true l st=some (rw_,st')) (hun:unordOk rw_ (au (az [] (ops.toList.map ak)))=true):
  ∃ us:List (List (Loc×V)),us.length=ops.size∧∀ (fuel:Nat) (listed:Array Bool) (x:Cx) (a:Act) (w:World),listed.size=ops.size→(∀ (j:Nat) o,ops[j]? =some o→doneF listed j=true→∀ q∈ak o,doneF listed q=true)→
    left ops.size (doneF listed)≤fuel→Rel cfg x N (part us (doneF listed) 0 st.get) a w→
    (∀ a' w' x',Rel cfg x' N st'.get a' w'→Fr dep x x' w w'→Q .normal a' w')→wpAny P .any ops Q fuel listed a w:=by
 obtain⟨us,hul,hfin,hus⟩:=aeo l true st st' rw_ hev;refine⟨us,by rw[hul,hlen],fun fuel=> ?_⟩
 have hbl:(az [] (ops.toList.map ak)).length=ops.size:=by rw[lp];simp
 have hend:∀ (listed:Array Bool) (x:Cx) (a:Act) (w:World),(∀ i,i<ops.size→doneF listed i=true)→Rel cfg x N (part us (doneF listed) 0 st.get) a w→Rel cfg x N st'.get a w:=by
  intro listed x a w hall R;rw[hfin,← avy us (doneF listed) (fun _=>true) 0 st.get (fun j hj=>by rw[Nat.zero_add];exact hall j yp)]
  exact R
 induction fuel with
 | zero=>
  intro listed x a w hs hcl hle R hQ;have hall:=a25 (Nat.le_zero.1 hle);refine⟨?_,hQ a w x (hend listed x a w hall R) (.refl _ _ _)⟩;cases hr:Region.ready .any ops listed with
  |nil=>rfl
  | cons i r=>
    obtain⟨h1,h2,_⟩:=ready_spec hs (i:=i) (by rw[hr];simp)
    rw[hall i h1] at h2;cases h2
 | succ fuel ih=>
  intro listed x a w hs hcl hle R hQ;refine⟨fun hr=>hQ a w x (hend listed x a w (ym hs hb hr) R) (.refl _ _ _),fun i hi=> ?_⟩
  obtain⟨h1,h2,o,ho,h3⟩:=ready_spec hs hi;obtain⟨io,hio⟩:∃ io,l[i]? =some io:=⟨_,yy yp⟩
  obtain⟨o',ho',hc⟩:=hl i io hio;rw[ho] at ho';cases ho';obtain⟨u,bi,t,pre',g1,g0,g2,g3,g4⟩:=hus i io hio;have hclosed:∀ (j:Nat) e,(ops.toList.map ak)[j]? =some e→doneF listed j=true→∀ q∈e,doneF listed q=true:=by
    intro j e he hdj q hq;rw[zg] at he;cases hoj:ops.toList[j]? with
    |none=>rw[hoj] at he;cases he
    | some oj=>
      rw[hoj] at he;cases he;exact hcl j oj (by simpa using hoj) hdj q hq
  have hbc:=kv hclosed
  have hpair:∀ j,j<ops.size→j≠i→(doneF listed j≠decide (j<i))→∀ u',us[j]? =some u'→(∀ lc,lc∈bz u'→lc ∉ bx dep (part us (fun j=>decide (j<i)) 0 st.get) io∧lc ∉ bz u)∧
      (bi=true→u'.all (fun p=>p.2.calm dep)=true∧noCell (bz u')=true):=by
    intro j hj hne hd u' hu';obtain⟨ioj,hioj⟩:∃ io,l[j]? =some io:=⟨_,yy yp⟩
    obtain⟨uj,bj,_,_,f1,_,_,f3,_⟩:=hus j ioj hioj;rw[hu'] at f1;cases f1;by_cases hji:j<i
    ·
      have hdj:doneF listed j=false:=by simpa[hji] using hd
      have hin:(j,i)∈au (az [] (ops.toList.map ak)):=by
        refine pd hji yp (fun hmem=> ?_)
        obtain⟨e,he,hp⟩:=gd (ops.toList.map ak) (ops.toList.map ak) [] (fun i e h=>by rw[List.length_nil,Nat.zero_add];exact h) (fun j b h=>by simp at h) i _ (yy yp) j hmem
        have hee:e=ak o:=by
          rw[zg] at he;rw[show ops.toList[i]? =some o by simpa using ho] at he
          cases he;rfl
        subst hee;rcases hp with hp|⟨q,hq1,_,b',hq3,hq4⟩
        · rw[h3 j hp] at hdj;cases hdj
        · rw[hbc q b' hq3 (h3 q hq1) j hq4] at hdj;cases hdj
      obtain⟨bj',cj,rj,wj,bi',ci,ri,wi,e1,e2,e3,e4,e5,e6⟩:=jc hun j i hin;rw[f3] at e1;rw[g3] at e2;cases e1;cases e2;refine⟨fun lc hlc=>⟨fun h=>oz e3 hlc (List.mem_append_left _ h),fun h=>oz e3 hlc (aak _ h)⟩,fun e=> ?_⟩
      rw[e] at e6;simpa[besideOk] using e6
    · have hdj:doneF listed j=true:=by
        have:decide (j<i)=false:=by simp;omega
        rw[this] at hd;simpa using hd
      have hin:(i,j)∈au (az [] (ops.toList.map ak)):=by
        refine pd yp yp (fun hmem=> ?_)
        have:=hbc j _ (yy yp) hdj i hmem;rw[h2] at this;cases this
      obtain⟨bi',ci,ri,wi,bj',cj,rj,wj,e1,e2,e3,e4,e5,e6⟩:=jc hun i j hin;rw[g3] at e1;rw[f3] at e2;cases e1;cases e2;refine⟨fun lc hlc=>⟨fun h=>oz e4 hlc h,fun h=>oz e3 h (aak _ hlc)⟩,fun e=> ?_⟩
      rw[e] at e5;simpa[besideOk] using e5
  have hplace:∀ (lc:Loc),(∀ j,j<ops.size→j≠i→(doneF listed j≠decide (j<i))→∀ u',us[j]? =some u'→lc ∉ bz u')→part us (doneF listed) 0 st.get lc=part us (fun j=>decide (j<i)) 0 st.get lc:=by
    intro lc hno;refine gq us _ _ 0 _ _ lc rfl (fun j u' hj hd hk=> ?_)
    rw[Nat.zero_add] at hd;have hjl:j<ops.size:=by have:=(y4.1 hj).1;omega
    by_cases hji:j=i
    · subst hji
      rw[h2] at hd;simp at hd
    · exact hno j hjl hji hd u' hj hk
  have hagree:∀ lc∈bx dep t.get io,part us (doneF listed) 0 st.get lc=t.get lc:=by
    intro lc hlc;rw[g0] at hlc ⊢;exact hplace lc fun j hj hne hd u' hu' hk=>((hpair j hj hne hd u' hu').1 lc hk).1 hlc
  have hcell:bi=true→∀ c,part us (doneF listed) 0 st.get (.cell c)=t.get (.cell c):=by
    intro hbi c;rw[g0];exact hplace _ fun j hj hne hd u' hu' hk=>ta ((hpair j hj hne hd u' hu').2 hbi).2 hk
  have hcalm:calmE dep st.env=true→pre'=true→bi=true→∀ j v,part us (doneF listed) 0 st.get (.slot j)=some v→v.calm dep=true:=by
    intro hc0 hpre hbi k v;refine ads us _ 0 _ (fun v hv=>calmE_spec hc0 k v hv) (fun j u' hj hd p hp _=> ?_) v
    rw[Nat.zero_add] at hd;have hjl:j<ops.size:=by have:=(y4.1 hj).1;omega
    have hall:u'.all (fun p=>p.2.calm dep)=true:=by
      by_cases hji:j<i
      · exact(g4 hpre).2 j u' hji hj
      · by_cases hij:j=i
        · subst hij
          rw[h2] at hd;cases hd
        · exact((hpair j hjl hij (by rw[hd];simp;omega) u' hj).2 hbi).1
    exact aac.1 hall p hp
  have hset:∀ j,doneF (listed.setIfInBounds i true) j=if j=i then true else doneF listed j:=aew yp
  have hcong:∀ lc,part us (doneF (listed.setIfInBounds i true)) 0 st.get lc=updG (part us (doneF listed) 0 st.get) u lc:=by
    intro lc;by_cases hlc:lc∈bz u
    · refine a2v us _ 0 i st.get _ u lc g1 (by rw[Nat.zero_add,hset];simp) hlc (fun j u' hj hij hd hk=> ?_)
      rw[Nat.zero_add,hset,if_neg yp] at hd;have hjl:j<ops.size:=by have:=(y4.1 hj).1;omega
      exact((hpair j hjl yp (by rw[hd];simp;omega) u' hj).1 lc hk).2 hlc
    · rw[h9 hlc]
      refine gq us _ _ 0 _ _ lc rfl (fun j u' hj hd=> ?_)
      rw[Nat.zero_add,hset] at hd;by_cases hji:j=i
      · subst hji
        rw[g1] at hj;cases hj;exact hlc
      · rw[if_neg hji] at hd
        exact absurd rfl hd
  have hnext:∀ v w' x',Rel cfg x' N (updG (part us (doneF listed) 0 st.get) u) (a.put o.dst v) w'→Fr dep x x' w w'→wpAny P .any ops Q fuel (listed.setIfInBounds i true) (a.put o.dst v) w':=by
    intro v w' x' R' F;refine ih (listed.setIfInBounds i true) x' _ w' (by simpa using hs) (fun j oj hoj hdj q hq=> ?_) ?_ (R'.congr hcong) (fun a' w'' x'' R'' F'=>hQ a' w'' x'' R'' (F.trans F'))
    · rw[hset] at hdj ⊢
      split at hdj
      · rename_i e
        subst e;rw[ho] at hoj;cases hoj;rw[h3 q hq];simp
      · rw[hcl j oj hoj hdj q hq];simp
    · have:=a27 (doneF listed) (doneF (listed.setIfInBounds i true)) (fun j hj=>by rw[hset,hj];simp) ops.size i h1 h2 (by rw[hset];simp)
      omega
  obtain⟨t',ht'⟩:=aik us (doneF listed) 0 st;unfold wpOp;rw[ho];simp only;rcases stepX_wp (t':=t') hC hO R hc g2 hagree (fun k=>by rw[ht']) hcell hcalm (Q:=Q) hnext with⟨e1,e2⟩|⟨e1,e2⟩
  · rw[if_pos e1];exact .inl e2
  · rw[if_neg (by rw[e1];simp)];exact e2
end
end Go.Ev
namespace Go.Ev
open Go
section
variable {P:Program} {cfg:Cfg} {x:Cx} {N dep:Nat} {a:Act} {w:World}
theorem Rel.same {s s':Get} (R:Rel cfg x N s a w) (h:∀ l v',s' l=some v'→∃ v,s l=some v∧∀ u,RdV x s (conc x a w) w (some l) u v→RdV x s' (conc x a w) w (some l) u v')
   (hal:∀ c v',s' (.cell c)=some v'→(s' (.cell ⟨c.d,c.k,0⟩)).isSome):Rel cfg x N s' a w:=by
 refine⟨R.size,R.defs,R.bound,fun l v' hl=> ?_,fun k v' hk=> ?_,fun c v' hc=> ?_,R.globs,R.nofz,R.gobj⟩
 · obtain⟨v,h1,h2⟩:=h l v' hl
   obtain⟨u,hu,hr⟩:=R.locs l v h1;exact⟨u,hu,h2 u hr⟩
 · obtain⟨v,h1,_⟩:=h _ v' hk
   exact R.slotN k v h1
 · obtain⟨v,h1,_⟩:=h _ v' hc
   obtain⟨g1,g2,g3⟩:=R.box c v h1;exact⟨g1,hal c v' hc,g3⟩
theorem j9 (dep:Nat) (c:Cel):∀ m:List (Cel×V),lk (settleM dep m) c=(lk m c).map (V.home dep)
 | []=>rfl
 | (k,v)::r=>by
  simp only[settleM,lk];split
  · rfl
  · exact j9 dep c r
theorem te (dep:Nat) (e:List (Nat×V)) (k:Nat):∀ keep:List Nat,lk (settleE dep keep e) k=if keep.contains k then(lk e k).map (V.home dep) else none
 | []=>by simp[settleE,lk]
 | k0::r=>by
  have ih:=te dep e k r;unfold settleE;by_cases e0:k0=k
  · subst e0
    cases h:lk e k0 with
    |some v=>simp[lk]
    |none=>rw[h] at ih;simp[ih]
  · have e1:¬ k=k0:=fun h=>e0 h.symm
    split
    · simp[lk,e0,ih,e1]
    · simp[ih,e1]
theorem RdV.home {s s':Get} {l:Loc} {u:Value} {v:V} (h:RdV x s (conc x a w) w (some l) u v) (hal:∀ d k,(s (.cell ⟨d,k,0⟩)).isSome→(s' (.cell ⟨d,k,0⟩)).isSome):RdV x s' (conc x a w) w (some l) u (v.home dep):=by
 have go:(if v.upTo (dep+1) then v else .junk)=v.home dep→RdV x s' (conc x a w) w (some l) u (v.home dep):=fun e=>by
  rw[← e];split
  · rename_i hup
    exact h.move (dep+1) (fun b o u h1 h2=>⟨h1,h2⟩) (.refl _) (fun d k _ h=>⟨hal d k h,rfl⟩) (fun l0 e b hb=>⟨hb,fun o u h=>h⟩) hup
  · exact .junk _ _
 cases v with
 | own nw z es=>
  cases h with
  |own _ b o len cap _ _ _ how hlen hcap A=>exact .own _ _ _ _ _ _ _ _ how hlen hcap A
 |_=>exact go rfl
theorem Rel.settle {st:St} (R:Rel cfg x N st.get a w) (keep:List Nat):Rel cfg x N (settle dep keep st).get a w:=by
 have hc:∀ c v',(Go.Ev.settle dep keep st).get (.cell c)=some v'→∃ v,st.get (.cell c)=some v∧v'=v.home dep:=fun c v' h=>by
   have h':lk (settleM dep st.mem) c=some v':=h;rw[j9,yw] at h';obtain⟨v,h1,h2⟩:=h';exact⟨v,h1,h2.symm⟩
 have hal:∀ d k,(st.get (.cell ⟨d,k,0⟩)).isSome→((Go.Ev.settle dep keep st).get (.cell ⟨d,k,0⟩)).isSome:=fun d k h=>by
   show(lk (settleM dep st.mem) _).isSome;rw[j9,Option.isSome_map];exact h
 refine R.same (fun l v' hl=> ?_) (fun c v' h=> ?_)
 · cases l with
   | slot k=>
    have h':lk (settleE dep keep st.env) k=some v':=hl;rw[te] at h';split at h'
    · rw[yw] at h'
      obtain⟨v,h1,rfl⟩:=h';exact⟨v,h1,fun u hr=>hr.home hal⟩
    · cases h'
   | cell c=>
    obtain⟨v,h1,rfl⟩:=hc c v' hl;exact⟨v,h1,fun u hr=>hr.home hal⟩
 · obtain⟨v,h1,_⟩:=hc c v' h
   exact hal _ _ (R.box c v h1).2.1
theorem m6 (k k':Nat):∀ m:List (Nat×V),lk (demoteE k m) k'=if k'=k then(lk m k').map (fun v=>match v with| .own _ _ es=> .d (.sl es)|v=>v) else lk m k'
 | []=>by simp[demoteE,lk]
 | (k0,v)::r=>by
  have ih:=m6 k k' r;simp only[demoteE];split
  · rename_i e
    subst e;cases v<;>simp only[lk]<;>by_cases e:k0=k'<;>simp[e]
    all_goals (intro h;exact absurd h.symm e)
  · rename_i hne
    simp only[lk];by_cases e:k0=k'
    · subst e;simp[hne]
    · simp[e,ih]
theorem Rel.demote {st:St} (R:Rel cfg x N st.get a w) (k:Nat):∃ x',Rel cfg x' N (St.get {st with env:=demoteE k st.env}) a w∧Fr dep x x' w w:=by
 by_cases h:∃ nw z es,st.get (.slot k)=some (.own nw z es)
 · obtain⟨nw,z,es,h⟩:=h
   obtain⟨b,h1,_,h2⟩:=R.release h;refine⟨_,h2.congr (fun l=> ?_),Fr.give h1 _⟩
   rw[a7];cases l with
   | slot k'=>
    show lk (demoteE k st.env) k'=_;rw[m6];by_cases e:k'=k
    · subst e
      have h':lk st.env k'=some (.own nw z es):=h;simp[h']
    · simp[e];rfl
   |cell c=>simp;rfl
 · refine⟨x,R.congr (fun l=> ?_),.refl _ _ _⟩
   cases l with
   | slot k'=>
    show lk (demoteE k st.env) k'=lk st.env k';rw[m6];split
    · rename_i e
      subst e;cases hv:lk st.env k' with
      |none=>rfl
      | some v=>
       cases v with
       |own nw z es=>exact absurd ⟨nw,z,es,hv⟩ h
       |_=>rfl
    · rfl
   |cell c=>rfl
theorem Rel.demotes:∀ (ls:List Nat) {st:St} {x:Cx},Rel cfg x N st.get a w→∃ x',Rel cfg x' N (St.get {st with env:=ls.foldl (fun e k=>demoteE k e) st.env}) a w∧Fr dep x x' w w
 | [],st,x,R=>⟨x,R,.refl _ _ _⟩
 | k::ls,st,x,R=>by
  obtain⟨x1,R1,F1⟩:=R.demote (dep:=dep) k;obtain⟨x2,R2,F2⟩:=Rel.demotes ls R1;exact⟨x2,R2,F1.trans F2⟩
theorem Rel.givesB:∀ (ls:List Nat) {st:St} {x:Cx},Rel cfg x N st.get a w→∃ x',Rel cfg x' N (Go.Ev.givesB st ls).get a w∧Fr dep x x' w w
 | [],st,x,R=>⟨x,R,.refl _ _ _⟩
 | k::ls,st,x,R=>by
  have one:∃ x',Rel cfg x' N (st.upd (givenB st.get k)).get a w∧Fr dep x x' w w:=by
   rw[d7];unfold givenB;split
   · split
     · rename_i h
       obtain⟨b,h1,_,h2⟩:=R.release h;exact⟨_,h2,Fr.give h1 _⟩
     · exact⟨x,R,.refl _ _ _⟩
   · exact⟨x,R,.refl _ _ _⟩
  obtain⟨x1,R1,F1⟩:=one;obtain⟨x2,R2,F2⟩:=Rel.givesB ls R1;exact⟨x2,R2,F1.trans F2⟩
theorem aud (d k j:Nat):∀ m:List (Nat×V),lk (freeE d k m) j=(lk m j).map (V.free d k)
 | []=>rfl
 | (j0,v)::r=>by
  simp only[freeE,lk];split
  · rfl
  · exact aud d k j r
theorem oy (d k:Nat) (c:Cel):∀ m:List (Cel×V),lk (freeM d k m) c=if c.d=d∧c.k=k then none else(lk m c).map (V.free d k)
 | []=>by simp[freeM,lk]
 | (c0,v)::r=>by
  have ih:=oy d k c r;unfold freeM;split
  · rename_i h
    rw[ih];simp only[lk];by_cases e:c0=c
    · subst e;simp[h]
    · simp[e]
  · rename_i h
    simp only[lk];by_cases e:c0=c
    · subst e;simp[h]
    · simp[e,ih]
theorem g9 {d k:Nat}:∀ {l:List V},V.aparts d k l=true→∀ (i:Nat) y,l[i]? =some y→y.apart d k=true
 | [],_,i,y,h=>by simp at h
 | v::r,ha,i,y,h=>by
  simp only[V.aparts,ze] at ha;cases i with
  |zero=>simp at h;rw[← h];exact ha.1
  |succ i=>exact g9 ha.2 i y (by simpa using h)
theorem RdV.toApart {x:Cx} {s s':Get} {cv:Loc→Option Value} {w:World} {d k:Nat} (hown:∀ l z es,s' l=some (.own false z es)→s l=some (.own false z es))
  (hal:∀ d' j,¬ (d'=d∧j=k)→(s (.cell ⟨d',j,0⟩)).isSome→(s' (.cell ⟨d',j,0⟩)).isSome) {l:Option Loc} {u:Value} {y:V} (h:RdV x s cv w l u y):y.apart d k=true→RdV x s' cv w l u y:=by
 induction h with
 |d _ _ y h=>exact fun _=> .d _ _ _ h
 |own _ b o len cap z nw es how hlen hcap A=>exact fun _=> .own _ _ _ _ _ _ _ _ how hlen hcap A
 |bor _ l' off len b o' cap' hcap h=>exact fun _=> .bor _ _ _ _ _ _ _ hcap fun z es hs=>h z es (hown _ _ _ hs)
 |bref _ l' i off b o' h=>exact fun _=> .bref _ _ _ _ _ _ fun z es hs=>h z es (hown _ _ _ hs)
 |iptr _ b o off e h=>exact fun _=> .iptr _ _ _ _ _ h
 | ref _ d' j off h=>
  intro ha;refine .ref _ _ _ _ (hal d' j (fun⟨e1,e2⟩=> ?_) h)
  subst e1 e2;simp[V.apart] at ha
 | clo _ f va vb xs ys hl hl' _ _ ih ih'=>
  intro ha;simp only[V.apart,ze] at ha;exact .clo _ _ _ _ _ _ hl hl' (fun i v y h1 h2=>ih i v y h1 h2 (g9 ha.1 i y h2)) (fun i v y h1 h2=>ih' i v y h1 h2 (g9 ha.2 i y h2))
 |ifc _ t v y _ ih=>exact fun ha=> .ifc _ _ _ _ (ih ha)
 | vec _ b o cap ys vs hcap hm _ ih=>
  intro ha;simp only[V.apart] at ha;exact .vec _ _ _ _ _ _ hcap hm (fun i y h1=>ih i y h1 (g9 ha i y h1))
 | rcd _ vs ys hl _ hd ih=>
  intro ha;simp only[V.apart] at ha;exact .rcd _ _ _ hl (fun i v y h1 h2=>ih i v y h1 h2 (g9 ha i y h2)) hd
 |vref _ b o v y hb hm _ ih=>exact fun ha=> .vref _ _ _ _ _ hb hm (ih ha)
 |junk=>exact fun _=> .junk _ _
theorem Rel.free {st:St} (R:Rel cfg x N st.get a w) (k:Nat):Rel cfg x N (St.get ⟨freeE dep k st.env,freeM dep k st.mem⟩) a w:=by
 have hall:∀ l v',St.get ⟨freeE dep k st.env,freeM dep k st.mem⟩ l=some v'→(∀ c,l= .cell c→¬ (c.d=dep∧c.k=k))∧∃ v,st.get l=some v∧v'=v.free dep k:=fun l v' h=>by
   cases l with
   | slot j=>
    have h':lk (freeE dep k st.env) j=some v':=h;rw[aud,yw] at h';obtain⟨v,h1,h2⟩:=h';exact⟨(fun c e=>by cases e),v,h1,h2.symm⟩
   | cell c=>
    have h':lk (freeM dep k st.mem) c=some v':=h;rw[oy] at h';split at h'
    · cases h'
    · rename_i hne
      rw[yw] at h';obtain⟨v,h1,h2⟩:=h';exact⟨fun c' e=>by cases e;exact hne,v,h1,h2.symm⟩
 have hal:∀ d j,¬ (d=dep∧j=k)→(st.get (.cell ⟨d,j,0⟩)).isSome→(St.get ⟨freeE dep k st.env,freeM dep k st.mem⟩ (.cell ⟨d,j,0⟩)).isSome:=fun d j hne h=>by
   show(lk (freeM dep k st.mem) _).isSome;rw[oy,if_neg hne,Option.isSome_map];exact h
 have hown:∀ l z es,St.get ⟨freeE dep k st.env,freeM dep k st.mem⟩ l=some (.own false z es)→st.get l=some (.own false z es):=fun l z es h=>by
   obtain⟨_,v,h1,h2⟩:=hall l _ h;rw[h1];cases v with
   |own nw z' es'=>simpa[V.free] using h2.symm
   | ref d' k' off=>
    simp only[V.free] at h2;split at h2<;>cases h2
   | clo f a b=>
    simp only[V.free] at h2;split at h2<;>cases h2
   | ifc t v=>
    simp only[V.free] at h2;split at h2<;>cases h2
   | vec ys=>
    simp only[V.free] at h2;split at h2<;>cases h2
   | vref y=>
    simp only[V.free] at h2;split at h2<;>cases h2
   |_=>simp[V.free] at h2
 refine R.same (fun l v' hl=> ?_) (fun c v' h=> ?_)
 · obtain⟨_,v,h1,rfl⟩:=hall l v' hl
   refine⟨v,h1,fun u hr=> ?_⟩
   cases hr with
   |d _ _ y h=>exact .d _ _ _ h
   |own _ b o len cap z nw es how hlen hcap A=>exact .own _ _ _ _ _ _ _ _ how hlen hcap A
   |bor _ l' off len b o' cap' hcap h=>exact .bor _ _ _ _ _ _ _ hcap fun z es hs=>h z es (hown _ _ _ hs)
   |bref _ l' i off b o' h=>exact .bref _ _ _ _ _ _ fun z es hs=>h z es (hown _ _ _ hs)
   |iptr _ b o off e h=>exact .iptr _ _ _ _ _ h
   | ref _ d j off h=>
    simp only[V.free];split
    · exact .junk _ _
    · rename_i hne
      exact .ref _ _ _ _ (hal d j hne h)
   | clo _ f va vb xs ys k1 k2 g g'=>
    simp only[V.free];split
    · rename_i ha
      exact(RdV.clo _ f va vb xs ys k1 k2 g g').toApart hown hal (by simpa only[V.apart] using ha)
    · exact .junk _ _
   | ifc _ t v y g=>
    simp only[V.free];split
    · rename_i ha
      exact(RdV.ifc _ t v y g).toApart hown hal (by simpa only[V.apart] using ha)
    · exact .junk _ _
   | vec _ b o cap ys vs hcap hm g=>
    simp only[V.free];split
    · rename_i ha
      exact(RdV.vec _ b o cap ys vs hcap hm g).toApart hown hal (by simpa only[V.apart] using ha)
    · exact .junk _ _
   |rcd=>exact .junk _ _
   | vref _ b o v y hb hm g=>
    simp only[V.free];split
    · rename_i ha
      exact(RdV.vref _ b o v y hb hm g).toApart hown hal (by simpa only[V.apart] using ha)
    · exact .junk _ _
   |junk=>exact .junk _ _
 · obtain⟨h0,v,h1,_⟩:=hall _ v' h
   exact hal _ _ (h0 c rfl) (R.box c v h1).2.1
end
end Go.Ev
namespace Go.Ev
open Go
theorem q9 {P:Program} {ad:Advice} {N:Nat} {ops:Array Oper}:∀ (r:List Oper) (l:List IOper),ra P ad N (ops.toList.map (·.dst)) r=some l→
  l.length=r.length∧∀ (j:Nat) io,l[j]? =some io→∃ o,r[j]? =some o∧COper P N ops o io
 | [],l,h=>by cases h;simp
 | o::r,l,h=>by
  unfold ra at h;split at h
  · rename_i io l' h1 h2
    cases h;obtain⟨g1,g2⟩:=q9 r l' h2;refine⟨by simp[g1],fun j io' hj=> ?_⟩
    cases j with
    | succ j=>
     obtain⟨o',h3,h4⟩:=g2 j io' (by simpa using hj)
     exact⟨o',by simpa using h3,h4⟩
    | zero=>
     simp only[List.getElem?_cons_zero,Option.some.injEq] at hj;subst hj;refine⟨o,rfl,?_⟩;unfold cOper at h1;simp only at h1;split at h1
     · rename_i hok
       have hlt:∀ k,o.dst=some k→k<N:=fun k e=>by rw[e] at hok;simpa[okDst] using hok
       split at h1
       · rename_i hg
         cases h1;exact⟨rfl,hlt,⟨_,_,rfl⟩,by rw[hg]⟩
       · rename_i i b hg
         split at h1
         · rename_i k hk
           cases h1;refine⟨rfl,hlt,⟨_,_,rfl⟩,?_⟩;rw[hg];refine⟨k,?_,rfl⟩;rw[zg] at hk;cases ho:ops[i]? with
           |none=>rw[show ops.toList[i]? =none by simpa using ho] at hk;cases hk
           | some oi=>
            rw[show ops.toList[i]? =some oi by simpa using ho] at hk
            simpa using hk
         · cases h1
     · cases h1
  · cases h
section
variable {P:Program} {cfg:Cfg} {N dep:Nat}
theorem avd {es:List (List Nat)} (h:au (az [] es)=[]) {i j:Nat} (hij:i<j) (hj:j<es.length):∃ b,(az [] es)[j]? =some b∧i∈b:=by
 have hl:j<(az [] es).length:=by rw[lp];simpa using hj
 refine⟨_,yy hl,?_⟩;apply Classical.byContradiction;intro hno;have:=pd hij hl hno;rw[h] at this;simp at this
theorem xm {orc:Orc} (hC:CfgOk P cfg) (hO:OrcOk P cfg orc) {ops:Array Oper} {Q:Exit→Act→World→Prop} {L:List IOper} (hlen:L.length=ops.size) (hL:∀ (j:Nat) io,L[j]? =some io→∃ o,ops[j]? =some o∧COper P N ops o io)
  (hb:backw 0 (ops.toList.map ak)=true) (hun:au (az [] (ops.toList.map ak))=[]):
  ∀ (l:List IOper) (i:Nat) (listed:Array Bool) (x:Cx) (a:Act) (w:World) (st st':St),l=L.drop i→listed.size=ops.size→(∀ j,j<ops.size→doneF listed j=decide (j<i))→Rel cfg x N st.get a w→evOps cfg orc dep l st=some st'→
  (∀ a' w' x',Rel cfg x' N st'.get a' w'→Fr dep x x' w w'→Q .normal a' w')→wpAny P .any ops Q l.length listed a w
 | [],i,listed,x,a,w,st,st',hl,hs,hd,R,h,hQ=>by
  cases h;have hi:ops.size≤i:=by
    have:=congrArg List.length hl;simp at this;omega
  refine⟨?_,hQ a w x R (.refl _ _ _)⟩;cases hr:Region.ready .any ops listed with
  |nil=>rfl
  | cons j r=>
    obtain⟨h1,h2,_⟩:=ready_spec hs (i:=j) (by rw[hr];simp)
    rw[hd j h1] at h2;simp at h2;omega
 | io::l,i,listed,x,a,w,st,st',hl,hs,hd,R,h,hQ=>by
  have hi:i<ops.size:=by
    have:=congrArg List.length hl;simp at this;omega
  refine⟨fun hr=> ?_,fun p hp=> ?_⟩
  · have:=ym hs hb hr i hi
    rw[hd i hi] at this;simp at this
  · obtain⟨h1,h2,o,ho,h3⟩:=ready_spec hs hp
    have hpi:p=i:=by
      rw[hd p h1] at h2;simp at h2;apply Classical.byContradiction;intro hne;have hip:i<p:=yp;obtain⟨b,hb1,hb2⟩:=avd hun hip (by simpa using h1)
      have hclosed:∀ (j:Nat) e,(ops.toList.map ak)[j]? =some e→doneF listed j=true→∀ q∈e,doneF listed q=true:=by
        intro j e he hdj q hq;have hj:j<ops.size:=by have:=(y4.1 he).1;simpa using this
        have hlt:=ni _ 0 hb j e he q hq;rw[hd j hj] at hdj;simp at hdj;rw[hd q yp];simp;omega
      obtain⟨e,he,hpp⟩:=gd (ops.toList.map ak) (ops.toList.map ak) [] (fun i e h=>by rw[List.length_nil,Nat.zero_add];exact h) (fun j b h=>by simp at h) p b hb1 i hb2
      have hee:e=ak o:=by
        rw[zg] at he;rw[show ops.toList[p]? =some o by simpa using ho] at he
        cases he;rfl
      subst hee;have hdi:doneF listed i=true:=by
        rcases hpp with hpp|⟨q,hq1,_,b',hq3,hq4⟩
        · exact h3 i hpp
        · exact kv hclosed q b' hq3 (h3 q hq1) i hq4
      rw[hd i hi] at hdi;simp at hdi
    subst hpi;have hio:L[p]? =some io:=by
      have:=congrArg (fun l=>l[0]?) hl
      simpa using this.symm
    obtain⟨o',ho',hc⟩:=hL p io hio;rw[ho] at ho';cases ho';unfold evOps at h;split at h
    · rename_i st1 hst
      have hrest:∀ v w' x',Rel cfg x' N st1.get (a.put o.dst v) w'→Fr dep x x' w w'→wpAny P .any ops Q l.length (listed.setIfInBounds p true) (a.put o.dst v) w':=fun v w' x' R' F=>
        xm hC hO hlen hL hb hun l (p+1) _ x' _ w' st1 st' (by
          have:=congrArg List.tail hl;simpa using this) (by simpa using hs) (fun j hj=>by
           rw[aew yp,hd j hj];by_cases e:j=p
           · simp[e]
           · rw[if_neg e]
             congr 1
             exact propext ⟨fun h=>by omega,fun h=>by omega⟩) R' h (fun a' w'' x'' R'' F'=>hQ a' w'' x'' R'' (F.trans F'))
      unfold wpOp;rw[ho];simp only;rcases axh hC hO R hc hst (Q:=Q) hrest with⟨h1,h2⟩|⟨h1,h2⟩
      · rw[if_pos h1];exact .inl h2
      · rw[if_neg (by rw[h1];simp)];exact h2
    · cases h
end
end Go.Ev
namespace Go.Ev
open Go
theorem D.same_eq {a b:D} (h:a.same b=true):a=b:=by
 unfold D.same at h;split at h<;>first|rfl| (simp only[zt] at h;rw[h])| (simp only[ze,zh,zt] at h;rw[h.1,h.2])|cases h
theorem m9:∀ {a b:List (Nat×V)},envSame a b=true→a=b
 | [],[],_=>rfl
 | (k,.d x)::r,(k',.d y)::r',h=>by
  simp only[envSame,ze,zt] at h;rw[h.1.1,D.same_eq h.1.2,m9 h.2]
 | [],_::_,h=>by simp[envSame] at h
 | (_,v)::_,[],h=>by cases v<;>simp[envSame] at h
 | (_,.d _)::_,(_,v)::_,h=>by cases v<;>first| (simp[envSame] at h;done)|skip;rename_i y;rename_i k x r k' r';simp only[envSame,ze,zt] at h;rw[h.1.1,D.same_eq h.1.2,m9 h.2]
 | (_,.own _ _ _)::_,_::_,h| (_,.bor _ _ _)::_,_::_,h| (_,.bref _ _ _)::_,_::_,h| (_,.iptr _ _)::_,_::_,h| (_,.ref _ _ _)::_,_::_,h| (_,.clo _ _ _)::_,_::_,h| (_,.ifc _ _)::_,_::_,h| (_,.junk)::_,_::_,h=>by simp[envSame] at h
theorem a3v {a b:Ex} (h:exSame a b=true):a=b:=by
 unfold exSame at h;split at h<;>first|rfl| (simp only[zt] at h;rw[h])|cases h
theorem dj {a b:Option (Ex×St)} {r:Ex×St} (h:bothWays a b=some r):a=some r∧b=some r:=by
 unfold bothWays at h;split at h
 · rename_i e s e' s'
   split at h
   · rename_i hq
     cases h;simp only[ze,List.isEmpty_iff] at hq;obtain⟨⟨⟨h1,h2⟩,h3⟩,h4⟩:=hq;have:=a3v h1;subst this;obtain⟨e1,m1⟩:=s;obtain⟨e2,m2⟩:=s';have:=m9 h2;simp only at this h3 h4;subst this;subst h3;subst h4;exact⟨rfl,rfl⟩
   · cases h
 · cases h
theorem rb {a b a' b':Option (Ex×St)} (ha:∀ r,a=some r→a'=some r) (hb:∀ r,b=some r→b'=some r) {r:Ex×St} (h:bothWays a b=some r):bothWays a' b'=some r:=by
 obtain⟨h1,h2⟩:=dj h;rw[ha r h1,hb r h2];rw[h1,h2] at h;exact h
def exitOf:Ex→Exit
 | .normal=> .normal
 | .ret=> .ret
 | .exit id=> .exit id
section
variable {P:Program} {cfg:Cfg} {N dep:Nat}
theorem sq {orc:Orc} (hC:CfgOk P cfg) (hO:OrcOk P cfg orc) {ops:Array Oper} {draw:Bool} {ad:Advice} {l:List IOper} (hl:ra P ad N (ops.toList.map (·.dst)) ops.toList=some l)
  (hb:draw=true→backw 0 (ops.toList.map ak)=true) {st st':St} {x:Cx} {a:Act} {w:World} (R:Rel cfg x N st.get a w)
  (hev:evRegion cfg orc dep l (if draw then au (az [] (ops.toList.map ak)) else[]) st=some st') {Q:Exit→Act→World→Prop}
  (hQ:∀ a' w' x',Rel cfg x' N st'.get a' w'→Fr dep x x' w w'→Q .normal a' w'):
  if draw then wpAny P .any ops Q ops.size (Array.replicate ops.size false) a {w with drawn:=w.drawn+1} else wpOps P ops Q (List.range ops.size) a w:=by
 obtain⟨hlen,hspec⟩:=q9 ops.toList l hl;have hspec':∀ (j:Nat) io,l[j]? =some io→∃ o,ops[j]? =some o∧COper P N ops o io:=fun j io h=>by
  obtain⟨o,h1,h2⟩:=hspec j io h;exact⟨o,by simpa using h1,h2⟩
 have hlen':l.length=ops.size:=by simpa using hlen
 cases draw with
 | false=>
  have hev':evOps cfg orc dep l st=some st':=hev;show wpOps P ops Q (List.range ops.size) a w;rw[List.range_eq_range',← hlen'];exact ajy hC hO l 0 x a w st st' R (fun j io h=>by rw[Nat.zero_add];exact hspec' j io h) hev' hQ
 | true=>
  show wpAny P .any ops Q ops.size (Array.replicate ops.size false) a {w with drawn:=w.drawn+1};have hdone:∀ j,doneF (Array.replicate ops.size false) j=false:=fun j=>by
    unfold doneF;rw[Array.getD_eq_getD_getElem?,Array.getElem?_replicate];split<;>rfl
  have hQ':∀ a' w' x',Rel cfg x' N st'.get a' w'→Fr dep x x' {w with drawn:=w.drawn+1} w'→Q .normal a' w':=fun a' w' x' R' F=>hQ a' w' x' R' (Fr.drew.trans F)
  have hev:evRegion cfg orc dep l (au (az [] (ops.toList.map ak))) st=some st':=hev;unfold evRegion at hev;split at hev
  · rename_i un hun
    rw[← hlen'];have:=xm hC hO (Q:=Q) hlen' hspec' (hb rfl) hun l 0 (Array.replicate ops.size false) x a {w with drawn:=w.drawn+1} st st' rfl yt (fun j _=>by rw[hdone];simp) R.drew hev hQ'
    rwa [hlen'] at this ⊢
  · split at hev
    · rename_i rw_ st2 hst2
      split at hev
      · rename_i hok
        cases hev;obtain⟨us,hul,h⟩:=wpAny_ev hC hO (Q:=Q) hlen' hspec' (hb rfl) hst2 hok;refine h ops.size (Array.replicate ops.size false) x a _ yt (fun j o _ hd=>by rw[hdone] at hd;cases hd) ?_ ?_ hQ'
        · unfold left
          refine aaa (List.length_filter_le _ _) ?_;simp
        · have:part us (doneF (Array.replicate ops.size false)) 0 st.get=st.get:=by
           funext lc
           exact vt _ _ _ _ _ (fun j u _ hd=>by rw[hdone] at hd;cases hd)
          rw[this];exact R.drew
      · cases hev
    · cases hev
theorem ayh {orc:Orc} (hm:P.follows .mixedOrders=true) (hC:CfgOk P cfg) (hO:OrcOk P cfg orc) {id:Nat} {ops:Array Oper} {draw:Bool} {ad:Advice} {l:List IOper} (hl:ra P ad N (ops.toList.map (·.dst)) ops.toList=some l)
   (hb:draw=true→backw 0 (ops.toList.map ak)=true) {st st':St} {x:Cx} {a:Act} {w:World} (R:Rel cfg x N st.get a w)
   (hev:evRegion cfg orc dep l (if draw then au (az [] (ops.toList.map ak)) else[]) st=some st') {Q:Exit→Act→World→Prop}
   (hQ:∀ a' w' x',Rel cfg x' N st'.get a' w'→Fr dep x x' w w'→Q .normal a' w'):(Code.region id ops draw).wp P Q a w:=by
 have h:=sq hC hO hl hb R hev hQ;cases draw
 · exact wp_region h
 · exact wp_region_any hm h
end
end Go.Ev
namespace Go.Ev
open Go
abbrev rnd (r:Nat):Fence:=Fence.wide.inRound r
theorem stepsIn_rnd {P:Program} {r:Nat} {m m':Machine}:StepsIn (Machine.fenced P (rnd r)) P m m'↔Steps P m m':=stepsIn_wide (P:=P)
section
variable {P:Program} {ops:Array Oper} {Q:Exit→Act→World→Prop} {r n:Nat}
theorem upon_lift {o:Oper} {a:Act} {next next':Act→World→Prop} {res:Result Next} (hQ:¬ LetsOut Q) (hn:∀ a w,next a w→next' a w) (h:o.upon P a next Q res):o.uponIn (rnd r) n P a next' Q res:=by
 unfold Oper.upon at h;split at h
 · exact hn _ _ h
 · exact hn _ _ h
 · exact hn _ _ h
 · refine⟨(fun h=>by cases h),CallsIn.mono (F:=rnd r) (show CallsIn (rnd r) _ _ _ _ _ _ from callsIn_wide.2 h) fun e w' hr=> ?_⟩
   cases e with
   |returned v=>exact hn _ _ hr
   |panicked c=>exact hr
   |outgrown=>exact hr
 · refine⟨(fun h=>by cases h),fun c cs _=> ?_⟩
   obtain⟨v,w',h1,h2⟩:=h c cs;exact⟨v,w',hn _ _ h1,stepsIn_rnd.2 h2⟩
 · exact h
 · exact h.elim
theorem oper_lift {o:Oper} {a:Act} {w:World} {next next':Act→World→Prop} (hd:∀ c,o.op≠ .defer c) (hQ:¬ LetsOut Q) (hn:∀ a w,next a w→next' a w) (h:o.wp P a w next Q):o.wpIn (rnd r) n P a w next' Q:=by
 refine⟨fun _ _=>trivial,?_⟩
 rw[Oper.semAt_eq _ _ _ hd];exact upon_lift hQ hn h
theorem ops_lift (hd:∀ (j:Nat) o,ops[j]? =some o→∀ c,o.op≠ .defer c) (hQ:¬ LetsOut Q):∀ (l:List Nat) (a:Act) (w:World),wpOps P ops Q l a w→wpOpsIn (rnd r) n P ops Q l a w
 | [],_,_,h=>h
 | i::l,a,w,h=>by
  unfold wpOps at h;unfold wpOpsIn;split at h
  · rename_i e;rw[e];exact ops_lift hd hQ l a w h
  · rename_i o e
    rw[e];simp only;split at h
    · rename_i hw
      rw[if_pos hw];rcases h with h|h
      · exact oper_lift (hd i o e) hQ (fun a w h=>ops_lift hd hQ l a w h) h
      · exact absurd h.2 hQ
    · rename_i hw
      rw[if_neg hw];exact⟨fun _ _=>trivial,ops_lift hd hQ l _ w h⟩
theorem any_lift (hd:∀ (j:Nat) o,ops[j]? =some o→∀ c,o.op≠ .defer c) (hQ:¬ LetsOut Q) (md:Region.Mode):∀ (fuel:Nat) (listed:Array Bool) (a:Act) (w:World),wpAny P md ops Q fuel listed a w→wpAnyIn (rnd r) n P md ops Q fuel listed a w
 |0,_,_,_,h=>h
 | fuel+1,listed,a,w,h=>by
  refine⟨h.1,fun i hi=> ?_⟩
  have h2:=h.2 i hi;unfold wpOp at h2;unfold wpOpIn;split at h2
  · rename_i e;rw[e];exact any_lift hd hQ md fuel _ a w h2
  · rename_i o e
    rw[e];simp only;split at h2
    · rename_i hw
      rw[if_pos hw];rcases h2 with h2|h2
      · exact oper_lift (hd i o e) hQ (fun a w h=>any_lift hd hQ md fuel _ a w h) h2
      · exact absurd h2.2 hQ
    · rename_i hw
      rw[if_neg hw];exact⟨fun _ _=>trivial,any_lift hd hQ md fuel _ _ w h2⟩
theorem avt {cfg:Cfg} {N dep:Nat} {orc:Orc} (hm:P.follows .mixedOrders=true) (hC:CfgOk P cfg) (hO:OrcOk P cfg orc) {id:Nat} {draw:Bool} {ad:Advice} {l:List IOper} (hl:ra P ad N (ops.toList.map (·.dst)) ops.toList=some l)
   (hb:draw=true→backw 0 (ops.toList.map ak)=true) (hd:∀ (j:Nat) o,ops[j]? =some o→∀ c,o.op≠ .defer c) {st st':St} {x:Cx} {a:Act} {w:World} (R:Rel cfg x N st.get a w)
   (hev:evRegion cfg orc dep l (if draw then au (az [] (ops.toList.map ak)) else[]) st=some st')
   (hQ:∀ a' w' x',Rel cfg x' N st'.get a' w'→Fr dep x x' w w'→Q .normal a' w'):(Code.region id ops draw).wpIn (rnd r) n P Q a w:=by
 have h:=sq hC hO hl hb R hev (Q:=fun e a' w'=>e= .normal∧∃ x',Rel cfg x' N st'.get a' w'∧Fr dep x x' w w') (fun a' w' x' R' F'=>⟨rfl,x',R',F'⟩)
 have hno:¬ LetsOut (fun e a' w'=>e= .normal∧∃ x',Rel cfg x' N st'.get a' w'∧Fr dep x x' w w'):=by
   rintro ⟨_,_,h,_⟩;cases h
 refine wpIn_mono ?_ (Q:=fun e a' w'=>e= .normal∧∃ x',Rel cfg x' N st'.get a' w'∧Fr dep x x' w w') (fun e a' w' ⟨he,x',R',F'⟩=>he ▸ hQ a' w' x' R' F')
 cases draw
 · exact wpIn_region (ops_lift hd hno _ _ _ h)
 · exact wpIn_region_any hm (any_lift hd hno _ _ _ _ _ h)
theorem loop_n {F:Fence} {c:Code} (J:Nat→Act→World→Prop) (hz:∀ a w,¬ J 0 a w) (round:∀ m a w,J (m+1) a w→c.wpIn F n P (Exit.then (J m) Q) a w) {m:Nat} {a:Act} {w:World} (h:J m a w):(Code.loop c).wpIn F n P Q a w:=by
 intro b k cs hro hb hr;have key:∀ m a w,J m a w→∃ e a' w',Q e a' w'∧ArrivesIn (Machine.fenced P F) P (lone (b.atR a (.code c:: .inLoop c::k)) cs w) b k cs e a' w':=by
  intro m
  induction m with
  |zero=>intro a w h;exact absurd h (hz a w)
  | succ m ih=>
   intro a w h;obtain⟨e,a₁,w₁,hq,harr⟩:=round m a w h b (.inLoop c::k) cs hro hb hr;have out:e≠ .normal→∃ e a' w',Q e a' w'∧ArrivesIn (Machine.fenced P F) P (lone (b.atR a (.code c:: .inLoop c::k)) cs w) b k cs e a' w':=fun hne=>by
    refine⟨e,a₁,w₁,?_,.pass (x:= .inLoop c) rfl (fun _ _=> .inl hne) harr⟩
    cases e<;>first|exact absurd rfl hne|exact hq
   cases e with
   | normal=>
    obtain⟨e₂,a₂,w₂,hq₂,harr₂⟩:=ih a₁ w₁ hq;exact⟨e₂,a₂,w₂,hq₂,.of_steps (StepsIn.trans harr (.one (fenced_calm hb hr rfl) stepR_inLoop)) harr₂⟩
   |_=>exact out yt
 obtain⟨e,a',w',hq,harr⟩:=key m a w h;exact⟨e,a',w',hq,.of_steps (.one (fenced_calm hb hr rfl) stepR_loop) harr⟩
end
