import Derived.Test.YtkdiccgfbfbjlaaGreatL4
import Derived.Orders
import Derived.OrdersIn
import Derived.RangeFuncLeaves
namespace Go.Ev
open Go
section
variable {P:Program} {cfg:Cfg} {x:Cx} {N dep:Nat} {s:Get} {a:Act} {w:World}
theorem Arr.less {F:Nat→Prop} {b o cap cap' z:Nat} {es:List D} (A:Arr F w b o cap z es) (h:cap'≤cap):Arr F w b o cap' z es:=
 ⟨A.pos,fun j hj=>A.room j (ac1 hj (ac0 z h)),A.wid,A.cel,A.els⟩
theorem lr (dst:Option Nat) (p:AB) {y:V} (h:y.A5=false):Dr dst p y=some (AG dst y):=by
 cases y with
 |own nw z es=>simp[V.A5] at h
 |rcd ys=>simp[V.A5] at h
 |_=>cases p<;>rfl
theorem S0 (hC:boh P cfg) (R:Rel cfg x N s a w) {o:Oper} {f:FuncId} (hf:cfg.clip f=true) {k:Nat} (hd:o.dst=some k) (hk:k<N) {c:Call} (hcal:c.callee= .value (.func f)) (ho:o.op= .call c) {p:AB} (hargs:BM c.args.toList=some [p])
   {y:V} (hy:val cfg s p=some y) {u:List (Loc×V)} (hu:D2 (some k) p y=some u):D8 P cfg x N dep (AK s u) a w o:=by
 obtain⟨X,hXl,hX⟩:=mk1 (X:= .tmp 0) hargs;obtain⟨l,hr,hl⟩:=bb R hX hy;have hA:c.args.map a.eval= #[a.eval X]:=by
   have:c.args= #[X]:=by apply Array.ext';simpa using hXl
   rw[this];simp
 have AW:(execOp a.eval o).run P w=(callFunc f #[a.eval X]).run P w:=by
   have e:a.eval (.func f)= .func (.func f) #[] #[]:=rfl;simp[execOp,ho,resolve,hcal,e,hA,Deferred.ofValue,invoke]
 have go:∀ ad len cap,a.eval X= .slice ad len cap→len≤cap→(∃ x',Rel cfg x' N (AK s u) (a.put o.dst (.slice ad len len)) w∧Fr dep x x' w w)→D8 P cfg x N dep (AK s u) a w o:=by
   intro ad len cap he hle hx;rw[he] at AW;refine(hC f hf ad len cap w hle).walks AW (fun v w' h=> ?_)
   obtain⟨rfl,rfl⟩:=h;exact hx
 unfold D2 at hu;split at hu
 ·
   obtain⟨ad,e⟩:=hr.An.Dm;refine go ad 0 0 e (ab5 _) ⟨x,?_,.refl _ _ _⟩;rw[hd];rw[lr _ _ rfl] at hu;cases hu;exact R.put hk rfl (l:=none) (.d _ _ _ (.AL ad))
 ·
   rename_i es;have B7:=hr.An;generalize BD:a.eval X=v at B7;cases B7 with
   | slA ad cap=>
     refine go ad 0 cap BD (aco _) ⟨x,?_,.refl _ _ _⟩;rw[hd];rw[lr _ _ rfl] at hu;cases hu;exact R.put hk rfl (l:=none) (.d _ _ _ (.slA _ _))
   |sl b of len cap z _ vs hlen Ad hz hc hm h=>
   refine go _ _ _ BD Ad ⟨x,?_,.refl _ _ _⟩;rw[hd];have hput:u=AG (some k) (.d (.sl es)):=by
     rw[lr _ _ rfl] at hu;cases hu;rfl
   rw[hput];exact R.put hk rfl (l:=none) (.d _ _ _ (.sl b of len len z es vs hlen (ab5 _) hz hc hm h))
 ·
   rename_i nw z es;have hslot:∃ j,p= .t j:=by
     cases p with
     |t j=>exact⟨j,rfl⟩
     |c d=>simp[val] at hy
     |g n=>simp[val] at hy
   obtain⟨j,rfl⟩:=hslot;obtain⟨hl1,rfl⟩:=hl j rfl;have he:s (.slot j)=some (.own nw z es):=hy;obtain⟨b,o',cap,g1,g2,g3,g4⟩:=R.Bi he;have hv:a.eval (.tmp j)= .slice (some (ad3 b o')) es.length cap:=by simpa[Aa,Act.eval] using g1
   have g4':=g4.less g3;cases nw
   · have hput:u=AG (some k) (.bor (.slot j) 0 es.length):=by simpa[Dr] using hu.symm
     refine go _ _ _ hv g3 ⟨x,?_,.refl _ _ _⟩;rw[hd,hput];refine R.put hk rfl (l:=none) (.bor _ _ _ _ _ _ _ (ab5 _) fun z' B8 hs=> ?_)
     rw[he] at hs;cases hs;exact⟨o',_,cap,g1,by omega,.inr abu,g4'.room⟩
   · have hput:u=AG (some k) (.own true z es)++[(.slot j,.AM)]:=by simpa[Dr] using hu.symm
     refine go _ _ _ hv g3 ⟨x.AU b (some (.at (.slot k))),?_,Fr.AU g2 _⟩;rw[hd,hput];exact R.EY hk he g2 g4' rfl (ab5 _)
 ·
   rename_i l' off n;have hput:u=AG (some k) (.bor l' off n):=by
     rw[lr _ _ rfl] at hu;cases hu;rfl
   generalize BD:a.eval X=v at hr;cases hr with
   |bor _ _ _ _ b o' cap' Ad h=>
   refine go _ _ _ BD Ad ⟨x,?_,.refl _ _ _⟩;rw[hd,hput];refine R.put hk rfl (l:=none) (.bor _ _ _ _ _ _ _ (ab5 _) fun z es hs=> ?_)
   obtain⟨o,L,C,h1,h2,h3,h4⟩:=h z es hs;refine⟨o,L,C,h1,h2,?_,fun j hj=>h4 j (ac1 hj (ac0 z Ad))⟩
   rcases h3 with h3|h3
   · exact .inl ⟨h3.1,h3.1⟩
   · exact .inr h3
 · cases hu
structure EV (P:Program) (N:Nat) (ops:Array Oper) (o:Oper) (io:AS):Prop where
 dst:io.dst=o.dst
 lt:∀ k,o.dst=some k→k<N
 op:∃ own g,gOp g ((cOp P own o.op).getD .bad)=io.op
 guard:match o.guard with
  |none=>io.guard=none
  |some (j,b)=>∃ k,(ops[j]?).bind (·.dst)=some k∧io.guard=some (k,b)
theorem cy (R:Rel cfg x N s a w) {ops:Array Oper} {o:Oper} {io:AS} (hc:EV P N ops o io) {t:Bool} (hg:Ay s io.guard=some t):Region.wanted o (yielded ops a.tmps)=t:=by
 have h:=hc.guard;unfold Region.wanted;cases hog:o.guard with
 | none=>
  rw[hog] at h;simp only at h;rw[h] at hg;cases hg;rfl
 | some jb=>
  obtain⟨j,b⟩:=jb;rw[hog] at h;simp only at h ⊢;obtain⟨k,h1,h2⟩:=h;rw[h2] at hg;unfold Ay at hg;simp only at hg;split at hg
  · rename_i c hs
    cases hg;obtain⟨u,hu,hr⟩:=R.Bl _ _ hs;have e:=hr.An.Cc;subst e;have hk:=R.CB _ _ hs;have hget:a.tmps[k]? =some (.bool c):=by
     have:a.tmps.getD k undef= .bool c:=by simpa[Aa] using hu
     rw[Array.getD_eq_getD_getElem?] at this;rw[← R.size] at hk;rw[acm hk] at this ⊢;exact congrArg some this
    simp only[yielded,h1,Option.bind_some,hget];cases c<;>cases b<;>rfl
  · rename_i hs
    cases hg;obtain⟨u,hu,hr⟩:=R.Bl _ _ hs;have hk:=R.CB _ _ hs;have hr':=hr.An;cases hr' with
    |tup vs cs hl h=>
    have hget:a.tmps[k]? =some (.tuple vs.toArray):=by
     have:a.tmps.getD k undef= .tuple vs.toArray:=by simpa[Aa] using hu
     rw[Array.getD_eq_getD_getElem?] at this;rw[← R.size] at hk;rw[acm hk] at this ⊢;exact congrArg some this
    simp only[yielded,h1,Option.bind_some,hget];rfl
  · cases hg
theorem ar3 (F:Nat→Prop) (w:World):Rd F w undef (.tup []):=by
 have:=Rd.tup (F:=F) (w:=w) [] [] rfl (fun i v c h=>by simp at h)
 exact this
theorem ke {s:Get}:∀ {l:List AB} {p:Loc×V},p∈BZ s l→∃ k nw z es,AB.t k∈l∧s p.1=some (.own nw z es)∧p.2= .d (.sl es)∧(p.1= .slot k∨∃ o n,s (.slot k)=some (.bor p.1 o n))
 | [],p,h=>by cases h
 | .c _::r,p,h=>by
  obtain⟨k,nw,z,es,h4,h⟩:=ke (l:=r) h;exact⟨k,nw,z,es,acn _ h4,h⟩
 | .g _::r,p,h=>by
  obtain⟨k,nw,z,es,h4,h⟩:=ke (l:=r) h;exact⟨k,nw,z,es,acn _ h4,h⟩
 | .t k::r,p,h=>by
  have more:p∈BZ s r→∃ k' nw z es,AB.t k'∈ .t k::r∧s p.1=some (.own nw z es)∧p.2= .d (.sl es)∧(p.1= .slot k'∨∃ o n,s (.slot k')=some (.bor p.1 o n)):=fun h=>by
    obtain⟨k,nw,z,es,h4,h⟩:=ke (l:=r) h;exact⟨k,nw,z,es,acn _ h4,h⟩
  unfold BZ at h;split at h
  · rename_i nw z es hk
    rcases ach.1 h with e|h
    · subst e
      exact⟨k,nw,z,es,List.mem_cons_self,hk,rfl,.inl rfl⟩
    · exact more h
  · rename_i l o n hk
    split at h
    · rename_i z es hl
      rcases ach.1 h with e|h
      · subst e
        exact⟨k,false,z,es,List.mem_cons_self,hl,rfl,.inr ⟨o,n,hk⟩⟩
      · exact more h
    · exact more h
  · exact more h
theorem j9 {s:Get}:∀ {l:List AB} {p:Loc×V},p∈CC s l→∃ k l' o n z es,AB.t k∈l∧p=(.slot k,.d (.sl ((es.drop o).take n)))∧s (.slot k)=some (.bor l' o n)∧s l'=some (.own false z es)∧(l',V.d (.sl es))∈BZ s l
 | [],p,h=>by cases h
 | .c _::r,p,h=>by
  obtain⟨k,l',o,n,z,es,h4,h⟩:=j9 (l:=r) h;exact⟨k,l',o,n,z,es,acn _ h4,h⟩
 | .g _::r,p,h=>by
  obtain⟨k,l',o,n,z,es,h4,h⟩:=j9 (l:=r) h;exact⟨k,l',o,n,z,es,acn _ h4,h⟩
 | .t k::r,p,h=>by
  have sup:∀ q,q∈BZ s r→q∈BZ s (.t k::r):=fun q hq=>by
    unfold BZ;split
    · exact acn _ hq
    · split
      · exact acn _ hq
      · exact hq
    · exact hq
  have more:p∈CC s r→∃ k' l' o n z es,AB.t k'∈ .t k::r∧p=(.slot k',.d (.sl ((es.drop o).take n)))∧s (.slot k')=some (.bor l' o n)∧s l'=some (.own false z es)∧(l',V.d (.sl es))∈BZ s (.t k::r):=fun h=>by
    obtain⟨k,l',o,n,z,es,h4,h1,h2,h3,h5⟩:=j9 (l:=r) h;exact⟨k,l',o,n,z,es,acn _ h4,h1,h2,h3,sup _ h5⟩
  unfold CC at h;split at h
  · rename_i l o n hk
    split at h
    · rename_i z es hl
      rcases ach.1 h with e|h
      · exact⟨k,l,o,n,z,es,List.mem_cons_self,e,hk,hl,by unfold BZ;rw[hk];simp only[hl];exact List.mem_cons_self⟩
      · exact more h
    · exact more h
  · exact more h
theorem Rel.P4:∀ (u:List (Loc×V)) {s:Get} {x:Cx},Rel cfg x N s a w→(∀ p∈u,∃ es,p.2= .d (.sl es)∧(s p.1=some (.d (.sl es))∨∃ nw z,s p.1=some (.own nw z es)))→∃ x',Rel cfg x' N (AK s u) a w∧Fr dep x x' w w∧
  (∀ b,x.ow b=none→x'.ow b=none)∧x'.ad=x.ad∧(∀ p∈u,(∃ nw z es,s p.1=some (.own nw z es))→∀ b o L C,Aa x a w p.1=some (.slice (some (ad3 b o)) L C)→x'.ow b=none)
 | [],s,x,R,_=>⟨x,R,.refl _ _ _,fun _ h=>h,rfl,fun _ h=>by cases h⟩
 | (l,v)::u,s,x,R,h=>by
  obtain⟨es,hv,hl⟩:=h (l,v) List.mem_cons_self;simp only at hv hl;subst hv;have hrest2:∀ p∈u,∃ B8,p.2= .d (.sl B8)∧(AK s [(l,.d (.sl es))] p.1=some (.d (.sl B8))∨∃ nw z,AK s [(l,.d (.sl es))] p.1=some (.own nw z B8)):=fun p hp=>by
    obtain⟨B8,h1,h2⟩:=h p (acn _ hp);refine⟨B8,h1,?_⟩;by_cases e:p.1=l
    · rw[a8,if_pos e]
      rw[e] at h2;have:B8=es:=by
        rcases hl with hl|⟨nw,z,hl⟩<;>rcases h2 with h2|⟨nw',z',h2⟩<;>rw[hl] at h2<;>cases h2<;>rfl
      rw[this];exact .inl rfl
    · rw[a8,if_neg e]
      exact h2
  rcases hl with hl|⟨nw,z,hl⟩
  · have R1:Rel cfg x N (AK s [(l,.d (.sl es))]) a w:=R.congr fun l'=>by
      rw[a8];split
      · rename_i e;rw[e,hl]
      · rfl
    obtain⟨x2,R2,F2,g1,g2,g3⟩:=Rel.P4 u R1 hrest2;refine⟨x2,R2,F2,g1,g2,fun p hp hown=> ?_⟩
    have hpl:p.1≠l:=fun e=>by obtain⟨_,_,_,h1⟩:=hown;rw[e,hl] at h1;cases h1
    rcases ach.1 hp with rfl|hp
    · exact absurd rfl hpl
    · exact g3 p hp (by rw[a8,if_neg hpl];exact hown)
  · obtain⟨b,h1,⟨o0,L0,C0,hb0⟩,R1⟩:=R.release hl
    obtain⟨x2,R2,F2,g1,g2,g3⟩:=Rel.P4 u R1 hrest2;have hnone:∀ b',x.ow b'=none→(x.AU b none).ow b'=none:=fun b' hb'=>by
      by_cases e:b'=b
      · subst e;exact Cx.EZ _ _ _
      · rw[Cx.AO _ _ e];exact hb'
    have hcc:Aa (x.AU b none) a w=Aa x a w:=by funext q;cases q<;>rfl
    refine⟨x2,R2,(Fr.AU h1 _).trans F2,fun b' hb'=>g1 b' (hnone b' hb'),g2,fun p hp hown b' o L C CQ=> ?_⟩
    by_cases hpl:p.1=l
    · rw[hpl,hb0] at CQ
      cases CQ;exact g1 _ (Cx.EZ _ _ _)
    · rcases ach.1 hp with rfl|hp
      · exact absurd rfl hpl
      · exact g3 p hp (by rw[a8,if_neg hpl];exact hown) b' o L C (by rw[hcc];exact CQ)
theorem Rel.cP {s:Get} (R:Rel cfg x N s a w) {k:Nat} (hk:k<N) {y:D} (hy:Rd (AE x) w (a.tmps.getD k undef) y):Rel cfg x N (AK s [(.slot k,.d y)]) a w:=by
 have:=R.put hk (v:=a.tmps.getD k undef) (y:= .d y) rfl (l:=none) (.d _ _ _ hy);have e:a.put (some k) (a.tmps.getD k undef)=a:=by
  simp only[Act.put]
  congr 1
  rw[Array.getD_eq_getD_getElem?];apply Array.ext_getElem?;intro i;by_cases h:k=i
  · subst h
    by_cases hlt:k<a.tmps.size
    · simp[hlt]
    · simp[hlt]
  · simp[Array.getElem?_setIfInBounds,h]
 rwa [e] at this
theorem Rel.Uu:∀ (u:List (Loc×V)) {s:Get},Rel cfg x N s a w→(∀ p∈u,∃ k y,p=(.slot k,.d y)∧k<N∧Rd (AE x) w (a.tmps.getD k undef) y)→Rel cfg x N (AK s u) a w
 | [],s,R,_=>R
 | p::u,s,R,h=>by
  obtain⟨k,y,rfl,hk,hy⟩:=h p List.mem_cons_self;exact Rel.Uu u (R.cP hk hy) (fun p hp=>h p (acn _ hp))
theorem Rel.Qb {s:Get} {x:Cx} (R:Rel cfg x N s a w) (l:List AB):∃ x',Rel cfg x' N (AK s (giveUp s l)) a w∧Fr dep x x' w w:=by
 obtain⟨x1,R1,F1,g1,g2,g3⟩:=Rel.P4 (dep:=dep) (BZ s l) R fun p hp=>by
  obtain⟨k,nw,z,es,_,h1,h2,_⟩:=ke hp;exact⟨es,h2,.inr ⟨nw,z,h1⟩⟩
 refine⟨x1,?_,F1⟩;unfold giveUp;rw[bo];refine Rel.Uu _ R1 fun p hp=> ?_
 obtain⟨k,l',o,n,z,es,_,rfl,h1,h2,h3⟩:=j9 hp;obtain⟨u,hu,hr⟩:=R.Bl _ _ h1;simp only[Aa,Option.some.injEq] at hu;subst hu;obtain⟨b,o',cap',hv,⟨o2,L2,C2,CQ⟩,hle,Ad,hA⟩:=R.ZE hr h2;have hb1:=g3 (l',V.d (.sl es)) h3 ⟨false,z,es,h2⟩ b o2 L2 C2 CQ;refine⟨k,_,rfl,R.CB _ _ h1,?_⟩;rw[hv];exact(hA.mono (fun b o u h1 h2=>⟨g1 b h1,h2⟩) (fun _ _ h=>h) (fun _ _ _ h=>h)).rd hb1 (by simp;omega) Ad
theorem XA (hI:aaq P cfg) (R:Rel cfg x N s a w) {o:Oper} {own:Bool} {io:IOp} (AX:cOp P own o.op=some io) (hk:∀ k,o.dst=some k→k<N) (hds:o.dst=none→io.Dz=true)
   {u:List (Loc×V)} (hu:Fp cfg dep s o.dst io=some u):Az P cfg x N dep (AK s u) a w o:=by
 unfold Fp at hu;split at hu
 · rw[abz] at hu
   obtain⟨u1,h1,h2⟩:=hu;subst h2;obtain⟨x1,R1,F1⟩:=R.Qb (dep:=dep) (Gw io);obtain⟨v,w',x',g1,g2,g3⟩:=Su hI R1 AX hk hds h1;rw[bo];exact⟨v,w',x',g1,g2,F1.trans g3⟩
 · exact Su hI R AX hk hds hu
theorem abb {AY:Orc} (hC:CM P cfg) (hO:CL P cfg AY) (R:Rel cfg x N s a w) {ops:Array Oper} {o:Oper} {io:AS} (hc:EV P N ops o io) (hg:Ay s io.guard=some true) {u:List (Loc×V)} (hu:Ae cfg AY dep s io=some u):
   D8 P cfg x N dep (AK s u) a w o:=by
 unfold Ae at hu;rw[hg] at hu;simp only at hu;obtain⟨own0,gv,AX⟩:=hc.op;have hopS:io.op≠ .bad→(∀ own f args i,io.op≠ .Cr own f args i)→cOp P own0 o.op=some io.op:=fun h hg'=>by
   have AX:=a9q AX hg';cases hq:cOp P own0 o.op with
   |none=>rw[hq] at AX;exact absurd AX.symm h
   |some q=>rw[hq] at AX;exact congrArg some AX
 split at hu
 · cases hu
 · rename_i hds
   split at hu
   · rename_i hcall
     have Aw:=hopS (fun e=>by rw[e] at hcall;simp[BE] at hcall) (fun _ _ _ _ e=>by rw[e] at hcall;simp[BE] at hcall)
     have Bz:io.op.Dz=false:=by cases h:io.op<;>rw[h] at hcall<;>first|rfl|simp[BE] at hcall
     have hd:∃ k,o.dst=some k:=by
       rw[Bz,hc.dst] at hds;cases h:o.dst with
       |none=>simp[h] at hds
       |some k=>exact⟨k,rfl⟩
     obtain⟨k,hd⟩:=hd;have hk:=hc.lt k hd;split at hu
     · rename_i p hclip
       simp only[ab7] at hu;obtain⟨y,hy,hu⟩:=hu;unfold CH at hclip;split at hclip
       · rename_i own f p' hio
         split at hclip
         · rename_i hf
           cases hclip;rw[hio] at Aw
           obtain⟨c,ho,hcal,his⟩:=bna Aw;rw[hc.dst,hd] at hu;exact S0 hC.clip R hf hd hk hcal ho his hy hu
         · cases hclip
       · cases hclip
     · split at hu
       · rename_i own f vs ht
         obtain⟨args,h1,h2⟩:=om hC.GH R Aw hcall ht;rw[hc.dst] at hu;split at hu
         · rename_i u' hcu
           cases hu;exact abd hO R hd hk h1 (by simpa using h2.1) (fun i v y e1 e2=>h2.2 i v y (by simpa using e1) e2) hcu
         · unfold C1 at hu
           split at hu
           · rename_i CN f' args' hio
             have hu:CK cfg AY s o.dst CN f' args'=some u:=by
              split at hu
              · split at hu
                · exact hu
                · cases hu
              · cases hu
             unfold CK at hu;simp only[ab7,abz] at hu;obtain⟨vs',hvs',u',hu',rfl⟩:=hu;obtain⟨x',R',F'⟩:=R.Qb (dep:=dep) args';have ht':target cfg (AK s (giveUp s args')) io.op=some (CN,f',vs'):=by rw[hio];simp only[target,hvs',Option.map_some]
             obtain⟨bH,k1,k2⟩:=om hC.GH R' Aw hcall ht';rw[bo];exact(abd hO R' hd hk k1 (by simpa using k2.1) (fun i v y e1 e2=>k2.2 i v y (by simpa using e1) e2) hu').pre F'
           · cases hu
       · cases hu
   · unfold Dq at hu
     split at hu
     · rename_i own f args i hio
       rw[hio] at AX;obtain⟨c,ho,hcal,his⟩:=bna (gOp_g AX);rw[hc.dst] at hu hds;rw[hio] at hds;have hd:∃ k,o.dst=some k:=by
         cases h:o.dst with
         |none=>simp[h,IOp.Dz] at hds
         |some k=>exact⟨k,rfl⟩
       obtain⟨k,hd⟩:=hd;exact bc8 hO R hd (hc.lt k hd) ho hcal his hu
     · rename_i hng
       by_cases hbad:io.op= .bad
       · rw[hbad] at hu;cases hu
       · rw[hc.dst] at hu hds
         refine(XA hC.Gk R (hopS hbad hng) hc.lt (fun h=> ?_) hu).walks
         rw[h] at hds;simpa using hds
theorem abc {AY:Orc} (hC:CM P cfg) (hO:CL P cfg AY) {st Av:St} (R:Rel cfg x N st.get a w) {ops:Array Oper} {o:Oper} {io:AS} (hc:EV P N ops o io) (hu:BN cfg AY dep st io=some Av):
   Ay st.get io.guard=some true∧D8 P cfg x N dep Av.get a w o:=by
 unfold BN at hu;split at hu
 · rename_i hg
   refine⟨hg,?_⟩;split at hu
   · rename_i hq
     simp only[aca] at hq;obtain⟨⟨hds,hcall⟩,_⟩:=hq;obtain⟨own0,gv,AX⟩:=hc.op;have AX:=a9q AX (fun _ _ _ _ e=>by rw[e] at hcall;simp[BE] at hcall)
     have Aw:cOp P own0 o.op=some io.op:=by
       cases hq:cOp P own0 o.op with
       |none=>rw[hq] at AX;rw[← AX] at hcall;simp[BE] at hcall
       |some q=>rw[hq] at AX;exact congrArg some AX
     rw[hc.dst] at hds;obtain⟨k,hd⟩:=acl.1 hds;split at hu
     · rename_i own f vs ht
       obtain⟨args,h1,h2⟩:=om hC.GH R Aw hcall ht;rw[hc.dst] at hu;exact bc7 hO R hd (hc.lt k hd) h1 (by simpa using h2.1) (fun i v y e1 e2=>h2.2 i v y (by simpa using e1) e2) hu
     · cases hu
   · cases hu
 · cases hu
theorem bcv {AY:Orc} (hC:CM P cfg) (hO:CL P cfg AY) {st Av:St} (R:Rel cfg x N st.get a w) {ops:Array Oper} {o:Oper} {io:AS} (hc:EV P N ops o io) (hu:CX cfg AY dep st io=some Av)
   {next:Act→World→Prop} {Q:Exit→Act→World→Prop} (hn:∀ v w' x',Rel cfg x' N Av.get (a.put o.dst v) w'→Fr dep x x' w w'→next (a.put o.dst v) w'):
   (Region.wanted o (yielded ops a.tmps)=true∧o.wp P a w next Q)∨(Region.wanted o (yielded ops a.tmps)=false∧next (a.put o.dst undef) w):=by
 unfold CX at hu;split at hu
 · rename_i u hsu
   cases hu;rw[eh] at hn;cases hg:Ay st.get io.guard with
   |none=>unfold Ae at hsu;rw[hg] at hsu;cases hsu
   | some t=>
    cases t
    · refine .inr ⟨cy R hc hg,?_⟩
      unfold Ae at hsu;rw[hg] at hsu;cases hsu;refine hn undef w x ?_ (.refl _ _ _);rw[hc.dst];cases hd:o.dst with
      |none=>exact R
      |some k=>exact R.put (hc.lt k hd) rfl (l:=none) (.d _ _ _ (ar3 _ _))
    · exact .inl ⟨cy R hc hg,abb hC hO R hc hg hsu next Q hn⟩
 · obtain⟨hg,hw⟩:=abc hC hO R hc hu
   exact .inl ⟨cy R hc hg,hw next Q hn⟩
theorem arz {AY:Orc} (hC:CM P cfg) (hO:CL P cfg AY) {ops:Array Oper} {Q:Exit→Act→World→Prop}:∀ (l:List AS) (i:Nat) (x:Cx) (a:Act) (w:World) (st Av:St),Rel cfg x N st.get a w→
  (∀ j io,l[j]? =some io→∃ o,ops[i+j]? =some o∧EV P N ops o io)→CY cfg AY dep l st=some Av→
  (∀ a' w' x',Rel cfg x' N Av.get a' w'→Fr dep x x' w w'→Q .normal a' w')→wpOps P ops Q (List.range' i l.length) a w
 | [],i,x,a,w,st,Av,R,_,h,hQ=>by
  cases h;exact hQ a w x R (.refl _ _ _)
 | io::l,i,x,a,w,st,Av,R,hl,h,hQ=>by
  obtain⟨o,ho,hc⟩:=hl 0 io rfl;unfold CY at h;split at h
  · rename_i st1 Bz
    have hrest:∀ v w' x',Rel cfg x' N st1.get (a.put o.dst v) w'→Fr dep x x' w w'→wpOps P ops Q (List.range' (i+1) l.length) (a.put o.dst v) w':=fun v w' x' R' F=>
      arz hC hO l (i+1) x' _ w' st1 Av R' (fun j io' hj=>by
       obtain⟨o',h1,h2⟩:=hl (j+1) io' (by simpa using hj)
       exact⟨o',by rw[show i+1+j=i+(j+1) by omega];exact h1,h2⟩) h (fun a' w'' x'' R'' F'=>hQ a' w'' x'' R'' (F.trans F'))
    rw[List.length_cons,List.range'_succ];simp only[Nat.add_zero] at ho;unfold wpOps;rw[ho];simp only;rcases bcv hC hO R hc Bz (Q:=Q) hrest with⟨h1,h2⟩|⟨h1,h2⟩
    · rw[if_pos h1];exact .inl h2
    · rw[if_neg (by rw[h1];simp)];exact h2
  · cases h
end
end Go.Ev
namespace Go.Ev
open Go
section
variable {cfg:Cfg} {dep n:Nat} {s s':Get}
theorem ai {x:AB} (h:∀ l∈aa s n x,s' l=s l):val cfg s' x=val cfg s x:=by
 cases x with
 |t k=>exact h (.slot k) (by simp[aa])
 |c d=>rfl
 |g k=>rfl
theorem oa {x:AB} {l:Loc} {o m:Nat} (h:val cfg s x=some (.bor l o m)):l∈aa s n x:=by
 cases x with
 | t k=>
  have h':s (.slot k)=some (.bor l o m):=h;simp[aa,h']
 |c d=>simp[val] at h
 |g k=>simp[val] at h
theorem bnp {x:AB} {l:Loc} {o m:Nat} (h:val cfg s x=some (.Am l o m)):l∈aa s n x:=by
 cases x with
 | t k=>
  have h':s (.slot k)=some (.Am l o m):=h;simp[aa,h']
 |c d=>simp[val] at h
 |g k=>simp[val] at h
theorem bcy:∀ (n d k off:Nat) (j:Nat),j<n→Loc.cell ⟨d,k,off+j⟩∈gp d k off n
 |n+1,d,k,off,0,_=>by simp[gp]
 | n+1,d,k,off,j+1,h=>by
  have:=bcy n d k (off+1) j abu;rw[show off+1+j=off+(j+1) by omega] at this
  simp[gp,this]
theorem TB {x:AB} {d k off:Nat} (h:val cfg s x=some (.ref d k off)):∀ j,j<n→Loc.cell ⟨d,k,off+j⟩∈aa s n x:=by
 intro j hj;cases x with
 | t k'=>
  have h':s (.slot k')=some (.ref d k off):=h;simp only[aa,h'];exact acn _ (bcy n d k off j hj)
 |c d=>simp[val] at h
 |g k=>simp[val] at h
theorem gj {x:AB} (h:∀ l∈aa s n x,s' l=s l):dat cfg s' x=dat cfg s x:=by unfold dat;rw[ai h]
theorem a98 {x:AB} {v:V} (hv:val cfg s x=some v) (h:∀ l∈aa s n x,s' l=s l):cont s' v=cont s v:=by
 cases v with
 |bor l o m=>simp only[cont];rw[h l (oa hv)]
 |d y=>cases y<;>rfl
 |_=>rfl
theorem WC {x:AB} {v:V} (hv:val cfg s x=some v) (h:∀ l∈aa s n x,s' l=s l):DG s' v=DG s v:=by
 cases v with
 |bor l o m=>simp only[DG];rw[h l (oa hv)]
 |Af e o=>cases o<;>rfl
 |_=>rfl
theorem xc {x:AB} (h:∀ l∈aa s n x,s' l=s l):(val cfg s' x).bind (cont s')=(val cfg s x).bind (cont s):=by
 rw[ai h];cases hv:val cfg s x with
 |none=>rfl
 |some v=>simp only[Option.bind_some];exact a98 hv h
theorem a94:∀ {xs:List AB},(∀ l∈xs.flatMap (aa s n),s' l=s l)→Ec cfg s' xs=Ec cfg s xs
 | [],_=>rfl
 | x::xs,h=>by
  simp only[Ec];rw[gj (n:=n) (x:=x) (fun l hl=>h l (by simp[hl])),a94 (fun l hl=>h l (by
   rw[List.flatMap_cons];exact adi _ hl))]
theorem jd:∀ {xs:List AB},(∀ l∈xs.flatMap (aa s n),s' l=s l)→BK cfg s' xs=BK cfg s xs
 | [],_=>rfl
 | x::xs,h=>by
  simp only[BK];rw[ai (n:=n) (x:=x) (fun l hl=>h l (by simp[hl])),jd (fun l hl=>h l (by
   rw[List.flatMap_cons];exact adi _ hl))]
theorem vn:∀ {ps:List (Nat×AB)},(∀ l∈(ps.map fun p=>p.2).flatMap (aa s n),s' l=s l)→f7 cfg s' ps=f7 cfg s ps
 | [],_=>rfl
 | (i,x)::xs,h=>by
  simp only[f7];rw[gj (n:=n) (x:=x) (fun l hl=>h l (by simp[hl])),vn (fun l hl=>h l (by
   rw[List.map_cons,List.flatMap_cons];exact adi _ hl))]
theorem vk:∀ {ps:List (Nat×AB)} {i:Nat},(∀ l∈(ps.map fun p=>p.2).flatMap (aa s n),s' l=s l)→dc cfg s' i ps=dc cfg s i ps
 | [],_,_=>rfl
 | (j,x)::xs,i,h=>by
  simp only[dc];rw[ai (n:=n) (x:=x) (fun l hl=>h l (by simp[hl])),vk (ps:=xs) (fun l hl=>h l (by
   rw[List.map_cons,List.flatMap_cons];exact adi _ hl))]
theorem abo {k:Nat}:∀ {ps:List (Nat×Nat×AB)} {i:Nat} {s s':Get},(∀ j,AB.t j∈ps.map (fun p=>p.2.2)→s' (.slot j)=s (.slot j))→CJ cfg k s' i ps=CJ cfg k s i ps
 | [],_,_,_,_=>rfl
 | (o,n,x)::xs,i,s,s',h=>by
  have hx:val cfg s' x=val cfg s x:=by
   cases x with
   |t j=>exact h j abw
   |c d=>rfl
   |g n=>rfl
  have h1:CJ cfg k s' (i+1) xs=CJ cfg k s (i+1) xs:=abo fun j hj=>h j (by simp only[List.map_cons];exact acn _ hj)
  have h2:∀ j',CJ cfg k (AK s' [(.slot j',.AM)]) (i+1) xs=CJ cfg k (AK s [(.slot j',.AM)]) (i+1) xs:=fun j'=>abo fun j hj=>by
   simp only[a8];split
   · rfl
   · exact h j (by simp only[List.map_cons];exact acn _ hj)
  unfold CJ;simp only[hx,h1,h2]
theorem vm:∀ {ps:List (Nat×Nat×AB)},(∀ l∈(ps.map fun p=>p.2.2).flatMap (aa s n),s' l=s l)→de cfg s' ps=de cfg s ps
 | [],_=>rfl
 | (i,j,x)::xs,h=>by
  simp only[de];rw[gj (n:=n) (x:=x) (fun l hl=>h l (by simp[hl])),vm (fun l hl=>h l (by
   rw[List.map_cons,List.flatMap_cons];exact adi _ hl))]
theorem v8:∀ (m d k off:Nat),(∀ j,j<m→s' (.cell ⟨d,k,off+j⟩)=s (.cell ⟨d,k,off+j⟩))→c9 s' d k off m=c9 s d k off m
 |0,_,_,_,_=>rfl
 | m+1,d,k,off,h=>by
  have h0:=h 0 abu;simp only[Nat.add_zero] at h0;have ih:=v8 m d k (off+1) (fun j hj=>by
   have:=h (j+1) abu
   rwa [show off+(j+1)=off+1+j by omega] at this)
  simp only[c9,h0,ih]
theorem ali:∀ (m d k off:Nat),(∀ j,j<m→s' (.cell ⟨d,k,off+j⟩)=s (.cell ⟨d,k,off+j⟩))→alive s' d k off m=alive s d k off m
 |0,_,_,_,_=>rfl
 | m+1,d,k,off,h=>by
  have h0:=h 0 abu;simp only[Nat.add_zero] at h0;have ih:=ali m d k (off+1) (fun j hj=>by
   have:=h (j+1) abu
   rwa [show off+(j+1)=off+1+j by omega] at this)
  simp only[alive,h0,ih]
theorem bmr {x:AB} {v:V} (dst:Option Nat) (hv:val cfg s x=some v) (h:∀ l∈aa s n x,s' l=s l):Cz s' dst x v=Cz s dst x v:=by
 cases v with
 |bor l o m=>cases x<;>simp only[Cz]<;>rw[h l (oa hv)]
 |d y=>cases y<;>cases x<;>rfl
 |own nw z0 es0=>cases nw<;>cases x<;>rfl
 |_=>cases x<;>rfl
theorem bb4 {x:AB} {v:V} (dst z:Option Nat) (hn:n=z.getD 1) (hv:val cfg s x=some v) (h:∀ l∈aa s n x,s' l=s l):ea s' dst z v=ea s dst z v:=by
 cases v with
 |Am l i o=>simp only[ea];rw[h l (bnp hv)]
 | ref d k off=>
  have hr:=fun j hj=>h _ (TB (n:=n) hv j hj)
  cases z with
  | none=>
   have:=hr 0 (by rw[hn];decide)
   simp only[Nat.add_zero] at this;simp only[ea,this]
  | some m=>
   simp only[Option.getD_some] at hn;subst hn;simp only[ea,v8 n d k off hr]
 |d y=>cases y<;>rfl
 |_=>rfl
theorem aqx {p x:AB} {va v:V} (hp:val cfg s p=some va) (hv:val cfg s x=some v) (h:∀ l∈aa s n p,s' l=s l) (h':∀ l∈aa s n x,s' l=s l):bz s' n va x v=bz s n va x v:=by
 cases va with
 |Am l i o=>simp only[bz];rw[h l (bnp hp)]
 | ref d k off=>
  have hr:=fun j hj=>h _ (TB (n:=n) hp j hj)
  simp only[bz,ali n d k off hr];cases v with
  |bor l o m=>cases x<;>simp only[]<;>rw[h' l (oa hv)]
  |d y=>cases y<;>cases x<;>rfl
  |own nw z0 es0=>cases nw<;>cases x<;>rfl
  |_=>cases x<;>rfl
 |d y=>cases y<;>rfl
 |_=>rfl
theorem rm {lo hi:Option AB} (len:Nat) (h:∀ l∈(lo.toList++hi.toList).flatMap (aa s n),s' l=s l):bf cfg s' len lo hi=bf cfg s len lo hi:=by
 have hlo:∀ x,lo=some x→dat cfg s' x=dat cfg s x:=fun x e=>gj (n:=n) (fun l hl=>h l (by subst e;simp[hl]))
 have hhi:∀ x,hi=some x→dat cfg s' x=dat cfg s x:=fun x e=>gj (n:=n) (fun l hl=>h l (by subst e;simp[hl]))
 cases lo<;>cases hi<;>simp only[bf]
 · rw[hhi _ rfl]
 · rw[hlo _ rfl]
 · rw[hlo _ rfl,hhi _ rfl]
theorem bcq {mx:Option AB} (len:Nat) (h:∀ l∈mx.toList.flatMap (aa s n),s' l=s l):Ek cfg s' len mx=Ek cfg s len mx:=by
 cases mx with
 |none=>rfl
 |some x=>simp only[Ek];rw[gj (n:=n) (fun l hl=>h l (by simp[hl]))]
theorem aqy {x:AB} {v:V} {lo hi mx:Option AB} (dst:Option Nat) (z:Nat) (hv:val cfg s x=some v) (h:∀ l∈aa s n x,s' l=s l) (h':∀ l∈(lo.toList++hi.toList).flatMap (aa s n),s' l=s l)
  (h'':∀ l∈mx.toList.flatMap (aa s n),s' l=s l):gd cfg s' dst z x v lo hi mx=gd cfg s dst z x v lo hi mx:=by
 unfold gd;rw[a98 hv h];cases cont s v with
 |none=>rfl
 | some es=>
  simp only[bcq es.length h''];cases Ek cfg s es.length mx with
  |none=>rfl
  | some top=>
   simp only[rm top h'];cases bf cfg s top lo hi with
   |none=>rfl
   | some lh=>
    simp only;cases v with
    |bor l o m=>cases x<;>simp only[]<;>rw[h l (oa hv)]
    |d y=>cases y<;>cases x<;>rfl
    |own nw z0 es0=>cases nw<;>cases x<;>rfl
    |_=>cases x<;>rfl
theorem bmo {x:AB} {v:V} (dst:Option Nat) (z:Nat) (j:Int) (hv:val cfg s x=some v) (h:∀ l∈aa s n x,s' l=s l):Br s' dst z x v j=Br s dst z x v j:=by
 unfold Br;cases v with
 |bor l o m=>cases x<;>simp only[]<;>rw[h l (oa hv)]
 |d y=>cases y<;>cases x<;>rfl
 |own nw z0 es0=>cases nw<;>cases x<;>rfl
 |_=>cases x<;>rfl
theorem ak2 {x:AB} {v:V} (dst:Option Nat) (z b:Nat) (ys:List D) (hv:val cfg s x=some v) (h:∀ l∈aa s n x,s' l=s l):fh s' dst z b x v ys=fh s dst z b x v ys:=by
 unfold fh;cases v with
 |bor l o m=>cases x<;>simp only[]<;>rw[h l (oa hv)]
 |d y=>cases y<;>cases x<;>rfl
 |own nw z0 es0=>cases nw<;>cases x<;>rfl
 |_=>cases x<;>rfl
theorem bb5 {x:AB} {v:V} (dst:Option Nat) (z:Nat) (ys:List D) (hv:val cfg s x=some v) (h:∀ l∈aa s n x,s' l=s l):nx s' dst z x v ys=nx s dst z x v ys:=by
 unfold nx;cases v with
 |bor l o m=>cases x<;>simp only[]<;>rw[h l (oa hv)]
 | own nw z' es=>
  cases x with
  | t k=>
   cases nw
   · simp only
     rw[h (.slot k) (by simp[aa])]
   · rfl
  |_=>rfl
 |d y=>cases y<;>cases x<;>rfl
 |_=>cases x<;>rfl
end
end Go.Ev
namespace Go.Ev
open Go
section
variable {cfg:Cfg} {dep:Nat} {s s':Get}
theorem a91 {dst:Option Nat} {io:IOp} (h:∀ l∈io.operands.flatMap (aa s io.span),s' l=s l)
  (hb:∀ k,dst=some k→(∀ zs,io= .alloc zs→s' (.cell ⟨dep,k,0⟩)=s (.cell ⟨dep,k,0⟩))∧(∀ n x,io= .box n x→s' (.cell ⟨dep,k,0⟩)=s (.cell ⟨dep,k,0⟩))):
  Al cfg dep s' dst io=Al cfg dep s dst io:=by
 have h1:∀ x,io.operands=[x]→∀ l∈aa s io.span x,s' l=s l:=fun x e l hl=>h l (by rw[e];simpa using hl)
 have h2:∀ x y,io.operands=[x,y]→(∀ l∈aa s io.span x,s' l=s l)∧∀ l∈aa s io.span y,s' l=s l:=fun x y e=>⟨fun l hl=>h l (by rw[e];simp[hl]),fun l hl=>h l (by rw[e];simp[hl])⟩
 cases io with
 |mv x=>simp only[Al];rw[ai (h1 x rfl)]
 | asg x=>
  simp only[Al];rw[ai (h1 x rfl)];cases hv:val cfg s x with
  |none=>rfl
  |some v=>simp only[Option.bind_some];exact bmr dst hv (h1 x rfl)
 | pick c a b=>
  have hc:∀ l∈aa s 0 c,s' l=s l:=fun l hl=>h l (by simp[IOp.operands];exact .inl hl)
  have ha:∀ l∈aa s 0 a,s' l=s l:=fun l hl=>h l (by simp[IOp.operands];exact .inr (.inl hl))
  have hb':∀ l∈aa s 0 b,s' l=s l:=fun l hl=>h l (by simp[IOp.operands];exact .inr (.inr hl))
  simp only[Al];rw[ai hc];cases hv:val cfg s c with
  |none=>rfl
  | some v=>
   cases v with
   | d y=>
     cases y with
     | bool t=>
      have e:val cfg s' (if t=true then a else b)=val cfg s (if t=true then a else b):=by
       cases t
       · exact ai hb'
       · exact ai ha
      simp only[e]
     |_=>rfl
   |_=>rfl
 | alloc zs=>
  cases dst with
  |none=>rfl
  |some k=>simp only[Al];rw[(hb k rfl).1 zs rfl]
 | box n x=>
  cases dst with
  |none=>rfl
  | some k=>
   simp only[Al];rw[ai (h1 x rfl)];cases hv:val cfg s x with
   |none=>rfl
   |some v=>simp only[Ep];rw[(hb k rfl).2 n x rfl]
 |build zs ps=>simp only[Al];rw[vm h]
 |Vz n ps=>rfl
 |lit own z n zd ps=>simp only[Al,H6];rw[vn h,vk h]
 | load z a=>
  simp only[Al];rw[ai (h1 a rfl)];cases hv:val cfg s a with
  |none=>rfl
  |some v=>simp only[Option.bind_some];exact bb4 dst z rfl hv (h1 a rfl)
 | store n a x=>
  obtain⟨ha,hx⟩:=h2 a x rfl;simp only[Al];rw[ai ha,ai hx];cases hva:val cfg s a with
  |none=>rfl
  | some va=>
   cases hvx:val cfg s x with
   |none=>rfl
   |some vx=>simp only;rw[show bz s' n va x vx=bz s n va x vx from aqx hva hvx ha hx]
 |FC x=>simp only[Al];rw[ai (h1 x rfl)]
 |bin op x y=>obtain⟨ha,hx⟩:=h2 x y rfl;simp only[Al];rw[ai ha,ai hx]
 |eqn neg c x y=>obtain⟨ha,hx⟩:=h2 x y rfl;simp only[Al];rw[ai ha,ai hx]
 |isNil neg x=>simp only[Al];rw[ai (h1 x rfl)]
 |un op x=>simp only[Al];rw[ai (h1 x rfl)]
 |Aj k x=>simp only[Al];rw[ai (h1 x rfl)]
 |aR x=>rfl
 |b2s x=>simp only[Al];rw[xc (h1 x rfl)]
 |s2b own x=>simp only[Al];rw[ai (h1 x rfl)]
 |cvB own x=>simp only[Al];rw[ai (h1 x rfl)]
 |mkI t x=>simp only[Al];rw[ai (h1 x rfl)]
 | mkF f a b=>
  have ha:∀ l∈a.flatMap (aa s 0),s' l=s l:=fun l hl=>h l (by simp only[IOp.operands,List.flatMap_append];exact List.mem_append_left _ hl)
  have hb':∀ l∈b.flatMap (aa s 0),s' l=s l:=fun l hl=>h l (by simp only[IOp.operands,List.flatMap_append];exact adi _ hl)
  simp only[Al];rw[jd ha,jd hb']
 |mkS z b zd l c=>obtain⟨ha,hx⟩:=h2 l c rfl;simp only[Al];rw[gj ha,gj hx]
 | slice z x lo hi mx=>
  have hx:∀ l∈aa s 0 x,s' l=s l:=fun l hl=>h l (by simp[IOp.operands];exact .inl hl)
  have hlh:∀ l∈(lo.toList++hi.toList).flatMap (aa s 0),s' l=s l:=fun l hl=>h l (by
   simp only[IOp.operands,List.flatMap_append] at hl ⊢;simp only[acz] at hl ⊢;rcases hl with hl|hl
   · exact .inl (.inl (.inr hl))
   · exact .inl (.inr hl))
  have hm:∀ l∈mx.toList.flatMap (aa s 0),s' l=s l:=fun l hl=>h l (by
   simp only[IOp.operands,List.flatMap_append];exact adi _ hl)
  simp only[Al];rw[ai hx];cases hv:val cfg s x with
  |none=>rfl
  |some v=>simp only[Option.bind_some];exact aqy dst z hv hx hlh hm
 | GA x lo hi=>
  have hx:∀ l∈aa s 0 x,s' l=s l:=fun l hl=>h l (by simp[IOp.operands];exact .inl hl)
  have hlh:∀ l∈(lo.toList++hi.toList).flatMap (aa s 0),s' l=s l:=fun l hl=>h l (by
   simp only[IOp.operands,List.flatMap_append] at hl ⊢;simp only[acz] at hl ⊢;rcases hl with hl|hl
   · exact .inl (.inr hl)
   · exact .inr hl)
  simp only[Al];rw[ai hx];cases hv:val cfg s x with
  |none=>rfl
  | some v=>
   cases v with
   | d y=>
     cases y with
     |str b=>simp only;rw[rm b.length hlh]
     |_=>rfl
   |_=>rfl
 |AV off x=>simp only[Al];rw[ai (h1 x rfl)]
 |field off z x=>simp only[Al];rw[ai (h1 x rfl)]
 | Ch z x i=>
  obtain⟨ha,hx⟩:=h2 x i rfl;simp only[Al];rw[ai ha,gj hx];cases hv:val cfg s x with
  |none=>rfl
  | some v=>
   cases(dat cfg s i).bind D.toInt? with
   |none=>rfl
   |some j=>simp only;exact bmo dst z j hv ha
 |P1 x i=>obtain⟨ha,hx⟩:=h2 x i rfl;simp only[Al];rw[ai ha,gj hx]
 |idxC n z g x i=>rfl
 |Fw n z x i=>obtain⟨ha,hx⟩:=h2 x i rfl;simp only[Al];rw[ai ha,gj hx]
 |ext x i=>simp only[Al];rw[ai (h1 x rfl)]
 |len isS x=>cases isS<;>simp only[Al]<;>rw[ai (h1 x rfl)]
 |B2 mx xs=>simp only[Al];rw[show Ec cfg s' xs=Ec cfg s xs from a94 (n:=0) h]
 | append z b x y=>
  obtain⟨ha,hx⟩:=h2 x y rfl;simp only[Al];rw[ai ha,xc hx];cases hv:val cfg s x with
  |none=>rfl
  | some v=>
   cases(val cfg s y).bind (cont s) with
   |none=>rfl
   |some ys=>simp only;exact ak2 dst z b ys hv ha
 |Ql x y=>rfl
 | copy z x y=>
  obtain⟨ha,hx⟩:=h2 x y rfl;simp only[Al];rw[ai ha,xc hx];cases hv:val cfg s x with
  |none=>rfl
  | some v=>
   cases(val cfg s y).bind (cont s) with
   |none=>rfl
   |some ys=>simp only;exact bb5 dst z ys hv ha
 |tass t zero ok x=>rfl
 |call own f args=>rfl
 |Cr own f args i=>rfl
 |CD own x args=>rfl
 |inv own x nm args=>rfl
 |bad=>rfl
theorem lw:∀ {vs:List V},(∀ v∈vs,DG s' v=DG s v)→BJ s' vs=BJ s vs
 | [],_=>rfl
 | v::vs,h=>by
  simp only[BJ];rw[h v abw,lw (fun u hu=>h u (by simp[hu]))]
theorem w6 {v:V} (h:v.AZ=true):DG s' v=DG s v:=by
 cases v with
 |Af e o=>cases o<;>rfl
 |bor l o n=>simp[V.AZ] at h
 |_=>rfl
theorem kx {n:Nat}:∀ {xs:List AB} {vs:List V},BK cfg s xs=some vs→(∀ l∈xs.flatMap (aa s n),s' l=s l)→∀ v∈vs,DG s' v=DG s v
 | [],vs,hv,_,v,hm=>by cases hv;simp at hm
 | x::xs,vs,hv,h,v,hm=>by
  unfold BK at hv;split at hv
  · rename_i v' vs' h1 h2
    cases hv;rcases ach.1 hm with rfl|hm
    · exact WC (n:=n) h1 (fun l hl=>h l (by simp[hl]))
    · exact kx (n:=n) h2 (fun l hl=>h l (by
     rw[List.flatMap_cons];exact adi _ hl)) v hm
  · cases hv
theorem uy {io:IOp} (h:∀ l∈io.operands.flatMap (aa s io.span),s' l=s l):target cfg s' io=target cfg s io∧∀ own f vs,target cfg s io=some (own,f,vs)→BJ s' vs=BJ s vs:=by
 cases io with
 | call own f args=>
  refine⟨by simp only[target];rw[show BK cfg s' args=BK cfg s args from jd (n:=0) h],fun CN f' vs ht=> ?_⟩
  simp only[target,abz] at ht;obtain⟨vs',hv,he⟩:=ht;cases he;exact lw (kx (n:=0) hv h)
 | CD own x args=>
  have hx:∀ l∈aa s 0 x,s' l=s l:=fun l hl=>h l (by simp[IOp.operands];exact .inl hl)
  have ha:∀ l∈args.flatMap (aa s 0),s' l=s l:=fun l hl=>h l (by
    simp only[IOp.operands,List.flatMap_cons];exact adi _ hl)
  refine⟨by simp only[target];rw[ai hx,jd ha],fun CN f' vs ht=> ?_⟩
  simp only[target] at ht;split at ht
  · rename_i f0 vs' hv hvs
    cases ht;exact lw (kx hvs ha)
  · rename_i f0 va vb vs' hv hvs
    split at ht
    · rename_i hq
      simp only[aca,adn] at hq;cases ht;refine lw fun v hm=> ?_
      simp only[acz] at hm;rcases hm with(hm|hm)|hm
      · exact w6 (hq.1 v hm)
      · exact kx hvs ha v hm
      · exact w6 (hq.2 v hm)
    · cases ht
  · cases ht
 |_=>exact⟨rfl,fun _ _ _ h=>by cases h⟩
theorem akq {g:Option (Nat×Bool)} (h:∀ k b,g=some (k,b)→s' (.slot k)=s (.slot k)):Ay s' g=Ay s g:=by
 cases g with
 |none=>rfl
 | some kb=>
  obtain⟨k,b⟩:=kb;simp only[Ay];rw[h k b rfl]
theorem bbl {n:Nat} {x:AB} {v:V} (hv:val cfg s x=some v) (h:∀ l∈aa s n x,s' l=s l):B3 s' x v=B3 s x v:=by
 cases v with
 |bor l o m=>cases x<;>simp only[B3]<;>rw[h l (oa hv)]
 |d y=>cases y<;>cases x<;>rfl
 |own nw z es=>cases nw<;>cases x<;>rfl
 |_=>cases x<;>rfl
theorem il:∀ (u:List (Loc×V)) {s s':Get} {l:Loc},s' l=s l→AK s' u l=AK s u l
 | [],_,_,_,h=>h
 | (l0,v)::r,s,s',l,h=>il r (by show(if l=l0 then some v else s' l)=(if l=l0 then some v else s l);rw[h])
theorem aqf {x:AB} {v:V} {g:List (Loc×V)×V} (h:B3 s x v=some g):g.1=[]∨∃ l,g.1=[(l,.AM)]:=by
 unfold B3 at h;split at h
 · cases h;exact .inl rfl
 · cases h;exact .inl rfl
 · cases h;exact .inr ⟨_,rfl⟩
 · split at h
   · split at h
     · cases h;exact .inr ⟨_,rfl⟩
     · cases h
   · cases h
 · cases h
theorem ap6 {n:Nat} {u:List (Loc×V)} (hu:u=[]∨∃ l,u=[(l,.AM)]) {x:AB} {l:Loc} (h:l∈aa (AK s u) n x):l∈aa s n x:=by
 rcases hu with rfl|⟨l0,rfl⟩
 · exact h
 · cases x with
   | t k=>
    simp only[aa,AK] at h ⊢;by_cases e:Loc.slot k=l0
    · rw[if_pos e] at h
      simp at h;simp[h]
    · rw[if_neg e] at h
      exact h
   |_=>exact h
theorem bnl {AY:Orc} {n:Nat} {dst:Option Nat} {own:Bool} {f:FuncId} {args:List AB} {i:Nat} (h:∀ l∈args.flatMap (aa s n),s' l=s l):C8 cfg AY s' dst own f args i=C8 cfg AY s dst own f args i:=by
 unfold C8;cases hx:args[i]? with
 |none=>rfl
 | some x=>
  simp only[Option.bind_some];have hx':∀ l∈aa s n x,s' l=s l:=fun l hl=>h l (acy.2 ⟨x,List.mem_of_getElem? hx,hl⟩)
  rw[ai hx'];cases hv:val cfg s x with
  |none=>rfl
  | some v=>
   simp only[Option.bind_some];rw[bbl hv hx'];cases hg:B3 s x v with
   |none=>rfl
   | some g=>
    simp only[Option.bind_some];have hall:∀ l∈(args.set i (.c .AL)).flatMap (aa (AK s g.1) n),AK s' g.1 l=AK s g.1 l:=fun l hl=>by
     obtain⟨y,h1,h2⟩:=acy.1 hl;have h3:=ap6 (aqf hg) h2;refine il _ ?_;rcases adh h1 with h1|rfl
     · exact h l (acy.2 ⟨y,h1,h3⟩)
     · simp[aa] at h3
    rw[jd hall];cases hvs:BK cfg (AK s g.1) (args.set i (.c .AL)) with
    |none=>rfl
    | some vs=>
     simp only[Option.bind_some];rw[lw (kx hvs hall)]
theorem nr {n:Nat}:∀ {l:List AB},(∀ q∈l.flatMap (aa s n),s' q=s q)→BZ s' l=BZ s l
 | [],_=>rfl
 | .c _::r,h=>nr (l:=r) fun q hq=>h q (acy.2 (by obtain⟨y,h1,h2⟩:=acy.1 hq;exact⟨y,acn _ h1,h2⟩))
 | .g _::r,h=>nr (l:=r) fun q hq=>h q (acy.2 (by obtain⟨y,h1,h2⟩:=acy.1 hq;exact⟨y,acn _ h1,h2⟩))
 | .t k::r,h=>by
  have ih:=nr (l:=r) fun q hq=>h q (acy.2 (by obtain⟨y,h1,h2⟩:=acy.1 hq;exact⟨y,acn _ h1,h2⟩))
  have e:=h (.slot k) (acy.2 ⟨.t k,List.mem_cons_self,by simp[aa]⟩)
  simp only[BZ,ih,e];split
  · rfl
  · rename_i l _ _ hk
    rw[h l (acy.2 ⟨.t k,List.mem_cons_self,by simp[aa,hk]⟩)]
  · rfl
theorem np {n:Nat}:∀ {l:List AB},(∀ q∈l.flatMap (aa s n),s' q=s q)→CC s' l=CC s l
 | [],_=>rfl
 | .c _::r,h=>np (l:=r) fun q hq=>h q (acy.2 (by obtain⟨y,h1,h2⟩:=acy.1 hq;exact⟨y,acn _ h1,h2⟩))
 | .g _::r,h=>np (l:=r) fun q hq=>h q (acy.2 (by obtain⟨y,h1,h2⟩:=acy.1 hq;exact⟨y,acn _ h1,h2⟩))
 | .t k::r,h=>by
  have ih:=np (l:=r) fun q hq=>h q (acy.2 (by obtain⟨y,h1,h2⟩:=acy.1 hq;exact⟨y,acn _ h1,h2⟩))
  have e:=h (.slot k) (acy.2 ⟨.t k,List.mem_cons_self,by simp[aa]⟩)
  simp only[CC,ih,e];split
  · rename_i l _ _ hk
    rw[h l (acy.2 ⟨.t k,List.mem_cons_self,by simp[aa,hk]⟩)]
  · rfl
theorem vz {n:Nat} {l:List AB} (h:∀ q∈l.flatMap (aa s n),s' q=s q):giveUp s' l=giveUp s l:=by
 unfold giveUp;rw[nr h,np h]
theorem bl3 {s:Get} {l:List AB} {p:Loc×V} (h:p∈giveUp s l):∃ es,p.2= .d (.sl es):=by
 rcases acz.1 h with h|h
 · obtain⟨_,_,_,es,_,_,h2,_⟩:=ke h
   exact⟨es,h2⟩
 · obtain⟨_,_,_,_,_,_,_,rfl,_⟩:=j9 h
   exact⟨_,rfl⟩
theorem bbn (s:Get) (l:List AB) (q:Loc):AK s (giveUp s l) q=s q∨∃ es,AK s (giveUp s l) q=some (.d (.sl es)):=by
 have key:∀ (u:List (Loc×V)) (g:Get),(∀ p∈u,∃ es,p.2= .d (.sl es))→AK g u q=g q∨∃ es,AK g u q=some (.d (.sl es)):=by
  intro u
  induction u with
  |nil=>intro g _;exact .inl rfl
  | cons p u ih=>
   intro g hp;obtain⟨l,v⟩:=p;obtain⟨es,hv⟩:=hp (l,v) List.mem_cons_self;simp only at hv;subst hv;rw[bc];rcases ih (fun l'=>if l'=l then some (.d (.sl es)) else g l') (fun p h=>hp p (acn _ h)) with h|h
   · rw[h]
     by_cases e:q=l
     · rw[if_pos e];exact .inr ⟨es,rfl⟩
     · rw[if_neg e];exact .inl rfl
   · exact .inr h
 exact key _ s fun p hp=>bl3 hp
theorem pw {n:Nat} {u:List AB} {x:AB} {l:Loc} (h:l∈aa (AK s (giveUp s u)) n x):l∈aa s n x:=by
 cases x with
 | t k=>
  simp only[aa] at h ⊢;rcases bbn s u (.slot k) with e|⟨es,e⟩
  · rw[e] at h;exact h
  · rw[e] at h
    simp only[acv] at h;rw[h];exact List.mem_cons_self
 |_=>exact h
theorem Wo {op:IOp} {x:AB} (h:x∈Gw op):x∈op.operands:=by
 cases op<;>first|exact h| (simp[Gw] at h)
theorem bmk {dst:Option Nat} {io:IOp} (h:∀ l∈io.operands.flatMap (aa s io.span),s' l=s l)
   (hb:∀ k,dst=some k→(∀ zs,io= .alloc zs→s' (.cell ⟨dep,k,0⟩)=s (.cell ⟨dep,k,0⟩))∧(∀ n x,io= .box n x→s' (.cell ⟨dep,k,0⟩)=s (.cell ⟨dep,k,0⟩))):
   Fp cfg dep s' dst io=Fp cfg dep s dst io:=by
 have hg:gives cfg s' io=gives cfg s io:=by
   cases io with
   | store n a x=>
     simp only[gives];rw[ai (s:=s) (s':=s') (x:=a) (n:=n) fun l hl=>h l (acy.2 ⟨a,by simp[IOp.operands],hl⟩)]
   |_=>rfl
 have hu:giveUp s' (Gw io)=giveUp s (Gw io):=vz (n:=io.span) fun q hq=>by
   obtain⟨y,h1,h2⟩:=acy.1 hq;exact h q (acy.2 ⟨y,Wo h1,h2⟩)
 unfold Fp;rw[hg,hu,a91 h hb];split
 · rename_i hgv
   rw[a91 (s:=AK s (giveUp s (Gw io))) (s':=AK s' (giveUp s (Gw io))) (fun l hl=> ?_) (fun k hk=> ?_)]
   · obtain⟨y,h1,h2⟩:=acy.1 hl
     exact il _ (h l (acy.2 ⟨y,h1,pw h2⟩))
   · refine⟨fun zs e=> ?_,fun n x e=> ?_⟩
     · rw[e] at hgv;cases hgv
     · rw[e] at hgv;cases hgv
 · rfl
theorem bmj {AY:Orc} {dst:Option Nat} {io:IOp} (h:∀ l∈io.operands.flatMap (aa s io.span),s' l=s l)
   (hb:∀ k,dst=some k→(∀ zs,io= .alloc zs→s' (.cell ⟨dep,k,0⟩)=s (.cell ⟨dep,k,0⟩))∧(∀ n x,io= .box n x→s' (.cell ⟨dep,k,0⟩)=s (.cell ⟨dep,k,0⟩))):
   Dq cfg AY dep s' dst io=Dq cfg AY dep s dst io:=by
 unfold Dq;split
 · exact bnl h
 · exact bmk h hb
theorem bnf {AY:Orc} {dst:Option Nat} {own:Bool} {f:FuncId} {args:List AB} {n:Nat} (h:∀ l∈args.flatMap (aa s n),s' l=s l):
  CK cfg AY s' dst own f args=CK cfg AY s dst own f args:=by
 have hu:giveUp s' args=giveUp s args:=vz (n:=n) h;have hl:∀ l∈args.flatMap (aa (AK s (giveUp s args)) n),AK s' (giveUp s args) l=AK s (giveUp s args) l:=fun l hl=>by
  obtain⟨y,h1,h2⟩:=acy.1 hl;exact il _ (h l (acy.2 ⟨y,h1,pw h2⟩))
 unfold CK;rw[hu,jd hl];cases hv:BK cfg (AK s (giveUp s args)) args with
 |none=>rfl
 | some vs=>
  simp only[Option.bind_some,Bb];rw[lw (kx hv hl)]
theorem bnh {AY:Orc} {dst:Option Nat} {io:IOp} {vs:List V} (h:∀ l∈io.operands.flatMap (aa s io.span),s' l=s l) (ha:BJ s' vs=BJ s vs):
  C1 cfg AY s' dst io vs=C1 cfg AY s dst io vs:=by
 cases io with
 | call own f args=>
  have ht:CK cfg AY s' dst own f args=CK cfg AY s dst own f args:=bnf (n:=0) h;simp only[C1,ha,ht]
 |_=>rfl
theorem bcw {AY:Orc} {io:AS} (h:∀ l∈b9 dep s io,s' l=s l):Ae cfg AY dep s' io=Ae cfg AY dep s io:=by
 have AX:∀ l∈io.op.operands.flatMap (aa s io.op.span),s' l=s l:=fun l hl=>h l (by unfold b9;exact adi _ hl)
 have hg:Ay s' io.guard=Ay s io.guard:=akq fun k b e=>h _ (by unfold b9;rw[e];simp)
 have hbox:∀ k,io.dst=some k→(∀ zs,io.op= .alloc zs→s' (.cell ⟨dep,k,0⟩)=s (.cell ⟨dep,k,0⟩))∧(∀ n x,io.op= .box n x→s' (.cell ⟨dep,k,0⟩)=s (.cell ⟨dep,k,0⟩)):=fun k hk=>
   ⟨fun zs e=>h _ (by unfold b9;rw[e,hk];simp),fun n x e=>h _ (by unfold b9;rw[e,hk];simp)⟩
 obtain⟨t1,t2⟩:=uy (cfg:=cfg) AX;unfold Ae;rw[hg,bmj AX hbox,t1];split
 · rfl
 · rfl
 · split
   · rfl
   · split
     · cases hcl:CH cfg io.op with
       | some x=>
        simp only;have hx:val cfg s' x=val cfg s x:=by
         unfold CH at hcl;split at hcl
         · rename_i f x' e
           split at hcl
           · cases hcl
             exact ai (n:=io.op.span) (fun l hl=>AX l (by rw[e] at hl ⊢;simpa[IOp.operands] using hl))
           · cases hcl
         · cases hcl
        rw[hx]
       | none=>
        simp only;cases ht:target cfg s io.op with
        |none=>rfl
        | some r=>
         obtain⟨own,f,vs⟩:=r;simp only[Bb];rw[t2 own f vs ht,bnh AX (t2 own f vs ht)]
     · rfl
end
end Go.Ev
namespace Go.Ev
open Go
theorem qs {a b:List Loc} (h:Rz a b=true) {l:Loc} (ha:l∈a) (hb:l∈b):False:=by
 simp only[Rz,adn] at h;have:=h l ha;simp at this;exact this hb
def cc (u:List (Loc×V)):List Loc:=u.map (·.1)
theorem je {u:List (Loc×V)} {s:Get} {l:Loc} (h:l ∉ cc u):AK s u l=s l:=
 ol u s fun p hp e=>h (e ▸ List.mem_map_of_mem hp)
theorem aln:∀ {u:List (Loc×V)} (s s':Get) {l:Loc},l∈cc u→AK s u l=AK s' u l
 | [],_,_,_,h=>by simp[cc] at h
 | (l0,v)::r,s,s',l,h=>by
  simp only[AK];by_cases hr:l∈cc r
  · exact aln _ _ hr
  · rw[je hr,je hr]
    simp only[cc,List.map_cons,ach] at h;rcases h with rfl|h
    · simp
    · exact absurd h hr
def part:List (List (Loc×V))→(Nat→Bool)→Nat→Get→Get
 | [],_,_,s=>s
 |u::us,d,i,s=>part us d (i+1) (if d i then AK s u else s)
theorem iq:∀ (us:List (List (Loc×V))) (d d':Nat→Bool) (k:Nat) (s s':Get) (l:Loc),s l=s' l→(∀ j u,us[j]? =some u→d (k+j)≠d' (k+j)→l ∉ cc u)→part us d k s l=part us d' k s' l
 | [],_,_,_,_,_,_,h,_=>h
 | u::us,d,d',k,s,s',l,h,hk=>by
  refine iq us d d' (k+1) _ _ l ?_ (fun j u' hj hd=>hk (j+1) u' (by simpa using hj) (by rw[show k+(j+1)=k+1+j by omega];exact hd))
  have h0:=hk 0 u rfl;simp only[Nat.add_zero] at h0;by_cases hl:l∈cc u
  · have:d k=d' k:=by
      apply Classical.byContradiction;intro Ai;exact h0 Ai hl
    rw[this];split
    · exact aln _ _ hl
    · exact h
  · have e1:(if d k then AK s u else s) l=s l:=by split<;>simp[je hl]
    have e2:(if d' k then AK s' u else s') l=s' l:=by split<;>simp[je hl]
    rw[e1,e2,h]
theorem yu (us:List (List (Loc×V))) (d:Nat→Bool) (k:Nat) (s:Get) (l:Loc) (h:∀ j u,us[j]? =some u→d (k+j)=true→l ∉ cc u):part us d k s l=s l:=by
 have:∀ (us:List (List (Loc×V))) (k:Nat) (s:Get),part us (fun _=>false) k s=s:=by
  intro us
  induction us with
  |nil=>intros;rfl
  |cons u us ih=>intro k s;simp[part,ih]
 rw[iq us d (fun _=>false) k s s l rfl (fun j u hj hd=>h j u hj (by simpa using hd)),this]
theorem blb:∀ (us:List (List (Loc×V))) (d:Nat→Bool) (k i:Nat) (s s'':Get) (u:List (Loc×V)) (l:Loc),us[i]? =some u→d (k+i)=true→l∈cc u→
  (∀ j u',us[j]? =some u'→i<j→d (k+j)=true→l ∉ cc u')→part us d k s l=AK s'' u l
 | [],_,_,_,_,_,_,_,h,_,_,_=>by simp at h
 | u0::us,d,k,0,s,s'',u,l,h,hd,hl,hlast=>by
  simp only[List.getElem?_cons_zero,Option.some.injEq] at h;subst h;simp only[Nat.add_zero] at hd;simp only[part,hd,if_true];rw[yu us d (k+1) _ l (fun j u' hj hdj=>hlast (j+1) u' (by simpa using hj) abu (by rw[show k+(j+1)=k+1+j by omega];exact hdj))]
  exact aln _ _ hl
 | u0::us,d,k,i+1,s,s'',u,l,h,hd,hl,hlast=>by
  simp only[part];exact blb us d (k+1) i _ s'' u l (by simpa using h) (by rw[show k+1+i=k+(i+1) by omega];exact hd) hl (fun j u' hj hij hdj=>hlast (j+1) u' (by simpa using hj) abu (by rw[show k+(j+1)=k+1+j by omega];exact hdj))
theorem bbb (us:List (List (Loc×V))) (d d':Nat→Bool) (k:Nat) (s:Get) (h:∀ j,j<us.length→d (k+j)=d' (k+j)):part us d k s=part us d' k s:=by
 funext l
 exact iq us d d' k s s l rfl (fun j u hj hd=>absurd (h j (ab1.1 hj).1) hd)
theorem akz {cfg:Cfg} {AY:Orc} {dep:Nat} {e0:List (Nat×V)}:∀ (l:List AS) (pre:Bool) (st Av:St) (rw_:List Rec),Bf cfg AY dep e0 pre l st=some (rw_,Av)→
  ∃ us:List (List (Loc×V)),us.length=l.length∧Av.get=part us (fun _=>true) 0 st.get∧
    ∀ i io,l[i]? =some io→∃ (u:List (Loc×V)) (b:Bool) (t:St) (pre':Bool),us[i]? =some u∧t.get=part us (fun j=>decide (j<i)) 0 st.get∧Bt cfg AY dep e0 pre' t io=some (b,u)∧
      rw_[i]? =some (b,u.all (fun p=>p.2.calm dep),b9 dep (part us (fun j=>decide (j<i)) 0 st.get) io,cc u)∧
      (pre'=true→pre=true∧∀ j u',j<i→us[j]? =some u'→u'.all (fun p=>p.2.calm dep)=true)
 | [],pre,st,Av,rw_,h=>by cases h;exact⟨[],rfl,rfl,fun i io h=>by simp at h⟩
 | io::l,pre,st,Av,rw_,h=>by
  unfold Bf at h;split at h
  · rename_i b u hu
    split at h
    · rename_i rw' st2 h2
      cases h;obtain⟨us,h3,h4,h5⟩:=akz l _ (st.upd u) Av rw' h2;have hsh:∀ (us:List (List (Loc×V))) (d d':Nat→Bool) (k k':Nat) (s:Get),(∀ j,d (k+j)=d' (k'+j))→part us d k s=part us d' k' s:=by
        intro us
        induction us with
        |nil=>intros;rfl
        | cons u us ih=>
         intro d d' k k' s hd;have h0:=hd 0;simp only[Nat.add_zero] at h0;simp only[part,h0];exact ih d d' (k+1) (k'+1) _ (fun j=>by have:=hd (j+1);rwa [show k+(j+1)=k+1+j by omega,show k'+(j+1)=k'+1+j by omega] at this)
      refine⟨u::us,by simp[h3],?_,fun i io' hi=> ?_⟩
      · rw[h4,eh]
        simp only[part,if_true];exact hsh us _ _ 0 (0+1) _ (fun j=>rfl)
      · cases i with
        | zero=>
         simp only[List.getElem?_cons_zero,Option.some.injEq] at hi;subst hi;have hs0:part (u::us) (fun j=>decide (j<0)) 0 st.get=st.get:=by
          funext l
          exact yu _ _ _ _ _ (fun j u _ hd=>by simp at hd)
         rw[hs0];exact⟨u,b,st,pre,rfl,rfl,hu,rfl,fun e=>⟨e,fun j u' hj _=>absurd hj (Nat.not_lt_zero _)⟩⟩
        | succ i=>
         obtain⟨u',b',t,pre',g1,g0,g2,g3,g4⟩:=h5 i io' (by simpa using hi)
         have hs1:part (u::us) (fun j=>decide (j<i+1)) 0 st.get=part us (fun j=>decide (j<i)) 0 (st.upd u).get:=by
          rw[eh];simp only[part,show decide (0<i+1)=true by simp,if_true]
          exact hsh us _ _ (0+1) 0 _ (fun j=>by simp;omega)
         rw[hs1];refine⟨u',b',t,pre',by simpa using g1,g0,g2,by simpa using g3,fun e=> ?_⟩
         obtain⟨q1,q2⟩:=g4 e;simp only[aca] at q1;refine⟨q1.1,fun j u'' hj hu''=> ?_⟩
         cases j with
         | zero=>
          simp only[List.getElem?_cons_zero,Option.some.injEq] at hu'';rw[← hu''];exact q1.2
         |succ j=>exact q2 j u'' abu (by simpa using hu'')
    · cases h
  · cases h
theorem pk:∀ (es:List (List Nat)) (k:Nat),Et k es=true→∀ i e,es[i]? =some e→∀ p∈e,p<k+i
 | [],_,_,i,e,h=>by simp at h
 | e0::es,k,hb,i,e,h=>by
  simp only[Et,aca,adn,ab4] at hb;intro p hp;cases i with
  | zero=>
   simp only[List.getElem?_cons_zero,Option.some.injEq] at h;subst h;simpa using hb.1 p hp
  | succ i=>
   have:=pk es (k+1) hb.2 i e (by simpa using h) p hp
   omega
theorem yz {p:Nat}:∀ {l:List Nat},p∈uniq l→p∈l
 | x::r,h=>by
  simp only[uniq,uadd] at h;split at h
  · exact acn _ (yz h)
  · rcases ach.1 h with rfl|h
    · exact List.mem_cons_self
    · exact acn _ (yz h)
theorem g9 (es:List (List Nat)):∀ (r acc:List (List Nat)),(∀ (i:Nat) e,r[i]? =some e→es[acc.length+i]? =some e)→
  (∀ (j:Nat) b,acc[j]? =some b→∀ p∈b,∃ e,es[j]? =some e∧(p∈e∨∃ q∈e,q<j∧∃ b',(a7 acc r)[q]? =some b'∧p∈b'))→
  ∀ (j:Nat) b,(a7 acc r)[j]? =some b→∀ p∈b,∃ e,es[j]? =some e∧(p∈e∨∃ q∈e,q<j∧∃ b',(a7 acc r)[q]? =some b'∧p∈b')
 | [],acc,_,h=>h
 | e0::r,acc,hr,h=>by
  have hpre:∀ (r acc:List (List Nat)) (j:Nat) b,acc[j]? =some b→(a7 acc r)[j]? =some b:=by
    intro r
    induction r with
    |nil=>exact fun _ _ _ h=>h
    | cons e r ih=>
      intro acc j b h;simp only[a7];refine ih _ j b ?_;rw[ada (ab1.1 h).1];exact h
  simp only[a7] at h ⊢;refine g9 es r _ (fun i e hi=> ?_) (fun j b hj p hp=> ?_)
  · have:=hr (i+1) e (by simpa using hi)
    rw[aci,List.length_singleton];rw[show acc.length+1+i=acc.length+(i+1) by omega]
    exact this
  · by_cases hlt:j<acc.length
    · rw[ada hlt] at hj
      exact h j b hj p hp
    · have hj2:j=acc.length:=by
        have:=(ab1.1 hj).1;simp at this;omega
      subst hj2;have hes:=hr 0 e0 rfl;simp only[Nat.add_zero] at hes;refine⟨e0,hes,?_⟩;rw[List.getElem?_append_right (ab5 _)] at hj;simp only[Nat.sub_self,List.getElem?_cons_zero,Option.some.injEq] at hj;have key:∀ (l:List Nat) (a:List Nat),p∈l.foldl (fun a e=>e::((acc[e]?).getD []++a)) a→p∈a∨p∈l∨∃ q∈l,p∈(acc[q]?).getD []:=by
        intro l
        induction l with
        |nil=>exact fun a h=> .inl h
        | cons q l ih=>
         intro a hp;rcases ih _ hp with hp|hp|⟨q',h1,h2⟩
         · rcases ach.1 hp with rfl|hp
           · exact .inr (.inl abw)
           · rcases acz.1 hp with hp|hp
             · exact .inr (.inr ⟨q,by simp,hp⟩)
             · exact .inl hp
         · exact .inr (.inl (by simp[hp]))
         · exact .inr (.inr ⟨q',by simp[h1],h2⟩)
      rw[← hj] at hp;rcases key e0 [] (yz hp) with hp|hp|⟨q,h1,h2⟩
      · simp at hp
      · exact .inl hp
      · refine .inr ⟨q,h1,?_⟩
        cases hq:acc[q]? with
        |none=>rw[hq] at h2;simp at h2
        | some b'=>
         rw[hq] at h2;refine⟨(ab1.1 hq).1,b',?_,h2⟩;refine hpre r _ q b' ?_;rw[ada (ab1.1 hq).1];exact hq
theorem l7 {es:List (List Nat)} {d:Nat→Bool} (hd:∀ (j:Nat) e,es[j]? =some e→d j=true→∀ q∈e,d q=true):
  ∀ (j:Nat) b,(a7 [] es)[j]? =some b→d j=true→∀ p∈b,d p=true:=by
 have hs:=g9 es es [] (fun i e h=>by simpa using h) (fun j b h=>by simp at h)
 intro j
 induction j using Nat.strongRecOn with
 | _ j ih=>
  intro b hb hdj p hp;obtain⟨e,he,h⟩:=hs j b hb p hp;rcases h with h|⟨q,h1,h2,b',h3,h4⟩
  · exact hd j e he hdj p h
  · exact ih q h2 b' h3 (hd j e he hdj q h1) p h4
theorem mo:∀ (es acc:List (List Nat)),(a7 acc es).length=acc.length+es.length
 | [],acc=>rfl
 |e::es,acc=>by rw[a7,mo es];simp;omega
theorem qy {bs:List (List Nat)} {i j:Nat} (hij:i<j) (hj:j<bs.length) (h:i ∉ bs[j]):(i,j)∈az bs:=by
 unfold az;refine acy.2 ⟨j,ad0.2 hj,adl.2 ⟨i,List.mem_filter.2 ⟨ad0.2 hij,?_⟩,rfl⟩⟩;rw[ab0 hj];simpa using h
theorem ju {l:List Rec}:∀ {un:List (Nat×Nat)},DW l un=true→∀ i j,(i,j)∈un→∃ bi ci ri wi bj cj rj wj,l[i]? =some (bi,ci,ri,wi)∧l[j]? =some (bj,cj,rj,wj)∧Rz wi (rj++wj)=true∧Rz wj ri=true∧Du bi cj wj=true∧Du bj ci wi=true
 | [],_,i,j,h=>by simp at h
 | (i0,j0)::r,hk,i,j,h=>by
  unfold DW at hk;split at hk
  · rename_i bi ci ri wi bj cj rj wj h1 h2
    simp only[aca] at hk;rcases ach.1 h with e|h
    · cases e
      exact⟨bi,ci,ri,wi,bj,cj,rj,wj,h1,h2,hk.1.1.1.1,hk.1.1.1.2,hk.1.1.2,hk.1.2⟩
    · exact ju hk.2 i j h
  · cases hk
theorem vo:∀ {l:List Loc} {c:Cel},noCell l=true→Loc.cell c ∉ l
 | .slot k::r,c,h,hm=>by
  rcases ach.1 hm with e|e
  · cases e
  · exact vo (l:=r) h e
 | .cell _::_,_,h,_=>by simp[noCell] at h
mutual
theorem D.Df:∀ {a b:D},D.eqb a b=true→a=b
 | .bool a,y,h=>by cases y<;>simp[D.eqb] at h;rw[h]
 | .int k a,y,h=>by cases y<;>simp[D.eqb] at h;rw[h.1,h.2]
 | .str a,y,h=>by cases y<;>simp[D.eqb] at h;rw[h]
 | .AL,y,h=>by cases y<;>simp[D.eqb] at h;rfl
 | .Bs,y,h=>by cases y<;>simp[D.eqb] at h;rfl
 | .Be,y,h=>by cases y<;>simp[D.eqb] at h;rfl
 | .CU,y,h=>by cases y<;>simp[D.eqb] at h;rfl
 | .Dn,y,h=>by cases y<;>simp[D.eqb] at h;rfl
 | .sl a,y,h=>by cases y<;>simp[D.eqb] at h;rw[D.CG h]
 | .agg a,y,h=>by cases y<;>simp[D.eqb] at h;rw[D.CG h]
 | .tup a,y,h=>by cases y<;>simp[D.eqb] at h;rw[D.CG h]
 | .ptr a,y,h=>by cases y<;>simp[D.eqb] at h;rw[D.Df h]
 | .ifc t a,y,h=>by cases y<;>simp[D.eqb] at h;rw[h.1,D.Df h.2]
 | .fn f,y,h=>by cases y<;>simp[D.eqb] at h;rw[h]
 | .unk,y,h=>by cases y<;>simp[D.eqb] at h;rfl
 | .Cy,y,h=>by cases y<;>simp[D.eqb] at h;rfl
theorem D.CG:∀ {a b:List D},D.DT a b=true→a=b
 | [],y,h=>by cases y<;>simp[D.DT] at h;rfl
 |a::r,y,h=>by cases y<;>simp[D.DT] at h;rw[D.Df h.1,D.CG h.2]
end
mutual
theorem V.Df:∀ {a b:V},V.eqb a b=true→a=b
 | .d a,y,h=>by cases y<;>simp[V.eqb] at h;rw[D.Df h]
 | .own n z a,y,h=>by cases y<;>simp[V.eqb] at h;rw[h.1,h.2.1,D.CG h.2.2]
 | .Af a o,y,h=>by cases y<;>simp[V.eqb] at h;rw[D.Df h.1,h.2]
 | .ref e k o,y,h=>by cases y<;>simp[V.eqb] at h;rw[h.1,h.2.1,h.2.2]
 | .clo f a b,y,h=>by cases y<;>simp[V.eqb] at h;rw[h.1,V.CG h.2.1,V.CG h.2.2]
 | .ifc t a,y,h=>by cases y<;>simp[V.eqb] at h;rw[h.1,V.Df h.2]
 | .AM,y,h=>by cases y<;>simp[V.eqb] at h;rfl
 | .bor l a b,y,h=>by cases y<;>simp[V.eqb] at h;rw[h.1,h.2.1,h.2.2]
 | .Am l a b,y,h=>by cases y<;>simp[V.eqb] at h;rw[h.1,h.2.1,h.2.2]
 | .vec a,y,h=>by cases y<;>simp[V.eqb] at h;rw[V.CG h]
 | .BB a,y,h=>by cases y<;>simp[V.eqb] at h;rw[V.Df h]
 | .rcd a,y,h=>by cases y<;>simp[V.eqb] at h;rw[V.CG h]
theorem V.CG:∀ {a b:List V},V.DT a b=true→a=b
 | [],y,h=>by cases y<;>simp[V.DT] at h;rfl
 |a::r,y,h=>by cases y<;>simp[V.DT] at h;rw[V.Df h.1,V.CG h.2]
end
theorem Gi (s:Get) (u:List (Loc×V)) (l l':Loc) (v:V):AK s (u++[(l,v)]) l'=if l'=l then some v else AK s u l':=by
 rw[bo];rfl
theorem ED {l0 l:Loc} (Ai:l≠l0):∀ (u:List (Loc×V)) (s s':Get),s l=s' l→AK s (u.filter fun p=> !decide (p.1=l0)) l=AK s' u l
 | [],_,_,h=>h
 | (l1,v)::r,s,s',h=>by
  rw[List.filter_cons];by_cases e:l1=l0
  · subst e
    simp only[decide_true,adj,acb,if_false];exact ED Ai r s _ (by rw[h];show s' l=if l=l1 then some v else s' l;rw[if_neg Ai])
  · simp only[e,decide_false,adb,if_true]
    exact ED Ai r _ _ (by show(if l=l1 then some v else s l)=(if l=l1 then some v else s' l);rw[h])
theorem DZ {cs:Option (List Cel)}:∀ {old new:List (Cel×V)} {ch:List (Loc×V)},BL cs old new=some ch→(∀ k,Loc.slot k ∉ cc ch)∧∀ (s:Get) (c:Cel),s (.cell c)=lk old c→AK s ch (.cell c)=lk new c
 | [],[],ch,h=>by cases h;exact⟨fun k hk=>by simp[cc] at hk,fun s c h=>h⟩
 | (c0,v0)::r,(c1,v1)::r',ch,h=>by
  unfold BL at h;split at h
  · rename_i e
    subst e;have put:∀ {u:List (Loc×V)},((∀ k,Loc.slot k ∉ cc u)∧∀ (s:Get) (c:Cel),s (.cell c)=lk r c→AK s u (.cell c)=lk r' c)→
        (∀ k,Loc.slot k ∉ cc (u++[(.cell c0,v1)]))∧∀ (s:Get) (c:Cel),s (.cell c)=lk ((c0,v0)::r) c→AK s (u++[(.cell c0,v1)]) (.cell c)=lk ((c0,v1)::r') c:=by
      intro u hu;refine⟨fun k hk=> ?_,fun s c hs=> ?_⟩
      · simp only[cc,List.map_append,List.map_cons,List.map_nil,acz,acv,reduceCtorEq,or_false] at hk
        exact hu.1 k hk
      · rw[Gi]
        simp only[lk] at hs ⊢;by_cases e:c0=c
        · subst e;simp
        · rw[if_neg (fun q=>e (by cases q;rfl)),if_neg e]
          rw[if_neg e] at hs;exact hu.2 s c hs
    split at h
    · simp only[abz] at h
      obtain⟨u,h1,rfl⟩:=h;exact put (DZ h1)
    · split at h
      · simp only[abz] at h
        obtain⟨u,h1,rfl⟩:=h;exact put (DZ h1)
      · split at h
        · rename_i hq
          have:=V.Df hq;subst this;simp only[abz] at h;obtain⟨u,h1,rfl⟩:=h;obtain⟨g1,g2⟩:=DZ h1;refine⟨fun k hk=>g1 k ?_,fun s c hs=> ?_⟩
          · simp only[cc,adl] at hk ⊢
            obtain⟨p,hp,e⟩:=hk;exact⟨p,(List.mem_filter.1 hp).1,e⟩
          · simp only[lk] at hs ⊢
            by_cases e:c0=c
            · subst e
              rw[if_pos rfl] at hs ⊢;rw[← hs];refine je fun hk=> ?_
              simp only[cc,adl] at hk;obtain⟨p,hp,e⟩:=hk;have:=(List.mem_filter.1 hp).2;rw[e] at this;simp at this
            · rw[if_neg e] at hs ⊢
              rw[ED (fun q=>e (by cases q;rfl)) u s s rfl]
              exact g2 s c hs
        · cases h
  · cases h
 | [],_::_,_,h=>by simp[BL] at h
 |_::_,[],_,h=>by simp[BL] at h
theorem P9 {dep:Nat} {v:V} (h:v.calm dep=true):v.BX dep=v:=by
 unfold V.calm at h;unfold V.BX;split at h
 · rfl
 · rfl
 · split<;>first|rfl|rw[if_pos h]
theorem GQ {dep:Nat}:∀ {e:List (Nat×V)},D7 dep e=true→∀ k v,lk e k=some v→v.calm dep=true
 | (k0,v0)::r,h,k,v,hk=>by
  simp only[D7,aca] at h;simp only[lk] at hk;split at hk
  · cases hk;exact h.1
  · exact GQ h.2 k v hk
section
variable {cfg:Cfg} {AY:Orc} {dep:Nat}
theorem Py {dst:Option Nat} {own shared:Bool} {r:V} {u:List (Loc×V)} (h:BC dst own shared r=some u):∃ v,u=AG dst v:=by
 unfold BC at h;split at h
 · split at h
   · cases h
   · cases h;exact⟨_,rfl⟩
 · split at h
   · cases h
   · cases h;exact⟨_,rfl⟩
 · cases h
theorem IB {s s':St} {k:Nat} {own:Bool} {f:FuncId} {vs:List V} (h:B0 AY dep s (some k) own f vs=some s'):
   ∃ r m v,((BJ s.get vs).isNone&&vs.all V.AZ)=true∧AY f (dep+1) vs s.mem=some (r,m)∧s'=St.upd ⟨Ab dep s.env,Ao dep m⟩ [(.slot k,v)]∧
     ∀ t:St,((BJ t.get vs).isNone&&vs.all V.AZ)=true→t.mem=s.mem→B0 AY dep t (some k) own f vs=some (St.upd ⟨Ab dep t.env,Ao dep m⟩ [(.slot k,v)]):=by
 unfold B0 at h;split at h
 · rename_i hq
   split at h
   · rename_i r m hor
     split at h
     · rename_i hup
       split at h
       · rename_i u hl
         obtain⟨v,rfl⟩:=Py hl;cases h;refine⟨r,m,v,hq,hor,rfl,fun t ht hm=> ?_⟩
         unfold B0;rw[if_pos ht,hm,hor];simp only[hup,if_true,hl];rfl
       · rename_i hl
         split at h
         · rename_i hp
           cases h;refine⟨r,m,r,hq,hor,rfl,fun t ht hm=> ?_⟩
           unfold B0;rw[if_pos ht,hm,hor];simp only[hup,if_true,hl,hp];rfl
         · cases h
     · cases h
   · cases h
 · cases h
theorem He {s s':St} {io:AS} {k:Nat} (hd:io.dst=some k) (h:BN cfg AY dep s io=some s'):
   ∃ m v,s'=St.upd ⟨Ab dep s.env,Ao dep m⟩ [(.slot k,v)]∧
     ∀ t:St,(∀ l∈b9 dep s.get io,t.get l=s.get l)→t.mem=s.mem→BN cfg AY dep t io=some (St.upd ⟨Ab dep t.env,Ao dep m⟩ [(.slot k,v)])∧Er cfg t.get io.op=Er cfg s.get io.op:=by
 unfold BN at h;split at h
 · rename_i hg
   split at h
   · rename_i hc
     split at h
     · rename_i own f vs ht
       rw[hd] at h;obtain⟨r,m,v,h1,h2,h3,h4⟩:=IB h;refine⟨m,v,h3,fun t hl hm=> ?_⟩
       have AX:∀ l∈io.op.operands.flatMap (aa s.get io.op.span),t.get l=s.get l:=fun l A6=>hl l (by unfold b9;exact adi _ A6)
       have hg':Ay t.get io.guard=Ay s.get io.guard:=akq fun k b e=>hl _ (by unfold b9;rw[e];simp)
       obtain⟨t1,t2⟩:=uy (cfg:=cfg) AX;refine⟨?_,by unfold Er;rw[t1]⟩
       unfold BN;simp only[hg',hg];rw[if_pos hc];simp only[t1,ht,hd];exact h4 t (by rw[t2 own f vs ht];exact h1) hm
     · cases h
   · cases h
 · cases h
theorem M_get {t:St} {m:List (Cel×V)} {v:V} {k:Nat} {cs:Option (List Cel)} {ch:List (Loc×V)} (hch:BL cs t.mem (Ao dep m)=some ch) (hcalm:∀ j v,t.get (.slot j)=some v→v.calm dep=true) (l:Loc):
   AK t.get (ch++[(.slot k,v)]) l=(St.upd ⟨Ab dep t.env,Ao dep m⟩ [(.slot k,v)]).get l:=by
 obtain⟨g1,g2⟩:=DZ hch;rw[Gi,eh];show _=if l= .slot k then some v else _
 by_cases e:l= .slot k
 · rw[if_pos e,if_pos e]
 · rw[if_neg e,if_neg e]
   cases l with
   | slot j=>
    rw[je (g1 j)];show lk t.env j=lk (Ab dep t.env) j;rw[dj];cases hj:lk t.env j with
    |none=>rfl
    |some u=>rw[Option.map_some,P9 (hcalm j u hj)]
   |cell c=>exact g2 t.get c rfl
end
end Go.Ev
namespace Go.Ev
open Go
section
variable {P:Program} {cfg:Cfg} {N dep:Nat}
theorem Sr {x:Cx} {s:Get} {a:Act} {w:World} {AY:Orc} (hC:CM P cfg) (hO:CL P cfg AY) (R:Rel cfg x N s a w) {ops:Array Oper} {o:Oper} {io:AS} (hc:EV P N ops o io) {u:List (Loc×V)} (hsu:Ae cfg AY dep s io=some u)
  {next:Act→World→Prop} {Q:Exit→Act→World→Prop} (hn:∀ v w' x',Rel cfg x' N (AK s u) (a.put o.dst v) w'→Fr dep x x' w w'→next (a.put o.dst v) w'):
  (Region.wanted o (yielded ops a.tmps)=true∧o.wp P a w next Q)∨(Region.wanted o (yielded ops a.tmps)=false∧next (a.put o.dst undef) w):=by
 cases hg:Ay s io.guard with
 |none=>unfold Ae at hsu;rw[hg] at hsu;cases hsu
 | some t=>
  cases t
  · refine .inr ⟨cy R hc hg,?_⟩
    unfold Ae at hsu;rw[hg] at hsu;cases hsu;refine hn undef w x ?_ (.refl _ _ _);rw[hc.dst];cases hd:o.dst with
    |none=>exact R
    |some k=>exact R.put (hc.lt k hd) rfl (l:=none) (.d _ _ _ (ar3 _ _))
  · exact .inl ⟨cy R hc hg,abb hC hO R hc hg hsu next Q hn⟩
def Ax (listed:Array Bool) (j:Nat):Bool:=listed.getD j false
def left (n:Nat) (d:Nat→Bool):Nat:=((List.range n).filter fun i=> !d i).length
theorem Qf (f:Nat→Bool) (n:Nat):(List.filter f [n]).length=if f n then 1 else 0:=by
 cases h:f n<;>simp[h]
theorem akh (d d':Nat→Bool) (h:∀ i,d i=true→d' i=true):∀ n,left n d'≤left n d
 |0=>ab5 _
 | n+1=>by
  have ih:=akh d d' h n;unfold left at *;rw[List.range_succ,List.filter_append,List.filter_append,aci,aci];have:(List.filter (fun i=> !d' i) [n]).length≤(List.filter (fun i=> !d i) [n]).length:=by
   rw[Qf,Qf];have:=h n;cases hd:d n<;>cases hd':d' n<;>simp_all
  omega
theorem blq (d d':Nat→Bool) (h:∀ i,d i=true→d' i=true):∀ n i,i<n→d i=false→d' i=true→left n d'<left n d
 |0,i,hi,_,_=>by omega
 | n+1,i,hi,h1,h2=>by
  have hm:=akh d d' h n;by_cases e:i=n
  · subst e
    unfold left at *;rw[List.range_succ,List.filter_append,List.filter_append,aci,aci];simp[h1,h2];omega
  · have ih:=blq d d' h n i abu h1 h2
    have hm1:(List.filter (fun i=> !d' i) [n]).length≤(List.filter (fun i=> !d i) [n]).length:=by
     rw[Qf,Qf];have:=h n;cases hd:d n<;>cases hd':d' n<;>simp_all
    unfold left at *;rw[List.range_succ,List.filter_append,List.filter_append,aci,aci];omega
theorem blp {n:Nat} {d:Nat→Bool} (h:left n d=0):∀ i,i<n→d i=true:=by
 intro i hi;unfold left at h;have:=acw h;rw[List.filter_eq_nil_iff] at this;have:=this i (ad0.2 hi);simpa using this
theorem ld {ops:Array Oper} {listed:Array Bool} (hs:listed.size=ops.size) {i:Nat} (hi:i∈Region.ready .any ops listed):
   i<ops.size∧Ax listed i=false∧∃ o,ops[i]? =some o∧∀ q∈ao o,Ax listed q=true:=by
 unfold Region.ready at hi;rw[List.mem_filter] at hi;obtain⟨h1,h2⟩:=hi;have hlt:=ad0.1 h1;simp only[aca,acd] at h2;refine⟨hlt,?_,ops[i],acm hlt,fun q hq=> ?_⟩
 · have:=h2.1
   unfold Ax;rw[Array.getD_eq_getD_getElem?] at this ⊢;rw[acm abu] at this ⊢;exact this
 · have h3:=h2.2
   rw[acm hlt] at h3;simp only[Option.map_some,Option.getD_some,Array.all_eq_true_iff_forall_mem] at h3;unfold ao at hq;obtain⟨e,he,rfl⟩:=adl.1 hq;obtain⟨he1,he2⟩:=List.mem_filter.1 he;have:=h3 e (by simpa using he1)
   rw[he2] at this;simpa[Ax] using this
theorem abp {ops:Array Oper} {listed:Array Bool} (hs:listed.size=ops.size) (hb:Et 0 (ops.toList.map ao)=true) (h:Region.ready .any ops listed=[]):∀ i,i<ops.size→Ax listed i=true:=by
 intro i
 induction i using Nat.strongRecOn with
 | _ i ih=>
  intro hi;apply Classical.byContradiction;intro hno;have hno':Ax listed i=false:=by simpa using hno
  have:i∈Region.ready .any ops listed:=by
   unfold Region.ready;rw[List.mem_filter];refine⟨ad0.2 hi,?_⟩;simp only[aca,acd];constructor
   · unfold Ax at hno'
     rw[Array.getD_eq_getD_getElem?] at hno' ⊢;rw[acm abu] at hno' ⊢;exact hno'
   · rw[acm hi]
     simp only[Option.map_some,Option.getD_some,Array.all_eq_true_iff_forall_mem];intro e he;cases hbd:Region.binds .any e with
     |false=>rfl
     | true=>
      have hlt:=pk _ 0 hb i (ao ops[i]) (by simp[hi]) e.on (adl.2 ⟨e,List.mem_filter.2 ⟨by simpa using he,hbd⟩,rfl⟩)
      have:=ih e.on abu abu;simpa[Ax] using this
  rw[h] at this;simp at this
theorem ak3 {listed:Array Bool} {i:Nat} (hi:i<listed.size) (j:Nat):Ax (listed.setIfInBounds i true) j=if j=i then true else Ax listed j:=by
 unfold Ax;rw[Array.getD_eq_getD_getElem?,Array.getD_eq_getD_getElem?,Array.getElem?_setIfInBounds];by_cases e:i=j
 · subst e;simp[hi]
 · simp[e,Ne.symm e]
theorem Sp {x:Cx} {t t':St} {g:Get} {a:Act} {w:World} {AY:Orc} {e0:List (Nat×V)} {pre b:Bool} (hC:CM P cfg) (hO:CL P cfg AY) (R:Rel cfg x N g a w) {ops:Array Oper} {o:Oper} {io:AS} (hc:EV P N ops o io) {u:List (Loc×V)}
   (hsu:Bt cfg AY dep e0 pre t io=some (b,u)) (hloc:∀ l∈b9 dep t.get io,g l=t.get l)
   (ht:∀ k,t'.get (.slot k)=g (.slot k)) (Ag:b=true→∀ c,g (.cell c)=t.get (.cell c)) (hcalm:D7 dep e0=true→pre=true→b=true→∀ j v,g (.slot j)=some v→v.calm dep=true)
   {next:Act→World→Prop} {Q:Exit→Act→World→Prop} (hn:∀ v w' x',Rel cfg x' N (AK g u) (a.put o.dst v) w'→Fr dep x x' w w'→next (a.put o.dst v) w'):
   (Region.wanted o (yielded ops a.tmps)=true∧o.wp P a w next Q)∨(Region.wanted o (yielded ops a.tmps)=false∧next (a.put o.dst undef) w):=by
 unfold Bt at hsu;split at hsu
 · rename_i u' hu
   cases hsu;exact Sr hC hO R hc (by rw[bcw hloc];exact hu) hn
 · split at hsu
   · rename_i hq
     simp only[aca] at hq;split at hsu
     · rename_i s' hs'
       split at hsu
       · rename_i k hk
         split at hsu
         · rename_i ch v hch hv
           cases hsu;obtain⟨m,v',rfl,h2⟩:=He hk hs';have hv':v=v':=by
            have:lk (Go.Ev.st (Ab dep t.env) k v') k=some v:=hv;rw[QU,if_pos rfl] at this;cases this;rfl
           subst hv';have hg:∀ l,(St.mk t'.env t.mem).get l=g l:=fun l=>by
            cases l with
            |slot j=>exact ht j
            |cell c=>exact(Ag rfl c).symm
           have R2:Rel cfg x N (St.mk t'.env t.mem).get a w:=R.congr hg;obtain⟨h3,h4⟩:=h2 ⟨t'.env,t.mem⟩ (fun l hl=>by rw[hg];exact hloc l hl) rfl
           obtain⟨hgd,hw⟩:=abc hC hO R2 hc h3;have hcm:∀ j v,(St.mk t'.env t.mem).get (.slot j)=some v→v.calm dep=true:=fun j v hj=>hcalm hq.1 hq.2 rfl j v (by rw[← hg];exact hj)
           refine .inl ⟨cy R2 hc hgd,hw next Q fun v w' x' R' F'=>hn v w' x' (R'.congr fun l=> ?_) F'⟩
           rw[← M_get (t:=⟨t'.env,t.mem⟩) hch hcm l];have:∀ (us:List (Loc×V)) (s s':Get),s l=s' l→AK s us l=AK s' us l:=fun us s s' e=>il us e
           exact(this _ _ _ (hg l)).symm
         · cases hsu
       · cases hsu
     · cases hsu
   · cases hsu
theorem ap5:∀ (us:List (List (Loc×V))) (d:Nat→Bool) (k:Nat) (s:St),∃ t:St,t.get=part us d k s.get
 | [],_,_,s=>⟨s,rfl⟩
 | u::us,d,k,s=>by
  cases h:d k with
  | true=>
   obtain⟨t,ht⟩:=ap5 us d (k+1) (s.upd u);refine⟨t,?_⟩;rw[ht,eh];simp only[part,h,if_true]
  | false=>
   obtain⟨t,ht⟩:=ap5 us d (k+1) s;refine⟨t,?_⟩;rw[ht];simp only[part,h,acb,if_false]
theorem aj5 {Z:V→Prop} {l:Loc}:∀ (us:List (List (Loc×V))) (d:Nat→Bool) (k:Nat) (s:Get),(∀ v,s l=some v→Z v)→(∀ j u,us[j]? =some u→d (k+j)=true→∀ p∈u,p.1=l→Z p.2)→∀ v,part us d k s l=some v→Z v
 | [],_,_,_,h,_=>h
 | u::us,d,k,s,h,hu=>by
  refine aj5 us d (k+1) _ ?_ (fun j u' hj hd=>hu (j+1) u' (by simpa using hj) (by rw[show k+(j+1)=k+1+j by omega];exact hd))
  by_cases hd:d k=true
  · rw[if_pos hd]
    have h0:=hu 0 u rfl (by simpa using hd)
    have key:∀ (u:List (Loc×V)) (s:Get),(∀ v,s l=some v→Z v)→(∀ p∈u,p.1=l→Z p.2)→∀ v,AK s u l=some v→Z v:=by
     intro u
     induction u with
     |nil=>exact fun s h _=>h
     | cons p u ih=>
      obtain⟨l0,v0⟩:=p;intro s h hp;refine ih _ (fun v hv=> ?_) (fun p hm=>hp p (acn _ hm))
      have hv:(if l=l0 then some v0 else s l)=some v:=hv
      split at hv
      · rename_i e
        cases hv;exact hp (l0,v0) List.mem_cons_self e.symm
      · exact h v hv
    exact key u s h h0
  · rw[if_neg hd];exact h
theorem Sa {AY:Orc} (hC:CM P cfg) (hO:CL P cfg AY) {ops:Array Oper} {Q:Exit→Act→World→Prop} {l:List AS} (hlen:l.length=ops.size) (hl:∀ (j:Nat) io,l[j]? =some io→∃ o,ops[j]? =some o∧EV P N ops o io)
  (hb:Et 0 (ops.toList.map ao)=true) {st Av:St} {rw_:List Rec} (BD:Bf cfg AY dep st.env true l st=some (rw_,Av)) (hun:DW rw_ (az (a7 [] (ops.toList.map ao)))=true):
  ∃ us:List (List (Loc×V)),us.length=ops.size∧∀ (fuel:Nat) (listed:Array Bool) (x:Cx) (a:Act) (w:World),listed.size=ops.size→(∀ (j:Nat) o,ops[j]? =some o→Ax listed j=true→∀ q∈ao o,Ax listed q=true)→
    left ops.size (Ax listed)≤fuel→Rel cfg x N (part us (Ax listed) 0 st.get) a w→
    (∀ a' w' x',Rel cfg x' N Av.get a' w'→Fr dep x x' w w'→Q .normal a' w')→wpAny P .any ops Q fuel listed a w:=by
 obtain⟨us,hul,hfin,hus⟩:=akz l true st Av rw_ BD;refine⟨us,by rw[hul,hlen],fun fuel=> ?_⟩
 have hbl:(a7 [] (ops.toList.map ao)).length=ops.size:=by rw[mo];simp
 have hend:∀ (listed:Array Bool) (x:Cx) (a:Act) (w:World),(∀ i,i<ops.size→Ax listed i=true)→Rel cfg x N (part us (Ax listed) 0 st.get) a w→Rel cfg x N Av.get a w:=by
  intro listed x a w hall R;rw[hfin,← bbb us (Ax listed) (fun _=>true) 0 st.get (fun j hj=>by rw[Nat.zero_add];exact hall j abu)]
  exact R
 induction fuel with
 | zero=>
  intro listed x a w hs hcl hle R hQ;have hall:=blp (Nat.le_zero.1 hle);refine⟨?_,hQ a w x (hend listed x a w hall R) (.refl _ _ _)⟩;cases hr:Region.ready .any ops listed with
  |nil=>rfl
  | cons i r=>
    obtain⟨h1,h2,_⟩:=ld hs (i:=i) (by rw[hr];simp)
    rw[hall i h1] at h2;cases h2
 | succ fuel ih=>
  intro listed x a w hs hcl hle R hQ;refine⟨fun hr=>hQ a w x (hend listed x a w (abp hs hb hr) R) (.refl _ _ _),fun i hi=> ?_⟩
  obtain⟨h1,h2,o,ho,h3⟩:=ld hs hi;obtain⟨io,hio⟩:∃ io,l[i]? =some io:=⟨_,ab0 abu⟩
  obtain⟨o',ho',hc⟩:=hl i io hio;rw[ho] at ho';cases ho';obtain⟨u,bi,t,pre',g1,g0,g2,g3,g4⟩:=hus i io hio;have hclosed:∀ (j:Nat) e,(ops.toList.map ao)[j]? =some e→Ax listed j=true→∀ q∈e,Ax listed q=true:=by
    intro j e he hdj q hq;rw[acf] at he;cases hoj:ops.toList[j]? with
    |none=>rw[hoj] at he;cases he
    | some oj=>
      rw[hoj] at he;cases he;exact hcl j oj (by simpa using hoj) hdj q hq
  have hbc:=l7 hclosed
  have hpair:∀ j,j<ops.size→j≠i→(Ax listed j≠decide (j<i))→∀ u',us[j]? =some u'→(∀ lc,lc∈cc u'→lc ∉ b9 dep (part us (fun j=>decide (j<i)) 0 st.get) io∧lc ∉ cc u)∧
      (bi=true→u'.all (fun p=>p.2.calm dep)=true∧noCell (cc u')=true):=by
    intro j hj Ai hd u' hu';obtain⟨ioj,hioj⟩:∃ io,l[j]? =some io:=⟨_,ab0 abu⟩
    obtain⟨uj,bj,_,_,f1,_,_,f3,_⟩:=hus j ioj hioj;rw[hu'] at f1;cases f1;by_cases hji:j<i
    ·
      have hdj:Ax listed j=false:=by simpa[hji] using hd
      have hin:(j,i)∈az (a7 [] (ops.toList.map ao)):=by
        refine qy hji abu (fun hmem=> ?_)
        obtain⟨e,he,hp⟩:=g9 (ops.toList.map ao) (ops.toList.map ao) [] (fun i e h=>by rw[List.length_nil,Nat.zero_add];exact h) (fun j b h=>by simp at h) i _ (ab0 abu) j hmem
        have hee:e=ao o:=by
          rw[acf] at he;rw[show ops.toList[i]? =some o by simpa using ho] at he
          cases he;rfl
        subst hee;rcases hp with hp|⟨q,hq1,_,b',hq3,hq4⟩
        · rw[h3 j hp] at hdj;cases hdj
        · rw[hbc q b' hq3 (h3 q hq1) j hq4] at hdj;cases hdj
      obtain⟨bj',cj,rj,wj,bi',ci,ri,wi,e1,e2,e3,e4,e5,e6⟩:=ju hun j i hin;rw[f3] at e1;rw[g3] at e2;cases e1;cases e2;refine⟨fun lc hlc=>⟨fun h=>qs e3 hlc (List.mem_append_left _ h),fun h=>qs e3 hlc (adi _ h)⟩,fun e=> ?_⟩
      rw[e] at e6;simpa[Du] using e6
    · have hdj:Ax listed j=true:=by
        have:decide (j<i)=false:=by simp;omega
        rw[this] at hd;simpa using hd
      have hin:(i,j)∈az (a7 [] (ops.toList.map ao)):=by
        refine qy abu abu (fun hmem=> ?_)
        have:=hbc j _ (ab0 abu) hdj i hmem;rw[h2] at this;cases this
      obtain⟨bi',ci,ri,wi,bj',cj,rj,wj,e1,e2,e3,e4,e5,e6⟩:=ju hun i j hin;rw[g3] at e1;rw[f3] at e2;cases e1;cases e2;refine⟨fun lc hlc=>⟨fun h=>qs e4 hlc h,fun h=>qs e3 h (adi _ hlc)⟩,fun e=> ?_⟩
      rw[e] at e5;simpa[Du] using e5
  have hplace:∀ (lc:Loc),(∀ j,j<ops.size→j≠i→(Ax listed j≠decide (j<i))→∀ u',us[j]? =some u'→lc ∉ cc u')→part us (Ax listed) 0 st.get lc=part us (fun j=>decide (j<i)) 0 st.get lc:=by
    intro lc hno;refine iq us _ _ 0 _ _ lc rfl (fun j u' hj hd hk=> ?_)
    rw[Nat.zero_add] at hd;have hjl:j<ops.size:=by have:=(ab1.1 hj).1;omega
    by_cases hji:j=i
    · subst hji
      rw[h2] at hd;simp at hd
    · exact hno j hjl hji hd u' hj hk
  have hagree:∀ lc∈b9 dep t.get io,part us (Ax listed) 0 st.get lc=t.get lc:=by
    intro lc hlc;rw[g0] at hlc ⊢;exact hplace lc fun j hj Ai hd u' hu' hk=>((hpair j hj Ai hd u' hu').1 lc hk).1 hlc
  have Ag:bi=true→∀ c,part us (Ax listed) 0 st.get (.cell c)=t.get (.cell c):=by
    intro hbi c;rw[g0];exact hplace _ fun j hj Ai hd u' hu' hk=>vo ((hpair j hj Ai hd u' hu').2 hbi).2 hk
  have hcalm:D7 dep st.env=true→pre'=true→bi=true→∀ j v,part us (Ax listed) 0 st.get (.slot j)=some v→v.calm dep=true:=by
    intro hc0 hpre hbi k v;refine aj5 us _ 0 _ (fun v hv=>GQ hc0 k v hv) (fun j u' hj hd p hp _=> ?_) v
    rw[Nat.zero_add] at hd;have hjl:j<ops.size:=by have:=(ab1.1 hj).1;omega
    have hall:u'.all (fun p=>p.2.calm dep)=true:=by
      by_cases hji:j<i
      · exact(g4 hpre).2 j u' hji hj
      · by_cases hij:j=i
        · subst hij
          rw[h2] at hd;cases hd
        · exact((hpair j hjl hij (by rw[hd];simp;omega) u' hj).2 hbi).1
    exact adn.1 hall p hp
  have hset:∀ j,Ax (listed.setIfInBounds i true) j=if j=i then true else Ax listed j:=ak3 abu
  have hcong:∀ lc,part us (Ax (listed.setIfInBounds i true)) 0 st.get lc=AK (part us (Ax listed) 0 st.get) u lc:=by
    intro lc;by_cases hlc:lc∈cc u
    · refine blb us _ 0 i st.get _ u lc g1 (by rw[Nat.zero_add,hset];simp) hlc (fun j u' hj hij hd hk=> ?_)
      rw[Nat.zero_add,hset,if_neg abu] at hd;have hjl:j<ops.size:=by have:=(ab1.1 hj).1;omega
      exact((hpair j hjl abu (by rw[hd];simp;omega) u' hj).1 lc hk).2 hlc
    · rw[je hlc]
      refine iq us _ _ 0 _ _ lc rfl (fun j u' hj hd=> ?_)
      rw[Nat.zero_add,hset] at hd;by_cases hji:j=i
      · subst hji
        rw[g1] at hj;cases hj;exact hlc
      · rw[if_neg hji] at hd
        exact absurd rfl hd
  have hnext:∀ v w' x',Rel cfg x' N (AK (part us (Ax listed) 0 st.get) u) (a.put o.dst v) w'→Fr dep x x' w w'→wpAny P .any ops Q fuel (listed.setIfInBounds i true) (a.put o.dst v) w':=by
    intro v w' x' R' F;refine ih (listed.setIfInBounds i true) x' _ w' (by simpa using hs) (fun j oj hoj hdj q hq=> ?_) ?_ (R'.congr hcong) (fun a' w'' x'' R'' F'=>hQ a' w'' x'' R'' (F.trans F'))
    · rw[hset] at hdj ⊢
      split at hdj
      · rename_i e
        subst e;rw[ho] at hoj;cases hoj;rw[h3 q hq];simp
      · rw[hcl j oj hoj hdj q hq];simp
    · have:=blq (Ax listed) (Ax (listed.setIfInBounds i true)) (fun j hj=>by rw[hset,hj];simp) ops.size i h1 h2 (by rw[hset];simp)
      omega
  obtain⟨t',ht'⟩:=ap5 us (Ax listed) 0 st;unfold wpOp;rw[ho];simp only;rcases Sp (t':=t') hC hO R hc g2 hagree (fun k=>by rw[ht']) Ag hcalm (Q:=Q) hnext with⟨e1,e2⟩|⟨e1,e2⟩
  · rw[if_pos e1];exact .inl e2
  · rw[if_neg (by rw[e1];simp)];exact e2
end
end Go.Ev
namespace Go.Ev
open Go
section
variable {P:Program} {cfg:Cfg} {x:Cx} {N dep:Nat} {a:Act} {w:World}
theorem Rel.same {s s':Get} (R:Rel cfg x N s a w) (h:∀ l v',s' l=some v'→∃ v,s l=some v∧∀ u,RdV x s (Aa x a w) w (some l) u v→RdV x s' (Aa x a w) w (some l) u v')
   (hal:∀ c v',s' (.cell c)=some v'→(s' (.cell ⟨c.d,c.k,0⟩)).isSome):Rel cfg x N s' a w:=by
 refine⟨R.size,R.defs,R.bound,fun l v' hl=> ?_,fun k v' hk=> ?_,fun c v' hc=> ?_,R.C7,R.Bo,R.CV⟩
 · obtain⟨v,h1,h2⟩:=h l v' hl
   obtain⟨u,hu,hr⟩:=R.Bl l v h1;exact⟨u,hu,h2 u hr⟩
 · obtain⟨v,h1,_⟩:=h _ v' hk
   exact R.CB k v h1
 · obtain⟨v,h1,_⟩:=h _ v' hc
   obtain⟨g1,g2,g3⟩:=R.box c v h1;exact⟨g1,hal c v' hc,g3⟩
theorem ll (dep:Nat) (c:Cel):∀ m:List (Cel×V),lk (BG dep m) c=(lk m c).map (V.home dep)
 | []=>rfl
 | (k,v)::r=>by
  simp only[BG,lk];split
  · rfl
  · exact ll dep c r
theorem vq (dep:Nat) (e:List (Nat×V)) (k:Nat):∀ Ac:List Nat,lk (Bc dep Ac e) k=if Ac.contains k then(lk e k).map (V.home dep) else none
 | []=>by simp[Bc,lk]
 | k0::r=>by
  have ih:=vq dep e k r;unfold Bc;by_cases e0:k0=k
  · subst e0
    cases h:lk e k0 with
    |some v=>simp[lk]
    |none=>rw[h] at ih;simp[ih]
  · have e1:¬ k=k0:=fun h=>e0 h.symm
    split
    · simp[lk,e0,ih,e1]
    · simp[ih,e1]
theorem RdV.home {s s':Get} {l:Loc} {u:Value} {v:V} (h:RdV x s (Aa x a w) w (some l) u v) (hal:∀ d k,(s (.cell ⟨d,k,0⟩)).isSome→(s' (.cell ⟨d,k,0⟩)).isSome):RdV x s' (Aa x a w) w (some l) u (v.home dep):=by
 have go:(if v.A4 (dep+1) then v else .AM)=v.home dep→RdV x s' (Aa x a w) w (some l) u (v.home dep):=fun e=>by
  rw[← e];split
  · rename_i hup
    exact h.move (dep+1) (fun b o u h1 h2=>⟨h1,h2⟩) (.refl _) (fun d k _ h=>⟨hal d k h,rfl⟩) (fun l0 e b hb=>⟨hb,fun o u h=>h⟩) hup
  · exact .AM _ _
 cases v with
 | own nw z es=>
  cases h with
  |own _ b o len cap _ _ _ how hlen Ad A=>exact .own _ _ _ _ _ _ _ _ how hlen Ad A
 |_=>exact go rfl
theorem Rel.settle {st:St} (R:Rel cfg x N st.get a w) (Ac:List Nat):Rel cfg x N (settle dep Ac st).get a w:=by
 have hc:∀ c v',(Go.Ev.settle dep Ac st).get (.cell c)=some v'→∃ v,st.get (.cell c)=some v∧v'=v.home dep:=fun c v' h=>by
   have h':lk (BG dep st.mem) c=some v':=h;rw[ll,abz] at h';obtain⟨v,h1,h2⟩:=h';exact⟨v,h1,h2.symm⟩
 have hal:∀ d k,(st.get (.cell ⟨d,k,0⟩)).isSome→((Go.Ev.settle dep Ac st).get (.cell ⟨d,k,0⟩)).isSome:=fun d k h=>by
   show(lk (BG dep st.mem) _).isSome;rw[ll,Option.isSome_map];exact h
 refine R.same (fun l v' hl=> ?_) (fun c v' h=> ?_)
 · cases l with
   | slot k=>
    have h':lk (Bc dep Ac st.env) k=some v':=hl;rw[vq] at h';split at h'
    · rw[abz] at h'
      obtain⟨v,h1,rfl⟩:=h';exact⟨v,h1,fun u hr=>hr.home hal⟩
    · cases h'
   | cell c=>
    obtain⟨v,h1,rfl⟩:=hc c v' hl;exact⟨v,h1,fun u hr=>hr.home hal⟩
 · obtain⟨v,h1,_⟩:=hc c v' h
   exact hal _ _ (R.box c v h1).2.1
theorem o8 (k k':Nat):∀ m:List (Nat×V),lk (BS k m) k'=if k'=k then(lk m k').map (fun v=>match v with| .own _ _ es=> .d (.sl es)|v=>v) else lk m k'
 | []=>by simp[BS,lk]
 | (k0,v)::r=>by
  have ih:=o8 k k' r;simp only[BS];split
  · rename_i e
    subst e;cases v<;>simp only[lk]<;>by_cases e:k0=k'<;>simp[e]
    all_goals (intro h;exact absurd h.symm e)
  · rename_i Ai
    simp only[lk];by_cases e:k0=k'
    · subst e;simp[Ai]
    · simp[e,ih]
theorem Rel.BV {st:St} (R:Rel cfg x N st.get a w) (k:Nat):∃ x',Rel cfg x' N (St.get {st with env:=BS k st.env}) a w∧Fr dep x x' w w:=by
 by_cases h:∃ nw z es,st.get (.slot k)=some (.own nw z es)
 · obtain⟨nw,z,es,h⟩:=h
   obtain⟨b,h1,_,h2⟩:=R.release h;refine⟨_,h2.congr (fun l=> ?_),Fr.AU h1 _⟩
   rw[a8];cases l with
   | slot k'=>
    show lk (BS k st.env) k'=_;rw[o8];by_cases e:k'=k
    · subst e
      have h':lk st.env k'=some (.own nw z es):=h;simp[h']
    · simp[e];rfl
   |cell c=>simp;rfl
 · refine⟨x,R.congr (fun l=> ?_),.refl _ _ _⟩
   cases l with
   | slot k'=>
    show lk (BS k st.env) k'=lk st.env k';rw[o8];split
    · rename_i e
      subst e;cases hv:lk st.env k' with
      |none=>rfl
      | some v=>
       cases v with
       |own nw z es=>exact absurd ⟨nw,z,es,hv⟩ h
       |_=>rfl
    · rfl
   |cell c=>rfl
theorem Rel.Qi:∀ (ls:List Nat) {st:St} {x:Cx},Rel cfg x N st.get a w→∃ x',Rel cfg x' N (St.get {st with env:=ls.foldl (fun e k=>BS k e) st.env}) a w∧Fr dep x x' w w
 | [],st,x,R=>⟨x,R,.refl _ _ _⟩
 | k::ls,st,x,R=>by
  obtain⟨x1,R1,F1⟩:=R.BV (dep:=dep) k;obtain⟨x2,R2,F2⟩:=Rel.Qi ls R1;exact⟨x2,R2,F1.trans F2⟩
theorem Rel.DL:∀ (ls:List Nat) {st:St} {x:Cx},Rel cfg x N st.get a w→∃ x',Rel cfg x' N (Go.Ev.DL st ls).get a w∧Fr dep x x' w w
 | [],st,x,R=>⟨x,R,.refl _ _ _⟩
 | k::ls,st,x,R=>by
  have one:∃ x',Rel cfg x' N (st.upd (Fc st.get k)).get a w∧Fr dep x x' w w:=by
   rw[eh];unfold Fc;split
   · split
     · rename_i h
       obtain⟨b,h1,_,h2⟩:=R.release h;exact⟨_,h2,Fr.AU h1 _⟩
     · exact⟨x,R,.refl _ _ _⟩
   · exact⟨x,R,.refl _ _ _⟩
  obtain⟨x1,R1,F1⟩:=one;obtain⟨x2,R2,F2⟩:=Rel.DL ls R1;exact⟨x2,R2,F1.trans F2⟩
theorem a9k (d k j:Nat):∀ m:List (Nat×V),lk (Da d k m) j=(lk m j).map (V.free d k)
 | []=>rfl
 | (j0,v)::r=>by
  simp only[Da,lk];split
  · rfl
  · exact a9k d k j r
theorem qq (d k:Nat) (c:Cel):∀ m:List (Cel×V),lk (Bv d k m) c=if c.d=d∧c.k=k then none else(lk m c).map (V.free d k)
 | []=>by simp[Bv,lk]
 | (c0,v)::r=>by
  have ih:=qq d k c r;unfold Bv;split
  · rename_i h
    rw[ih];simp only[lk];by_cases e:c0=c
    · subst e;simp[h]
    · simp[e]
  · rename_i h
    simp only[lk];by_cases e:c0=c
    · subst e;simp[h]
    · simp[e,ih]
theorem jc {d k:Nat}:∀ {l:List V},V.B4 d k l=true→∀ (i:Nat) y,l[i]? =some y→y.apart d k=true
 | [],_,i,y,h=>by simp at h
 | v::r,ha,i,y,h=>by
  simp only[V.B4,aca] at ha;cases i with
  |zero=>simp at h;rw[← h];exact ha.1
  |succ i=>exact jc ha.2 i y (by simpa using h)
theorem RdV.F9 {x:Cx} {s s':Get} {cv:Loc→Option Value} {w:World} {d k:Nat} (hown:∀ l z es,s' l=some (.own false z es)→s l=some (.own false z es))
  (hal:∀ d' j,¬ (d'=d∧j=k)→(s (.cell ⟨d',j,0⟩)).isSome→(s' (.cell ⟨d',j,0⟩)).isSome) {l:Option Loc} {u:Value} {y:V} (h:RdV x s cv w l u y):y.apart d k=true→RdV x s' cv w l u y:=by
 induction h with
 |d _ _ y h=>exact fun _=> .d _ _ _ h
 |own _ b o len cap z nw es how hlen Ad A=>exact fun _=> .own _ _ _ _ _ _ _ _ how hlen Ad A
 |bor _ l' off len b o' cap' Ad h=>exact fun _=> .bor _ _ _ _ _ _ _ Ad fun z es hs=>h z es (hown _ _ _ hs)
 |Am _ l' i off b o' h=>exact fun _=> .Am _ _ _ _ _ _ fun z es hs=>h z es (hown _ _ _ hs)
 |Af _ b o off e h=>exact fun _=> .Af _ _ _ _ _ h
 | ref _ d' j off h=>
  intro ha;refine .ref _ _ _ _ (hal d' j (fun⟨e1,e2⟩=> ?_) h)
  subst e1 e2;simp[V.apart] at ha
 | clo _ f va vb xs ys hl A6 _ _ ih ih'=>
  intro ha;simp only[V.apart,aca] at ha;exact .clo _ _ _ _ _ _ hl A6 (fun i v y h1 h2=>ih i v y h1 h2 (jc ha.1 i y h2)) (fun i v y h1 h2=>ih' i v y h1 h2 (jc ha.2 i y h2))
 |ifc _ t v y _ ih=>exact fun ha=> .ifc _ _ _ _ (ih ha)
 | vec _ b o cap ys vs Ad hm _ ih=>
  intro ha;simp only[V.apart] at ha;exact .vec _ _ _ _ _ _ Ad hm (fun i y h1=>ih i y h1 (jc ha i y h1))
 | rcd _ vs ys hl _ hd ih=>
  intro ha;simp only[V.apart] at ha;exact .rcd _ _ _ hl (fun i v y h1 h2=>ih i v y h1 h2 (jc ha i y h2)) hd
 |BB _ b o v y hb hm _ ih=>exact fun ha=> .BB _ _ _ _ _ hb hm (ih ha)
 |AM=>exact fun _=> .AM _ _
theorem Rel.free {st:St} (R:Rel cfg x N st.get a w) (k:Nat):Rel cfg x N (St.get ⟨Da dep k st.env,Bv dep k st.mem⟩) a w:=by
 have hall:∀ l v',St.get ⟨Da dep k st.env,Bv dep k st.mem⟩ l=some v'→(∀ c,l= .cell c→¬ (c.d=dep∧c.k=k))∧∃ v,st.get l=some v∧v'=v.free dep k:=fun l v' h=>by
   cases l with
   | slot j=>
    have h':lk (Da dep k st.env) j=some v':=h;rw[a9k,abz] at h';obtain⟨v,h1,h2⟩:=h';exact⟨(fun c e=>by cases e),v,h1,h2.symm⟩
   | cell c=>
    have h':lk (Bv dep k st.mem) c=some v':=h;rw[qq] at h';split at h'
    · cases h'
    · rename_i Ai
      rw[abz] at h';obtain⟨v,h1,h2⟩:=h';exact⟨fun c' e=>by cases e;exact Ai,v,h1,h2.symm⟩
 have hal:∀ d j,¬ (d=dep∧j=k)→(st.get (.cell ⟨d,j,0⟩)).isSome→(St.get ⟨Da dep k st.env,Bv dep k st.mem⟩ (.cell ⟨d,j,0⟩)).isSome:=fun d j Ai h=>by
   show(lk (Bv dep k st.mem) _).isSome;rw[qq,if_neg Ai,Option.isSome_map];exact h
 have hown:∀ l z es,St.get ⟨Da dep k st.env,Bv dep k st.mem⟩ l=some (.own false z es)→st.get l=some (.own false z es):=fun l z es h=>by
   obtain⟨_,v,h1,h2⟩:=hall l _ h;rw[h1];cases v with
   |own nw z' B8=>simpa[V.free] using h2.symm
   | ref d' k' off=>
    simp only[V.free] at h2;split at h2<;>cases h2
   | clo f a b=>
    simp only[V.free] at h2;split at h2<;>cases h2
   | ifc t v=>
    simp only[V.free] at h2;split at h2<;>cases h2
   | vec ys=>
    simp only[V.free] at h2;split at h2<;>cases h2
   | BB y=>
    simp only[V.free] at h2;split at h2<;>cases h2
   |_=>simp[V.free] at h2
 refine R.same (fun l v' hl=> ?_) (fun c v' h=> ?_)
 · obtain⟨_,v,h1,rfl⟩:=hall l v' hl
   refine⟨v,h1,fun u hr=> ?_⟩
   cases hr with
   |d _ _ y h=>exact .d _ _ _ h
   |own _ b o len cap z nw es how hlen Ad A=>exact .own _ _ _ _ _ _ _ _ how hlen Ad A
   |bor _ l' off len b o' cap' Ad h=>exact .bor _ _ _ _ _ _ _ Ad fun z es hs=>h z es (hown _ _ _ hs)
   |Am _ l' i off b o' h=>exact .Am _ _ _ _ _ _ fun z es hs=>h z es (hown _ _ _ hs)
   |Af _ b o off e h=>exact .Af _ _ _ _ _ h
   | ref _ d j off h=>
    simp only[V.free];split
    · exact .AM _ _
    · rename_i Ai
      exact .ref _ _ _ _ (hal d j Ai h)
   | clo _ f va vb xs ys k1 k2 g g'=>
    simp only[V.free];split
    · rename_i ha
      exact(RdV.clo _ f va vb xs ys k1 k2 g g').F9 hown hal (by simpa only[V.apart] using ha)
    · exact .AM _ _
   | ifc _ t v y g=>
    simp only[V.free];split
    · rename_i ha
      exact(RdV.ifc _ t v y g).F9 hown hal (by simpa only[V.apart] using ha)
    · exact .AM _ _
   | vec _ b o cap ys vs Ad hm g=>
    simp only[V.free];split
    · rename_i ha
      exact(RdV.vec _ b o cap ys vs Ad hm g).F9 hown hal (by simpa only[V.apart] using ha)
    · exact .AM _ _
   |rcd=>exact .AM _ _
   | BB _ b o v y hb hm g=>
    simp only[V.free];split
    · rename_i ha
      exact(RdV.BB _ b o v y hb hm g).F9 hown hal (by simpa only[V.apart] using ha)
    · exact .AM _ _
   |AM=>exact .AM _ _
 · obtain⟨h0,v,h1,_⟩:=hall _ v' h
   exact hal _ _ (h0 c rfl) (R.box c v h1).2.1
end
end Go.Ev
namespace Go.Ev
open Go
theorem tu {P:Program} {ad:AJ} {N:Nat} {ops:Array Oper}:∀ (r:List Oper) (l:List AS),tw P ad N (ops.toList.map (·.dst)) r=some l→
  l.length=r.length∧∀ (j:Nat) io,l[j]? =some io→∃ o,r[j]? =some o∧EV P N ops o io
 | [],l,h=>by cases h;simp
 | o::r,l,h=>by
  unfold tw at h;split at h
  · rename_i io l' h1 h2
    cases h;obtain⟨g1,g2⟩:=tu r l' h2;refine⟨by simp[g1],fun j io' hj=> ?_⟩
    cases j with
    | succ j=>
     obtain⟨o',h3,h4⟩:=g2 j io' (by simpa using hj)
     exact⟨o',by simpa using h3,h4⟩
    | zero=>
     simp only[List.getElem?_cons_zero,Option.some.injEq] at hj;subst hj;refine⟨o,rfl,?_⟩;unfold an at h1;simp only at h1;split at h1
     · rename_i hok
       have hlt:∀ k,o.dst=some k→k<N:=fun k e=>by rw[e] at hok;simpa[Zv] using hok
       split at h1
       · rename_i hg
         cases h1;exact⟨rfl,hlt,⟨_,_,rfl⟩,by rw[hg]⟩
       · rename_i i b hg
         split at h1
         · rename_i k hk
           cases h1;refine⟨rfl,hlt,⟨_,_,rfl⟩,?_⟩;rw[hg];refine⟨k,?_,rfl⟩;rw[acf] at hk;cases ho:ops[i]? with
           |none=>rw[show ops.toList[i]? =none by simpa using ho] at hk;cases hk
           | some oi=>
            rw[show ops.toList[i]? =some oi by simpa using ho] at hk
            simpa using hk
         · cases h1
     · cases h1
  · cases h
section
variable {P:Program} {cfg:Cfg} {N dep:Nat}
theorem bap {es:List (List Nat)} (h:az (a7 [] es)=[]) {i j:Nat} (hij:i<j) (hj:j<es.length):∃ b,(a7 [] es)[j]? =some b∧i∈b:=by
 have hl:j<(a7 [] es).length:=by rw[mo];simpa using hj
 refine⟨_,ab0 hl,?_⟩;apply Classical.byContradiction;intro hno;have:=qy hij hl hno;rw[h] at this;simp at this
theorem aau {AY:Orc} (hC:CM P cfg) (hO:CL P cfg AY) {ops:Array Oper} {Q:Exit→Act→World→Prop} {L:List AS} (hlen:L.length=ops.size) (hL:∀ (j:Nat) io,L[j]? =some io→∃ o,ops[j]? =some o∧EV P N ops o io)
  (hb:Et 0 (ops.toList.map ao)=true) (hun:az (a7 [] (ops.toList.map ao))=[]):
  ∀ (l:List AS) (i:Nat) (listed:Array Bool) (x:Cx) (a:Act) (w:World) (st Av:St),l=L.drop i→listed.size=ops.size→(∀ j,j<ops.size→Ax listed j=decide (j<i))→Rel cfg x N st.get a w→CY cfg AY dep l st=some Av→
  (∀ a' w' x',Rel cfg x' N Av.get a' w'→Fr dep x x' w w'→Q .normal a' w')→wpAny P .any ops Q l.length listed a w
 | [],i,listed,x,a,w,st,Av,hl,hs,hd,R,h,hQ=>by
  cases h;have hi:ops.size≤i:=by
    have:=congrArg List.length hl;simp at this;omega
  refine⟨?_,hQ a w x R (.refl _ _ _)⟩;cases hr:Region.ready .any ops listed with
  |nil=>rfl
  | cons j r=>
    obtain⟨h1,h2,_⟩:=ld hs (i:=j) (by rw[hr];simp)
    rw[hd j h1] at h2;simp at h2;omega
 | io::l,i,listed,x,a,w,st,Av,hl,hs,hd,R,h,hQ=>by
  have hi:i<ops.size:=by
    have:=congrArg List.length hl;simp at this;omega
  refine⟨fun hr=> ?_,fun p hp=> ?_⟩
  · have:=abp hs hb hr i hi
    rw[hd i hi] at this;simp at this
  · obtain⟨h1,h2,o,ho,h3⟩:=ld hs hp
    have hpi:p=i:=by
      rw[hd p h1] at h2;simp at h2;apply Classical.byContradiction;intro Ai;have hip:i<p:=abu;obtain⟨b,hb1,hb2⟩:=bap hun hip (by simpa using h1)
      have hclosed:∀ (j:Nat) e,(ops.toList.map ao)[j]? =some e→Ax listed j=true→∀ q∈e,Ax listed q=true:=by
        intro j e he hdj q hq;have hj:j<ops.size:=by have:=(ab1.1 he).1;simpa using this
        have hlt:=pk _ 0 hb j e he q hq;rw[hd j hj] at hdj;simp at hdj;rw[hd q abu];simp;omega
      obtain⟨e,he,hpp⟩:=g9 (ops.toList.map ao) (ops.toList.map ao) [] (fun i e h=>by rw[List.length_nil,Nat.zero_add];exact h) (fun j b h=>by simp at h) p b hb1 i hb2
      have hee:e=ao o:=by
        rw[acf] at he;rw[show ops.toList[p]? =some o by simpa using ho] at he
        cases he;rfl
      subst hee;have hdi:Ax listed i=true:=by
        rcases hpp with hpp|⟨q,hq1,_,b',hq3,hq4⟩
        · exact h3 i hpp
        · exact l7 hclosed q b' hq3 (h3 q hq1) i hq4
      rw[hd i hi] at hdi;simp at hdi
    subst hpi;have hio:L[p]? =some io:=by
      have:=congrArg (fun l=>l[0]?) hl
      simpa using this.symm
    obtain⟨o',ho',hc⟩:=hL p io hio;rw[ho] at ho';cases ho';unfold CY at h;split at h
    · rename_i st1 Bz
      have hrest:∀ v w' x',Rel cfg x' N st1.get (a.put o.dst v) w'→Fr dep x x' w w'→wpAny P .any ops Q l.length (listed.setIfInBounds p true) (a.put o.dst v) w':=fun v w' x' R' F=>
        aau hC hO hlen hL hb hun l (p+1) _ x' _ w' st1 Av (by
          have:=congrArg List.tail hl;simpa using this) (by simpa using hs) (fun j hj=>by
           rw[ak3 abu,hd j hj];by_cases e:j=p
           · simp[e]
           · rw[if_neg e]
             congr 1
             exact propext ⟨fun h=>by omega,fun h=>by omega⟩) R' h (fun a' w'' x'' R'' F'=>hQ a' w'' x'' R'' (F.trans F'))
      unfold wpOp;rw[ho];simp only;rcases bcv hC hO R hc Bz (Q:=Q) hrest with⟨h1,h2⟩|⟨h1,h2⟩
      · rw[if_pos h1];exact .inl h2
      · rw[if_neg (by rw[h1];simp)];exact h2
    · cases h
end
end Go.Ev
namespace Go.Ev
open Go
theorem D.QT {a b:D} (h:a.same b=true):a=b:=by
 unfold D.same at h;split at h<;>first|rfl| (simp only[acg] at h;rw[h])| (simp only[aca,ab4,acg] at h;rw[h.1,h.2])|cases h
theorem pd:∀ {a b:List (Nat×V)},DD a b=true→a=b
 | [],[],_=>rfl
 | (k,.d x)::r,(k',.d y)::r',h=>by
  simp only[DD,aca,acg] at h;rw[h.1.1,D.QT h.1.2,pd h.2]
 | [],_::_,h=>by simp[DD] at h
 | (_,v)::_,[],h=>by cases v<;>simp[DD] at h
 | (_,.d _)::_,(_,v)::_,h=>by cases v<;>first| (simp[DD] at h;done)|skip;rename_i y;rename_i k x r k' r';simp only[DD,aca,acg] at h;rw[h.1.1,D.QT h.1.2,pd h.2]
 | (_,.own _ _ _)::_,_::_,h| (_,.bor _ _ _)::_,_::_,h| (_,.Am _ _ _)::_,_::_,h| (_,.Af _ _)::_,_::_,h| (_,.ref _ _ _)::_,_::_,h| (_,.clo _ _ _)::_,_::_,h| (_,.ifc _ _)::_,_::_,h| (_,.AM)::_,_::_,h=>by simp[DD] at h
theorem bmf {a b:Ex} (h:P5 a b=true):a=b:=by
 unfold P5 at h;split at h<;>first|rfl| (simp only[acg] at h;rw[h])|cases h
theorem dq {a b:Option (Ex×St)} {r:Ex×St} (h:DO a b=some r):a=some r∧b=some r:=by
 unfold DO at h;split at h
 · rename_i e s e' s'
   split at h
   · rename_i hq
     cases h;simp only[aca,List.isEmpty_iff] at hq;obtain⟨⟨⟨h1,h2⟩,h3⟩,h4⟩:=hq;have:=bmf h1;subst this;obtain⟨e1,m1⟩:=s;obtain⟨e2,m2⟩:=s';have:=pd h2;simp only at this h3 h4;subst this;subst h3;subst h4;exact⟨rfl,rfl⟩
   · cases h
 · cases h
theorem tz {a b a' b':Option (Ex×St)} (ha:∀ r,a=some r→a'=some r) (hb:∀ r,b=some r→b'=some r) {r:Ex×St} (h:DO a b=some r):DO a' b'=some r:=by
 obtain⟨h1,h2⟩:=dq h;rw[ha r h1,hb r h2];rw[h1,h2] at h;exact h
def nu:Ex→Exit
 | .normal=> .normal
 | .ret=> .ret
 | .exit id=> .exit id
section
variable {P:Program} {cfg:Cfg} {N dep:Nat}
theorem vj {AY:Orc} (hC:CM P cfg) (hO:CL P cfg AY) {ops:Array Oper} {draw:Bool} {ad:AJ} {l:List AS} (hl:tw P ad N (ops.toList.map (·.dst)) ops.toList=some l)
  (hb:draw=true→Et 0 (ops.toList.map ao)=true) {st Av:St} {x:Cx} {a:Act} {w:World} (R:Rel cfg x N st.get a w)
  (BD:A9 cfg AY dep l (if draw then az (a7 [] (ops.toList.map ao)) else[]) st=some Av) {Q:Exit→Act→World→Prop}
  (hQ:∀ a' w' x',Rel cfg x' N Av.get a' w'→Fr dep x x' w w'→Q .normal a' w'):
  if draw then wpAny P .any ops Q ops.size (Array.replicate ops.size false) a {w with drawn:=w.drawn+1} else wpOps P ops Q (List.range ops.size) a w:=by
 obtain⟨hlen,hspec⟩:=tu ops.toList l hl;have hspec':∀ (j:Nat) io,l[j]? =some io→∃ o,ops[j]? =some o∧EV P N ops o io:=fun j io h=>by
  obtain⟨o,h1,h2⟩:=hspec j io h;exact⟨o,by simpa using h1,h2⟩
 have hlen':l.length=ops.size:=by simpa using hlen
 cases draw with
 | false=>
  have hev':CY cfg AY dep l st=some Av:=BD;show wpOps P ops Q (List.range ops.size) a w;rw[List.range_eq_range',← hlen'];exact arz hC hO l 0 x a w st Av R (fun j io h=>by rw[Nat.zero_add];exact hspec' j io h) hev' hQ
 | true=>
  show wpAny P .any ops Q ops.size (Array.replicate ops.size false) a {w with drawn:=w.drawn+1};have hdone:∀ j,Ax (Array.replicate ops.size false) j=false:=fun j=>by
    unfold Ax;rw[Array.getD_eq_getD_getElem?,Array.getElem?_replicate];split<;>rfl
  have hQ':∀ a' w' x',Rel cfg x' N Av.get a' w'→Fr dep x x' {w with drawn:=w.drawn+1} w'→Q .normal a' w':=fun a' w' x' R' F=>hQ a' w' x' R' (Fr.drew.trans F)
  have BD:A9 cfg AY dep l (az (a7 [] (ops.toList.map ao))) st=some Av:=BD;unfold A9 at BD;split at BD
  · rename_i un hun
    rw[← hlen'];have:=aau hC hO (Q:=Q) hlen' hspec' (hb rfl) hun l 0 (Array.replicate ops.size false) x a {w with drawn:=w.drawn+1} st Av rfl abw (fun j _=>by rw[hdone];simp) R.drew BD hQ'
    rwa [hlen'] at this ⊢
  · split at BD
    · rename_i rw_ st2 hst2
      split at BD
      · rename_i hok
        cases BD;obtain⟨us,hul,h⟩:=Sa hC hO (Q:=Q) hlen' hspec' (hb rfl) hst2 hok;refine h ops.size (Array.replicate ops.size false) x a _ abw (fun j o _ hd=>by rw[hdone] at hd;cases hd) ?_ ?_ hQ'
        · unfold left
          refine ac7 (List.length_filter_le _ _) ?_;simp
        · have:part us (Ax (Array.replicate ops.size false)) 0 st.get=st.get:=by
           funext lc
           exact yu _ _ _ _ _ (fun j u _ hd=>by rw[hdone] at hd;cases hd)
          rw[this];exact R.drew
      · cases BD
    · cases BD
theorem bdl {AY:Orc} (hm:P.follows .mixedOrders=true) (hC:CM P cfg) (hO:CL P cfg AY) {id:Nat} {ops:Array Oper} {draw:Bool} {ad:AJ} {l:List AS} (hl:tw P ad N (ops.toList.map (·.dst)) ops.toList=some l)
   (hb:draw=true→Et 0 (ops.toList.map ao)=true) {st Av:St} {x:Cx} {a:Act} {w:World} (R:Rel cfg x N st.get a w)
   (BD:A9 cfg AY dep l (if draw then az (a7 [] (ops.toList.map ao)) else[]) st=some Av) {Q:Exit→Act→World→Prop}
   (hQ:∀ a' w' x',Rel cfg x' N Av.get a' w'→Fr dep x x' w w'→Q .normal a' w'):(Code.region id ops draw).wp P Q a w:=by
 have h:=vj hC hO hl hb R BD hQ;cases draw
 · exact wp_region h
 · exact wp_region_any hm h
end
end Go.Ev
namespace Go.Ev
open Go
abbrev rnd (r:Nat):Fence:=Fence.wide.inRound r
theorem alp {P:Program} {r:Nat} {m m':Machine}:StepsIn (Machine.fenced P (rnd r)) P m m'↔Steps P m m':=stepsIn_wide (P:=P)
section
variable {P:Program} {ops:Array Oper} {Q:Exit→Act→World→Prop} {r n:Nat}
theorem bcm {o:Oper} {a:Act} {next next':Act→World→Prop} {res:Result Next} (hQ:¬ LetsOut Q) (hn:∀ a w,next a w→next' a w) (h:o.upon P a next Q res):o.uponIn (rnd r) n P a next' Q res:=by
 unfold Oper.upon at h;split at h
 · exact hn _ _ h
 · exact hn _ _ h
 · exact hn _ _ h
 · refine⟨(fun h=>by cases h),CallsIn.mono (F:=rnd r) (show CallsIn (rnd r) _ _ _ _ _ _ from callsIn_wide.2 h) fun e w' hr=> ?_⟩
   cases e with
   |returned v=>exact hn _ _ hr
   |panicked c=>exact hr
   |outgrown=>exact hr
 · refine⟨(fun h=>by cases h),fun c cs _=> ?_⟩
   obtain⟨v,w',h1,h2⟩:=h c cs;exact⟨v,w',hn _ _ h1,alp.2 h2⟩
 · exact h
 · exact h.elim
theorem aj9 {o:Oper} {a:Act} {w:World} {next next':Act→World→Prop} (hd:∀ c,o.op≠ .defer c) (hQ:¬ LetsOut Q) (hn:∀ a w,next a w→next' a w) (h:o.wp P a w next Q):o.wpIn (rnd r) n P a w next' Q:=by
 refine⟨fun _ _=>trivial,?_⟩
 rw[Oper.semAt_eq _ _ _ hd];exact bcm hQ hn h
theorem qp (hd:∀ (j:Nat) o,ops[j]? =some o→∀ c,o.op≠ .defer c) (hQ:¬ LetsOut Q):∀ (l:List Nat) (a:Act) (w:World),wpOps P ops Q l a w→wpOpsIn (rnd r) n P ops Q l a w
 | [],_,_,h=>h
 | i::l,a,w,h=>by
  unfold wpOps at h;unfold wpOpsIn;split at h
  · rename_i e;rw[e];exact qp hd hQ l a w h
  · rename_i o e
    rw[e];simp only;split at h
    · rename_i hw
      rw[if_pos hw];rcases h with h|h
      · exact aj9 (hd i o e) hQ (fun a w h=>qp hd hQ l a w h) h
      · exact absurd h.2 hQ
    · rename_i hw
      rw[if_neg hw];exact⟨fun _ _=>trivial,qp hd hQ l _ w h⟩
theorem qu (hd:∀ (j:Nat) o,ops[j]? =some o→∀ c,o.op≠ .defer c) (hQ:¬ LetsOut Q) (md:Region.Mode):∀ (fuel:Nat) (listed:Array Bool) (a:Act) (w:World),wpAny P md ops Q fuel listed a w→wpAnyIn (rnd r) n P md ops Q fuel listed a w
 |0,_,_,_,h=>h
 | fuel+1,listed,a,w,h=>by
  refine⟨h.1,fun i hi=> ?_⟩
  have h2:=h.2 i hi;unfold wpOp at h2;unfold wpOpIn;split at h2
  · rename_i e;rw[e];exact qu hd hQ md fuel _ a w h2
  · rename_i o e
    rw[e];simp only;split at h2
    · rename_i hw
      rw[if_pos hw];rcases h2 with h2|h2
      · exact aj9 (hd i o e) hQ (fun a w h=>qu hd hQ md fuel _ a w h) h2
      · exact absurd h2.2 hQ
    · rename_i hw
      rw[if_neg hw];exact⟨fun _ _=>trivial,qu hd hQ md fuel _ _ w h2⟩
theorem ba3 {cfg:Cfg} {N dep:Nat} {AY:Orc} (hm:P.follows .mixedOrders=true) (hC:CM P cfg) (hO:CL P cfg AY) {id:Nat} {draw:Bool} {ad:AJ} {l:List AS} (hl:tw P ad N (ops.toList.map (·.dst)) ops.toList=some l)
   (hb:draw=true→Et 0 (ops.toList.map ao)=true) (hd:∀ (j:Nat) o,ops[j]? =some o→∀ c,o.op≠ .defer c) {st Av:St} {x:Cx} {a:Act} {w:World} (R:Rel cfg x N st.get a w)
   (BD:A9 cfg AY dep l (if draw then az (a7 [] (ops.toList.map ao)) else[]) st=some Av)
   (hQ:∀ a' w' x',Rel cfg x' N Av.get a' w'→Fr dep x x' w w'→Q .normal a' w'):(Code.region id ops draw).wpIn (rnd r) n P Q a w:=by
 have h:=vj hC hO hl hb R BD (Q:=fun e a' w'=>e= .normal∧∃ x',Rel cfg x' N Av.get a' w'∧Fr dep x x' w w') (fun a' w' x' R' F'=>⟨rfl,x',R',F'⟩)
 have hno:¬ LetsOut (fun e a' w'=>e= .normal∧∃ x',Rel cfg x' N Av.get a' w'∧Fr dep x x' w w'):=by
   rintro ⟨_,_,h,_⟩;cases h
 refine wpIn_mono ?_ (Q:=fun e a' w'=>e= .normal∧∃ x',Rel cfg x' N Av.get a' w'∧Fr dep x x' w w') (fun e a' w' ⟨he,x',R',F'⟩=>he ▸ hQ a' w' x' R' F')
 cases draw
 · exact wpIn_region (qp hd hno _ _ _ h)
 · exact wpIn_region_any hm (qu hd hno _ _ _ _ _ h)
theorem eP {F:Fence} {c:Code} (J:Nat→Act→World→Prop) (hz:∀ a w,¬ J 0 a w) (round:∀ m a w,J (m+1) a w→c.wpIn F n P (Exit.then (J m) Q) a w) {m:Nat} {a:Act} {w:World} (h:J m a w):(Code.loop c).wpIn F n P Q a w:=by
 intro b k cs hro hb hr;have key:∀ m a w,J m a w→∃ e a' w',Q e a' w'∧ArrivesIn (Machine.fenced P F) P (lone (b.atR a (.code c:: .inLoop c::k)) cs w) b k cs e a' w':=by
  intro m
  induction m with
  |zero=>intro a w h;exact absurd h (hz a w)
  | succ m ih=>
   intro a w h;obtain⟨e,a₁,w₁,hq,harr⟩:=round m a w h b (.inLoop c::k) cs hro hb hr;have out:e≠ .normal→∃ e a' w',Q e a' w'∧ArrivesIn (Machine.fenced P F) P (lone (b.atR a (.code c:: .inLoop c::k)) cs w) b k cs e a' w':=fun Ai=>by
    refine⟨e,a₁,w₁,?_,.pass (x:= .inLoop c) rfl (fun _ _=> .inl Ai) harr⟩
    cases e<;>first|exact absurd rfl Ai|exact hq
   cases e with
   | normal=>
    obtain⟨e₂,a₂,w₂,hq₂,harr₂⟩:=ih a₁ w₁ hq;exact⟨e₂,a₂,w₂,hq₂,.of_steps (StepsIn.trans harr (.one (fenced_calm hb hr rfl) stepR_inLoop)) harr₂⟩
   |_=>exact out abw
 obtain⟨e,a',w',hq,harr⟩:=key m a w h;exact⟨e,a',w',hq,.of_steps (.one (fenced_calm hb hr rfl) stepR_loop) harr⟩
end
