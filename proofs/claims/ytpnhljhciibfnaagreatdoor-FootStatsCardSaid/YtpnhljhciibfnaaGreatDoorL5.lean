import Derived.Test.YtpnhljhciibfnaaGreatDoorL4
import Derived.Orders
import Derived.OrdersIn
import Derived.RangeFuncLeaves
namespace Go.Ev
open Go
section
variable {P:Program} {cfg:Cfg} {x:Cx} {N dep:Nat} {s:Get} {a:Act} {w:World}
theorem Arr.less {F:Nat→Prop} {b o cap cap' z:Nat} {es:List D} (A:Arr F w b o cap z es) (h:cap'≤cap):Arr F w b o cap' z es:=
 ⟨A.pos,fun j hj=>A.room j (ab3 hj (aby z h)),A.wid,A.cel,A.els⟩
theorem ng (dst:Option Nat) (p:AE) {y:V} (h:y.BC=false):FD dst p y=some (AO dst y):=by
 cases y with
 |own nw z es=>simp[V.BC] at h
 |rcd ys=>simp[V.BC] at h
 |_=>cases p<;>rfl
theorem Uy (hC:bt4 P cfg) (R:Rel cfg x N s a w) {o:Oper} {f:FuncId} (hf:cfg.clip f=true) {k:Nat} (hd:o.dst=some k) (hk:k<N) {c:Call} (hcal:c.callee= .value (.func f)) (ho:o.op= .call c) {p:AE} (hargs:BJ c.args.toList=some [p])
   {y:V} (hy:val cfg s p=some y) {u:List (Loc×V)} (hu:Dv (some k) p y=some u):D8 P cfg x N dep (AN s u) a w o:=by
 obtain⟨X,hXl,hX⟩:=mk1 (X:= .tmp 0) hargs;obtain⟨l,hr,hl⟩:=ck R hX hy;have hA:c.args.map a.eval= #[a.eval X]:=by
   have:c.args= #[X]:=by apply Array.ext';simpa using hXl
   rw[this];simp
 have hrun:(execOp a.eval o).run P w=(callFunc f #[a.eval X]).run P w:=by
   have e:a.eval (.func f)= .func (.func f) #[] #[]:=rfl;simp[execOp,ho,resolve,hcal,e,hA,Deferred.ofValue,invoke]
 have go:∀ ad len cap,a.eval X= .slice ad len cap→len≤cap→(∃ x',Rel cfg x' N (AN s u) (a.put o.dst (.slice ad len len)) w∧Fr dep x x' w w)→D8 P cfg x N dep (AN s u) a w o:=by
   intro ad len cap he hle hx;rw[he] at hrun;refine(hC f hf ad len cap w hle).walks hrun (fun v w' h=> ?_)
   obtain⟨rfl,rfl⟩:=h;exact hx
 unfold Dv at hu;split at hu
 ·
   obtain⟨ad,e⟩:=hr.Av.De;refine go ad 0 0 e (abn _) ⟨x,?_,.refl _ _ _⟩;rw[hd];rw[ng _ _ rfl] at hu;cases hu;exact R.put hk rfl (l:=none) (.d _ _ _ (.AB ad))
 ·
   rename_i es;have hrd:=hr.Av;generalize hev:a.eval X=v at hrd;cases hrd with
   | slA ad cap=>
     refine go ad 0 cap hev (acj _) ⟨x,?_,.refl _ _ _⟩;rw[hd];rw[ng _ _ rfl] at hu;cases hu;exact R.put hk rfl (l:=none) (.d _ _ _ (.slA _ _))
   |sl b of len cap z _ vs hlen hcap hz hc hm h=>
   refine go _ _ _ hev hcap ⟨x,?_,.refl _ _ _⟩;rw[hd];have hput:u=AO (some k) (.d (.sl es)):=by
     rw[ng _ _ rfl] at hu;cases hu;rfl
   rw[hput];exact R.put hk rfl (l:=none) (.d _ _ _ (.sl b of len len z es vs hlen (abn _) hz hc hm h))
 ·
   rename_i nw z es;have hslot:∃ j,p= .t j:=by
     cases p with
     |t j=>exact⟨j,rfl⟩
     |c d=>simp[val] at hy
     |g n=>simp[val] at hy
   obtain⟨j,rfl⟩:=hslot;obtain⟨hl1,rfl⟩:=hl j rfl;have he:s (.slot j)=some (.own nw z es):=hy;obtain⟨b,o',cap,g1,g2,g3,g4⟩:=R.B0 he;have hv:a.eval (.tmp j)= .slice (some (ad3 b o')) es.length cap:=by simpa[Aa,Act.eval] using g1
   have g4':=g4.less g3;cases nw
   · have hput:u=AO (some k) (.bor (.slot j) 0 es.length):=by simpa[FD] using hu.symm
     refine go _ _ _ hv g3 ⟨x,?_,.refl _ _ _⟩;rw[hd,hput];refine R.put hk rfl (l:=none) (.bor _ _ _ _ _ _ _ (abn _) fun z' es' hs=> ?_)
     rw[he] at hs;cases hs;exact⟨o',_,cap,g1,by omega,.inr aa1,g4'.room⟩
   · have hput:u=AO (some k) (.own true z es)++[(.slot j,.AY)]:=by simpa[FD] using hu.symm
     refine go _ _ _ hv g3 ⟨x.AX b (some (.at (.slot k))),?_,Fr.AX g2 _⟩;rw[hd,hput];exact R.Ea hk he g2 g4' rfl (abn _)
 ·
   rename_i l' off n;have hput:u=AO (some k) (.bor l' off n):=by
     rw[ng _ _ rfl] at hu;cases hu;rfl
   generalize hev:a.eval X=v at hr;cases hr with
   |bor _ _ _ _ b o' cap' hcap h=>
   refine go _ _ _ hev hcap ⟨x,?_,.refl _ _ _⟩;rw[hd,hput];refine R.put hk rfl (l:=none) (.bor _ _ _ _ _ _ _ (abn _) fun z es hs=> ?_)
   obtain⟨o,L,C,h1,h2,h3,h4⟩:=h z es hs;refine⟨o,L,C,h1,h2,?_,fun j hj=>h4 j (ab3 hj (aby z hcap))⟩
   rcases h3 with h3|h3
   · exact .inl ⟨h3.1,h3.1⟩
   · exact .inr h3
 · cases hu
structure EX (P:Program) (N:Nat) (ops:Array Oper) (o:Oper) (io:AV):Prop where
 dst:io.dst=o.dst
 lt:∀ k,o.dst=some k→k<N
 op:∃ own g,gOp g ((cOp P own o.op).getD .bad)=io.op
 guard:match o.guard with
  |none=>io.guard=none
  |some (j,b)=>∃ k,(ops[j]?).bind (·.dst)=some k∧io.guard=some (k,b)
theorem eh (R:Rel cfg x N s a w) {ops:Array Oper} {o:Oper} {io:AV} (hc:EX P N ops o io) {t:Bool} (hg:A5 s io.guard=some t):Region.wanted o (yielded ops a.tmps)=t:=by
 have h:=hc.guard;unfold Region.wanted;cases hog:o.guard with
 | none=>
  rw[hog] at h;simp only at h;rw[h] at hg;cases hg;rfl
 | some jb=>
  obtain⟨j,b⟩:=jb;rw[hog] at h;simp only at h ⊢;obtain⟨k,h1,h2⟩:=h;rw[h2] at hg;unfold A5 at hg;simp only at hg;split at hg
  · rename_i c hs
    cases hg;obtain⟨u,hu,hr⟩:=R.Bj _ _ hs;have e:=hr.Av.Cm;subst e;have hk:=R.CD _ _ hs;have hget:a.tmps[k]? =some (.bool c):=by
     have:a.tmps.getD k undef= .bool c:=by simpa[Aa] using hu
     rw[Array.getD_eq_getD_getElem?] at this;rw[← R.size] at hk;rw[abz hk] at this ⊢;exact congrArg some this
    simp only[yielded,h1,Option.bind_some,hget];cases c<;>cases b<;>rfl
  · rename_i hs
    cases hg;obtain⟨u,hu,hr⟩:=R.Bj _ _ hs;have hk:=R.CD _ _ hs;have hr':=hr.Av;cases hr' with
    |tup vs cs hl h=>
    have hget:a.tmps[k]? =some (.tuple vs.toArray):=by
     have:a.tmps.getD k undef= .tuple vs.toArray:=by simpa[Aa] using hu
     rw[Array.getD_eq_getD_getElem?] at this;rw[← R.size] at hk;rw[abz hk] at this ⊢;exact congrArg some this
    simp only[yielded,h1,Option.bind_some,hget];rfl
  · cases hg
theorem awd (F:Nat→Prop) (w:World):Rd F w undef (.tup []):=by
 have:=Rd.tup (F:=F) (w:=w) [] [] rfl (fun i v c h=>by simp at h)
 exact this
theorem mp {s:Get}:∀ {l:List AE} {p:Loc×V},p∈BW s l→∃ k nw z es,AE.t k∈l∧s p.1=some (.own nw z es)∧p.2= .d (.sl es)∧(p.1= .slot k∨∃ o n,s (.slot k)=some (.bor p.1 o n))
 | [],p,h=>by cases h
 | .c _::r,p,h=>by
  obtain⟨k,nw,z,es,h4,h⟩:=mp (l:=r) h;exact⟨k,nw,z,es,abw _ h4,h⟩
 | .g _::r,p,h=>by
  obtain⟨k,nw,z,es,h4,h⟩:=mp (l:=r) h;exact⟨k,nw,z,es,abw _ h4,h⟩
 | .t k::r,p,h=>by
  have more:p∈BW s r→∃ k' nw z es,AE.t k'∈ .t k::r∧s p.1=some (.own nw z es)∧p.2= .d (.sl es)∧(p.1= .slot k'∨∃ o n,s (.slot k')=some (.bor p.1 o n)):=fun h=>by
    obtain⟨k,nw,z,es,h4,h⟩:=mp (l:=r) h;exact⟨k,nw,z,es,abw _ h4,h⟩
  unfold BW at h;split at h
  · rename_i nw z es hk
    rcases abr.1 h with e|h
    · subst e
      exact⟨k,nw,z,es,List.mem_cons_self,hk,rfl,.inl rfl⟩
    · exact more h
  · rename_i l o n hk
    split at h
    · rename_i z es hl
      rcases abr.1 h with e|h
      · subst e
        exact⟨k,false,z,es,List.mem_cons_self,hl,rfl,.inr ⟨o,n,hk⟩⟩
      · exact more h
    · exact more h
  · exact more h
theorem mo {s:Get}:∀ {l:List AE} {p:Loc×V},p∈CO s l→∃ k l' o n z es,AE.t k∈l∧p=(.slot k,.d (.sl ((es.drop o).take n)))∧s (.slot k)=some (.bor l' o n)∧s l'=some (.own false z es)∧(l',V.d (.sl es))∈BW s l
 | [],p,h=>by cases h
 | .c _::r,p,h=>by
  obtain⟨k,l',o,n,z,es,h4,h⟩:=mo (l:=r) h;exact⟨k,l',o,n,z,es,abw _ h4,h⟩
 | .g _::r,p,h=>by
  obtain⟨k,l',o,n,z,es,h4,h⟩:=mo (l:=r) h;exact⟨k,l',o,n,z,es,abw _ h4,h⟩
 | .t k::r,p,h=>by
  have sup:∀ q,q∈BW s r→q∈BW s (.t k::r):=fun q hq=>by
    unfold BW;split
    · exact abw _ hq
    · split
      · exact abw _ hq
      · exact hq
    · exact hq
  have more:p∈CO s r→∃ k' l' o n z es,AE.t k'∈ .t k::r∧p=(.slot k',.d (.sl ((es.drop o).take n)))∧s (.slot k')=some (.bor l' o n)∧s l'=some (.own false z es)∧(l',V.d (.sl es))∈BW s (.t k::r):=fun h=>by
    obtain⟨k,l',o,n,z,es,h4,h1,h2,h3,h5⟩:=mo (l:=r) h;exact⟨k,l',o,n,z,es,abw _ h4,h1,h2,h3,sup _ h5⟩
  unfold CO at h;split at h
  · rename_i l o n hk
    split at h
    · rename_i z es hl
      rcases abr.1 h with e|h
      · exact⟨k,l,o,n,z,es,List.mem_cons_self,e,hk,hl,by unfold BW;rw[hk];simp only[hl];exact List.mem_cons_self⟩
      · exact more h
    · exact more h
  · exact more h
theorem Rel.SF:∀ (u:List (Loc×V)) {s:Get} {x:Cx},Rel cfg x N s a w→(∀ p∈u,∃ es,p.2= .d (.sl es)∧(s p.1=some (.d (.sl es))∨∃ nw z,s p.1=some (.own nw z es)))→∃ x',Rel cfg x' N (AN s u) a w∧Fr dep x x' w w∧
  (∀ b,x.ow b=none→x'.ow b=none)∧x'.ad=x.ad∧(∀ p∈u,(∃ nw z es,s p.1=some (.own nw z es))→∀ b o L C,Aa x a w p.1=some (.slice (some (ad3 b o)) L C)→x'.ow b=none)
 | [],s,x,R,_=>⟨x,R,.refl _ _ _,fun _ h=>h,rfl,fun _ h=>by cases h⟩
 | (l,v)::u,s,x,R,h=>by
  obtain⟨es,hv,hl⟩:=h (l,v) List.mem_cons_self;simp only at hv hl;subst hv;have hrest2:∀ p∈u,∃ es',p.2= .d (.sl es')∧(AN s [(l,.d (.sl es))] p.1=some (.d (.sl es'))∨∃ nw z,AN s [(l,.d (.sl es))] p.1=some (.own nw z es')):=fun p hp=>by
    obtain⟨es',h1,h2⟩:=h p (abw _ hp);refine⟨es',h1,?_⟩;by_cases e:p.1=l
    · rw[b6,if_pos e]
      rw[e] at h2;have:es'=es:=by
        rcases hl with hl|⟨nw,z,hl⟩<;>rcases h2 with h2|⟨nw',z',h2⟩<;>rw[hl] at h2<;>cases h2<;>rfl
      rw[this];exact .inl rfl
    · rw[b6,if_neg e]
      exact h2
  rcases hl with hl|⟨nw,z,hl⟩
  · have R1:Rel cfg x N (AN s [(l,.d (.sl es))]) a w:=R.congr fun l'=>by
      rw[b6];split
      · rename_i e;rw[e,hl]
      · rfl
    obtain⟨x2,R2,F2,g1,g2,g3⟩:=Rel.SF u R1 hrest2;refine⟨x2,R2,F2,g1,g2,fun p hp hown=> ?_⟩
    have hpl:p.1≠l:=fun e=>by obtain⟨_,_,_,h1⟩:=hown;rw[e,hl] at h1;cases h1
    rcases abr.1 hp with rfl|hp
    · exact absurd rfl hpl
    · exact g3 p hp (by rw[b6,if_neg hpl];exact hown)
  · obtain⟨b,h1,⟨o0,L0,C0,hb0⟩,R1⟩:=R.release hl
    obtain⟨x2,R2,F2,g1,g2,g3⟩:=Rel.SF u R1 hrest2;have hnone:∀ b',x.ow b'=none→(x.AX b none).ow b'=none:=fun b' hb'=>by
      by_cases e:b'=b
      · subst e;exact Cx.Eb _ _ _
      · rw[Cx.AR _ _ e];exact hb'
    have hcc:Aa (x.AX b none) a w=Aa x a w:=by funext q;cases q<;>rfl
    refine⟨x2,R2,(Fr.AX h1 _).trans F2,fun b' hb'=>g1 b' (hnone b' hb'),g2,fun p hp hown b' o L C hcv=> ?_⟩
    by_cases hpl:p.1=l
    · rw[hpl,hb0] at hcv
      cases hcv;exact g1 _ (Cx.Eb _ _ _)
    · rcases abr.1 hp with rfl|hp
      · exact absurd rfl hpl
      · exact g3 p hp (by rw[b6,if_neg hpl];exact hown) b' o L C (by rw[hcc];exact hcv)
theorem Rel.eR {s:Get} (R:Rel cfg x N s a w) {k:Nat} (hk:k<N) {y:D} (hy:Rd (AK x) w (a.tmps.getD k undef) y):Rel cfg x N (AN s [(.slot k,.d y)]) a w:=by
 have:=R.put hk (v:=a.tmps.getD k undef) (y:= .d y) rfl (l:=none) (.d _ _ _ hy);have e:a.put (some k) (a.tmps.getD k undef)=a:=by
  simp only[Act.put]
  congr 1
  rw[Array.getD_eq_getD_getElem?];apply Array.ext_getElem?;intro i;by_cases h:k=i
  · subst h
    by_cases hlt:k<a.tmps.size
    · simp[hlt]
    · simp[hlt]
  · simp[Array.getElem?_setIfInBounds,h]
 rwa [e] at this
theorem Rel.WV:∀ (u:List (Loc×V)) {s:Get},Rel cfg x N s a w→(∀ p∈u,∃ k y,p=(.slot k,.d y)∧k<N∧Rd (AK x) w (a.tmps.getD k undef) y)→Rel cfg x N (AN s u) a w
 | [],s,R,_=>R
 | p::u,s,R,h=>by
  obtain⟨k,y,rfl,hk,hy⟩:=h p List.mem_cons_self;exact Rel.WV u (R.eR hk hy) (fun p hp=>h p (abw _ hp))
theorem Rel.Sr {s:Get} {x:Cx} (R:Rel cfg x N s a w) (l:List AE):∃ x',Rel cfg x' N (AN s (giveUp s l)) a w∧Fr dep x x' w w:=by
 obtain⟨x1,R1,F1,g1,g2,g3⟩:=Rel.SF (dep:=dep) (BW s l) R fun p hp=>by
  obtain⟨k,nw,z,es,_,h1,h2,_⟩:=mp hp;exact⟨es,h2,.inr ⟨nw,z,h1⟩⟩
 refine⟨x1,?_,F1⟩;unfold giveUp;rw[dj];refine Rel.WV _ R1 fun p hp=> ?_
 obtain⟨k,l',o,n,z,es,_,rfl,h1,h2,h3⟩:=mo hp;obtain⟨u,hu,hr⟩:=R.Bj _ _ h1;simp only[Aa,Option.some.injEq] at hu;subst hu;obtain⟨b,o',cap',hv,⟨o2,L2,C2,hcv⟩,hle,hcap,hA⟩:=R.bD hr h2;have hb1:=g3 (l',V.d (.sl es)) h3 ⟨false,z,es,h2⟩ b o2 L2 C2 hcv;refine⟨k,_,rfl,R.CD _ _ h1,?_⟩;rw[hv];exact(hA.mono (fun b o u h1 h2=>⟨g1 b h1,h2⟩) (fun _ _ h=>h) (fun _ _ _ h=>h)).rd hb1 (by simp;omega) hcap
theorem YE (hI:aag P cfg) (R:Rel cfg x N s a w) {o:Oper} {own:Bool} {io:IOp} (hop:cOp P own o.op=some io) (hk:∀ k,o.dst=some k→k<N) (hds:o.dst=none→io.Dr=true)
   {u:List (Loc×V)} (hu:Ft cfg dep s o.dst io=some u):BE P cfg x N dep (AN s u) a w o:=by
 unfold Ft at hu;split at hu
 · rw[aa6] at hu
   obtain⟨u1,h1,h2⟩:=hu;subst h2;obtain⟨x1,R1,F1⟩:=R.Sr (dep:=dep) (HN io);obtain⟨v,w',x',g1,g2,g3⟩:=Ut hI R1 hop hk hds h1;rw[dj];exact⟨v,w',x',g1,g2,F1.trans g3⟩
 · exact Ut hI R hop hk hds hu
theorem aaq {orc:Orc} (hC:CF P cfg) (hO:CE P cfg orc) (R:Rel cfg x N s a w) {ops:Array Oper} {o:Oper} {io:AV} (hc:EX P N ops o io) (hg:A5 s io.guard=some true) {u:List (Loc×V)} (hu:Ag cfg orc dep s io=some u):
   D8 P cfg x N dep (AN s u) a w o:=by
 unfold Ag at hu;rw[hg] at hu;simp only at hu;obtain⟨own0,gv,hop⟩:=hc.op;have hopS:io.op≠ .bad→(∀ own f args i,io.op≠ .A9 own f args i)→cOp P own0 o.op=some io.op:=fun h hg'=>by
   have hop:=be0 hop hg';cases hq:cOp P own0 o.op with
   |none=>rw[hq] at hop;exact absurd hop.symm h
   |some q=>rw[hq] at hop;exact congrArg some hop
 split at hu
 · cases hu
 · rename_i hds
   split at hu
   · rename_i hcall
     have hop':=hopS (fun e=>by rw[e] at hcall;simp[BA] at hcall) (fun _ _ _ _ e=>by rw[e] at hcall;simp[BA] at hcall)
     have hst:io.op.Dr=false:=by cases h:io.op<;>rw[h] at hcall<;>first|rfl|simp[BA] at hcall
     have hd:∃ k,o.dst=some k:=by
       rw[hst,hc.dst] at hds;cases h:o.dst with
       |none=>simp[h] at hds
       |some k=>exact⟨k,rfl⟩
     obtain⟨k,hd⟩:=hd;have hk:=hc.lt k hd;split at hu
     · rename_i p hclip
       simp only[abj] at hu;obtain⟨y,hy,hu⟩:=hu;unfold B9 at hclip;split at hclip
       · rename_i own f p' hio
         split at hclip
         · rename_i hf
           cases hclip;rw[hio] at hop'
           obtain⟨c,ho,hcal,his⟩:=btc hop';rw[hc.dst,hd] at hu;exact Uy hC.clip R hf hd hk hcal ho his hy hu
         · cases hclip
       · cases hclip
     · split at hu
       · rename_i own f vs ht
         obtain⟨args,h1,h2⟩:=ql hC.R7 R hop' hcall ht;rw[hc.dst] at hu;split at hu
         · rename_i u' hcu
           cases hu;exact aas hO R hd hk h1 (by simpa using h2.1) (fun i v y e1 e2=>h2.2 i v y (by simpa using e1) e2) hcu
         · unfold Ck at hu
           split at hu
           · rename_i C4 f' args' hio
             have hu:CU cfg orc s o.dst C4 f' args'=some u:=by
              split at hu
              · split at hu
                · exact hu
                · cases hu
              · cases hu
             unfold CU at hu;simp only[abj,aa6] at hu;obtain⟨vs',hvs',u',hu',rfl⟩:=hu;obtain⟨x',R',F'⟩:=R.Sr (dep:=dep) args';have ht':target cfg (AN s (giveUp s args')) io.op=some (C4,f',vs'):=by rw[hio];simp only[target,hvs',Option.map_some]
             obtain⟨args2,k1,k2⟩:=ql hC.R7 R' hop' hcall ht';rw[dj];exact(aas hO R' hd hk k1 (by simpa using k2.1) (fun i v y e1 e2=>k2.2 i v y (by simpa using e1) e2) hu').pre F'
           · cases hu
       · cases hu
   · unfold Dh at hu
     split at hu
     · rename_i own f args i hio
       rw[hio] at hop;obtain⟨c,ho,hcal,his⟩:=btc (gOp_g hop);rw[hc.dst] at hu hds;rw[hio] at hds;have hd:∃ k,o.dst=some k:=by
         cases h:o.dst with
         |none=>simp[h,IOp.Dr] at hds
         |some k=>exact⟨k,rfl⟩
       obtain⟨k,hd⟩:=hd;exact bhq hO R hd (hc.lt k hd) ho hcal his hu
     · rename_i hng
       by_cases hbad:io.op= .bad
       · rw[hbad] at hu;cases hu
       · rw[hc.dst] at hu hds
         refine(YE hC.HF R (hopS hbad hng) hc.lt (fun h=> ?_) hu).walks
         rw[h] at hds;simpa using hds
theorem aar {orc:Orc} (hC:CF P cfg) (hO:CE P cfg orc) {st st':St} (R:Rel cfg x N st.get a w) {ops:Array Oper} {o:Oper} {io:AV} (hc:EX P N ops o io) (hu:BL cfg orc dep st io=some st'):
   A5 st.get io.guard=some true∧D8 P cfg x N dep st'.get a w o:=by
 unfold BL at hu;split at hu
 · rename_i hg
   refine⟨hg,?_⟩;split at hu
   · rename_i hq
     simp only[abe] at hq;obtain⟨⟨hds,hcall⟩,_⟩:=hq;obtain⟨own0,gv,hop⟩:=hc.op;have hop:=be0 hop (fun _ _ _ _ e=>by rw[e] at hcall;simp[BA] at hcall)
     have hop':cOp P own0 o.op=some io.op:=by
       cases hq:cOp P own0 o.op with
       |none=>rw[hq] at hop;rw[← hop] at hcall;simp[BA] at hcall
       |some q=>rw[hq] at hop;exact congrArg some hop
     rw[hc.dst] at hds;obtain⟨k,hd⟩:=abq.1 hds;split at hu
     · rename_i own f vs ht
       obtain⟨args,h1,h2⟩:=ql hC.R7 R hop' hcall ht;rw[hc.dst] at hu;exact bhp hO R hd (hc.lt k hd) h1 (by simpa using h2.1) (fun i v y e1 e2=>h2.2 i v y (by simpa using e1) e2) hu
     · cases hu
   · cases hu
 · cases hu
theorem bhf {orc:Orc} (hC:CF P cfg) (hO:CE P cfg orc) {st st':St} (R:Rel cfg x N st.get a w) {ops:Array Oper} {o:Oper} {io:AV} (hc:EX P N ops o io) (hu:CQ cfg orc dep st io=some st')
   {next:Act→World→Prop} {Q:Exit→Act→World→Prop} (hn:∀ v w' x',Rel cfg x' N st'.get (a.put o.dst v) w'→Fr dep x x' w w'→next (a.put o.dst v) w'):
   (Region.wanted o (yielded ops a.tmps)=true∧o.wp P a w next Q)∨(Region.wanted o (yielded ops a.tmps)=false∧next (a.put o.dst undef) w):=by
 unfold CQ at hu;split at hu
 · rename_i u hsu
   cases hu;rw[i7] at hn;cases hg:A5 st.get io.guard with
   |none=>unfold Ag at hsu;rw[hg] at hsu;cases hsu
   | some t=>
    cases t
    · refine .inr ⟨eh R hc hg,?_⟩
      unfold Ag at hsu;rw[hg] at hsu;cases hsu;refine hn undef w x ?_ (.refl _ _ _);rw[hc.dst];cases hd:o.dst with
      |none=>exact R
      |some k=>exact R.put (hc.lt k hd) rfl (l:=none) (.d _ _ _ (awd _ _))
    · exact .inl ⟨eh R hc hg,aaq hC hO R hc hg hsu next Q hn⟩
 · obtain⟨hg,hw⟩:=aar hC hO R hc hu
   exact .inl ⟨eh R hc hg,hw next Q hn⟩
theorem av7 {orc:Orc} (hC:CF P cfg) (hO:CE P cfg orc) {ops:Array Oper} {Q:Exit→Act→World→Prop}:∀ (l:List AV) (i:Nat) (x:Cx) (a:Act) (w:World) (st st':St),Rel cfg x N st.get a w→
  (∀ j io,l[j]? =some io→∃ o,ops[i+j]? =some o∧EX P N ops o io)→CR cfg orc dep l st=some st'→
  (∀ a' w' x',Rel cfg x' N st'.get a' w'→Fr dep x x' w w'→Q .normal a' w')→wpOps P ops Q (List.range' i l.length) a w
 | [],i,x,a,w,st,st',R,_,h,hQ=>by
  cases h;exact hQ a w x R (.refl _ _ _)
 | io::l,i,x,a,w,st,st',R,hl,h,hQ=>by
  obtain⟨o,ho,hc⟩:=hl 0 io rfl;unfold CR at h;split at h
  · rename_i st1 hst
    have hrest:∀ v w' x',Rel cfg x' N st1.get (a.put o.dst v) w'→Fr dep x x' w w'→wpOps P ops Q (List.range' (i+1) l.length) (a.put o.dst v) w':=fun v w' x' R' F=>
      av7 hC hO l (i+1) x' _ w' st1 st' R' (fun j io' hj=>by
       obtain⟨o',h1,h2⟩:=hl (j+1) io' (by simpa using hj)
       exact⟨o',by rw[show i+1+j=i+(j+1) by omega];exact h1,h2⟩) h (fun a' w'' x'' R'' F'=>hQ a' w'' x'' R'' (F.trans F'))
    rw[List.length_cons,List.range'_succ];simp only[Nat.add_zero] at ho;unfold wpOps;rw[ho];simp only;rcases bhf hC hO R hc hst (Q:=Q) hrest with⟨h1,h2⟩|⟨h1,h2⟩
    · rw[if_pos h1];exact .inl h2
    · rw[if_neg (by rw[h1];simp)];exact h2
  · cases h
end
end Go.Ev
namespace Go.Ev
open Go
section
variable {cfg:Cfg} {dep n:Nat} {s s':Get}
theorem ap {x:AE} (h:∀ l∈ac s n x,s' l=s l):val cfg s' x=val cfg s x:=by
 cases x with
 |t k=>exact h (.slot k) (by simp[ac])
 |c d=>rfl
 |g k=>rfl
theorem sf {x:AE} {l:Loc} {o m:Nat} (h:val cfg s x=some (.bor l o m)):l∈ac s n x:=by
 cases x with
 | t k=>
  have h':s (.slot k)=some (.bor l o m):=h;simp[ac,h']
 |c d=>simp[val] at h
 |g k=>simp[val] at h
theorem btn {x:AE} {l:Loc} {o m:Nat} (h:val cfg s x=some (.Az l o m)):l∈ac s n x:=by
 cases x with
 | t k=>
  have h':s (.slot k)=some (.Az l o m):=h;simp[ac,h']
 |c d=>simp[val] at h
 |g k=>simp[val] at h
theorem bhh:∀ (n d k off:Nat) (j:Nat),j<n→Loc.cell ⟨d,k,off+j⟩∈jj d k off n
 |n+1,d,k,off,0,_=>by simp[jj]
 | n+1,d,k,off,j+1,h=>by
  have:=bhh n d k (off+1) j aa1;rw[show off+1+j=off+(j+1) by omega] at this
  simp[jj,this]
theorem U4 {x:AE} {d k off:Nat} (h:val cfg s x=some (.ref d k off)):∀ j,j<n→Loc.cell ⟨d,k,off+j⟩∈ac s n x:=by
 intro j hj;cases x with
 | t k'=>
  have h':s (.slot k')=some (.ref d k off):=h;simp only[ac,h'];exact abw _ (bhh n d k off j hj)
 |c d=>simp[val] at h
 |g k=>simp[val] at h
theorem kj {x:AE} (h:∀ l∈ac s n x,s' l=s l):dat cfg s' x=dat cfg s x:=by unfold dat;rw[ap h]
theorem bfh {x:AE} {v:V} (hv:val cfg s x=some v) (h:∀ l∈ac s n x,s' l=s l):cont s' v=cont s v:=by
 cases v with
 |bor l o m=>simp only[cont];rw[h l (sf hv)]
 |d y=>cases y<;>rfl
 |_=>rfl
theorem Xf {x:AE} {v:V} (hv:val cfg s x=some v) (h:∀ l∈ac s n x,s' l=s l):Dy s' v=Dy s v:=by
 cases v with
 |bor l o m=>simp only[Dy];rw[h l (sf hv)]
 |Ax e o=>cases o<;>rfl
 |_=>rfl
theorem awa {x:AE} (h:∀ l∈ac s n x,s' l=s l):(val cfg s' x).bind (cont s')=(val cfg s x).bind (cont s):=by
 rw[ap h];cases hv:val cfg s x with
 |none=>rfl
 |some v=>simp only[Option.bind_some];exact bfh hv h
theorem bff:∀ {xs:List AE},(∀ l∈xs.flatMap (ac s n),s' l=s l)→Ef cfg s' xs=Ef cfg s xs
 | [],_=>rfl
 | x::xs,h=>by
  simp only[Ef];rw[kj (n:=n) (x:=x) (fun l hl=>h l (by simp[hl])),bff (fun l hl=>h l (by
   rw[List.flatMap_cons];exact acn _ hl))]
theorem ka:∀ {xs:List AE},(∀ l∈xs.flatMap (ac s n),s' l=s l)→BK cfg s' xs=BK cfg s xs
 | [],_=>rfl
 | x::xs,h=>by
  simp only[BK];rw[ap (n:=n) (x:=x) (fun l hl=>h l (by simp[hl])),ka (fun l hl=>h l (by
   rw[List.flatMap_cons];exact acn _ hl))]
theorem wx:∀ {ps:List (Nat×AE)},(∀ l∈(ps.map fun p=>p.2).flatMap (ac s n),s' l=s l)→iu cfg s' ps=iu cfg s ps
 | [],_=>rfl
 | (i,x)::xs,h=>by
  simp only[iu];rw[kj (n:=n) (x:=x) (fun l hl=>h l (by simp[hl])),wx (fun l hl=>h l (by
   rw[List.map_cons,List.flatMap_cons];exact acn _ hl))]
theorem wo:∀ {ps:List (Nat×AE)} {i:Nat},(∀ l∈(ps.map fun p=>p.2).flatMap (ac s n),s' l=s l)→ku cfg s' i ps=ku cfg s i ps
 | [],_,_=>rfl
 | (j,x)::xs,i,h=>by
  simp only[ku];rw[ap (n:=n) (x:=x) (fun l hl=>h l (by simp[hl])),wo (ps:=xs) (fun l hl=>h l (by
   rw[List.map_cons,List.flatMap_cons];exact acn _ hl))]
theorem ww:∀ {ps:List (Nat×Nat×AE)},(∀ l∈(ps.map fun p=>p.2.2).flatMap (ac s n),s' l=s l)→fe cfg s' ps=fe cfg s ps
 | [],_=>rfl
 | (i,j,x)::xs,h=>by
  simp only[fe];rw[kj (n:=n) (x:=x) (fun l hl=>h l (by simp[hl])),ww (fun l hl=>h l (by
   rw[List.map_cons,List.flatMap_cons];exact acn _ hl))]
theorem xj:∀ (m d k off:Nat),(∀ j,j<m→s' (.cell ⟨d,k,off+j⟩)=s (.cell ⟨d,k,off+j⟩))→ez s' d k off m=ez s d k off m
 |0,_,_,_,_=>rfl
 | m+1,d,k,off,h=>by
  have h0:=h 0 aa1;simp only[Nat.add_zero] at h0;have ih:=xj m d k (off+1) (fun j hj=>by
   have:=h (j+1) aa1
   rwa [show off+(j+1)=off+1+j by omega] at this)
  simp only[ez,h0,ih]
theorem apj:∀ (m d k off:Nat),(∀ j,j<m→s' (.cell ⟨d,k,off+j⟩)=s (.cell ⟨d,k,off+j⟩))→alive s' d k off m=alive s d k off m
 |0,_,_,_,_=>rfl
 | m+1,d,k,off,h=>by
  have h0:=h 0 aa1;simp only[Nat.add_zero] at h0;have ih:=apj m d k (off+1) (fun j hj=>by
   have:=h (j+1) aa1
   rwa [show off+(j+1)=off+1+j by omega] at this)
  simp only[alive,h0,ih]
theorem bs5 {x:AE} {v:V} (dst:Option Nat) (hv:val cfg s x=some v) (h:∀ l∈ac s n x,s' l=s l):Di s' dst x v=Di s dst x v:=by
 cases v with
 |bor l o m=>cases x<;>simp only[Di]<;>rw[h l (sf hv)]
 |d y=>cases y<;>cases x<;>rfl
 |own nw z0 es0=>cases nw<;>cases x<;>rfl
 |_=>cases x<;>rfl
theorem bgu {x:AE} {v:V} (dst z:Option Nat) (hn:n=z.getD 1) (hv:val cfg s x=some v) (h:∀ l∈ac s n x,s' l=s l):j6 s' dst z v=j6 s dst z v:=by
 cases v with
 |Az l i o=>simp only[j6];rw[h l (btn hv)]
 | ref d k off=>
  have hr:=fun j hj=>h _ (U4 (n:=n) hv j hj)
  cases z with
  | none=>
   have:=hr 0 (by rw[hn];decide)
   simp only[Nat.add_zero] at this;simp only[j6,this]
  | some m=>
   simp only[Option.getD_some] at hn;subst hn;simp only[j6,xj n d k off hr]
 |d y=>cases y<;>rfl
 |_=>rfl
theorem avn {p x:AE} {va v:V} (hp:val cfg s p=some va) (hv:val cfg s x=some v) (h:∀ l∈ac s n p,s' l=s l) (h':∀ l∈ac s n x,s' l=s l):dr s' n va x v=dr s n va x v:=by
 cases va with
 |Az l i o=>simp only[dr];rw[h l (btn hp)]
 | ref d k off=>
  have hr:=fun j hj=>h _ (U4 (n:=n) hp j hj)
  simp only[dr,apj n d k off hr];cases v with
  |bor l o m=>cases x<;>simp only[]<;>rw[h' l (sf hv)]
  |d y=>cases y<;>cases x<;>rfl
  |own nw z0 es0=>cases nw<;>cases x<;>rfl
  |_=>cases x<;>rfl
 |d y=>cases y<;>rfl
 |_=>rfl
theorem tm {lo hi:Option AE} (len:Nat) (h:∀ l∈(lo.toList++hi.toList).flatMap (ac s n),s' l=s l):cm cfg s' len lo hi=cm cfg s len lo hi:=by
 have hlo:∀ x,lo=some x→dat cfg s' x=dat cfg s x:=fun x e=>kj (n:=n) (fun l hl=>h l (by subst e;simp[hl]))
 have hhi:∀ x,hi=some x→dat cfg s' x=dat cfg s x:=fun x e=>kj (n:=n) (fun l hl=>h l (by subst e;simp[hl]))
 cases lo<;>cases hi<;>simp only[cm]
 · rw[hhi _ rfl]
 · rw[hlo _ rfl]
 · rw[hlo _ rfl,hhi _ rfl]
theorem bha {mx:Option AE} (len:Nat) (h:∀ l∈mx.toList.flatMap (ac s n),s' l=s l):E3 cfg s' len mx=E3 cfg s len mx:=by
 cases mx with
 |none=>rfl
 |some x=>simp only[E3];rw[kj (n:=n) (fun l hl=>h l (by simp[hl]))]
theorem avo {x:AE} {v:V} {lo hi mx:Option AE} (dst:Option Nat) (z:Nat) (hv:val cfg s x=some v) (h:∀ l∈ac s n x,s' l=s l) (h':∀ l∈(lo.toList++hi.toList).flatMap (ac s n),s' l=s l)
  (h'':∀ l∈mx.toList.flatMap (ac s n),s' l=s l):ki cfg s' dst z x v lo hi mx=ki cfg s dst z x v lo hi mx:=by
 unfold ki;rw[bfh hv h];cases cont s v with
 |none=>rfl
 | some es=>
  simp only[bha es.length h''];cases E3 cfg s es.length mx with
  |none=>rfl
  | some top=>
   simp only[tm top h'];cases cm cfg s top lo hi with
   |none=>rfl
   | some lh=>
    simp only;cases v with
    |bor l o m=>cases x<;>simp only[]<;>rw[h l (sf hv)]
    |d y=>cases y<;>cases x<;>rfl
    |own nw z0 es0=>cases nw<;>cases x<;>rfl
    |_=>cases x<;>rfl
theorem bs2 {x:AE} {v:V} (dst:Option Nat) (z:Nat) (j:Int) (hv:val cfg s x=some v) (h:∀ l∈ac s n x,s' l=s l):C7 s' dst z x v j=C7 s dst z x v j:=by
 unfold C7;cases v with
 |bor l o m=>cases x<;>simp only[]<;>rw[h l (sf hv)]
 |d y=>cases y<;>cases x<;>rfl
 |own nw z0 es0=>cases nw<;>cases x<;>rfl
 |_=>cases x<;>rfl
theorem ao7 {x:AE} {v:V} (dst:Option Nat) (z b:Nat) (ys:List D) (hv:val cfg s x=some v) (h:∀ l∈ac s n x,s' l=s l):g7 s' dst z b x v ys=g7 s dst z b x v ys:=by
 unfold g7;cases v with
 |bor l o m=>cases x<;>simp only[]<;>rw[h l (sf hv)]
 |d y=>cases y<;>cases x<;>rfl
 |own nw z0 es0=>cases nw<;>cases x<;>rfl
 |_=>cases x<;>rfl
end
end Go.Ev
namespace Go.Ev
open Go
section
variable {cfg:Cfg} {dep:Nat} {s s':Get}
theorem be8 {dst:Option Nat} {io:IOp} (h:∀ l∈io.operands.flatMap (ac s io.span),s' l=s l)
  (hb:∀ k,dst=some k→(∀ zs,io= .alloc zs→s' (.cell ⟨dep,k,0⟩)=s (.cell ⟨dep,k,0⟩))∧(∀ n x,io= .box n x→s' (.cell ⟨dep,k,0⟩)=s (.cell ⟨dep,k,0⟩))):
  At cfg dep s' dst io=At cfg dep s dst io:=by
 have h1:∀ x,io.operands=[x]→∀ l∈ac s io.span x,s' l=s l:=fun x e l hl=>h l (by rw[e];simpa using hl)
 have h2:∀ x y,io.operands=[x,y]→(∀ l∈ac s io.span x,s' l=s l)∧∀ l∈ac s io.span y,s' l=s l:=fun x y e=>⟨fun l hl=>h l (by rw[e];simp[hl]),fun l hl=>h l (by rw[e];simp[hl])⟩
 cases io with
 |mv x=>simp only[At];rw[ap (h1 x rfl)]
 | asg x=>
  simp only[At];rw[ap (h1 x rfl)];cases hv:val cfg s x with
  |none=>rfl
  |some v=>simp only[Option.bind_some];exact bs5 dst hv (h1 x rfl)
 | pick c a b=>
  have hc:∀ l∈ac s 0 c,s' l=s l:=fun l hl=>h l (by simp[IOp.operands];exact .inl hl)
  have ha:∀ l∈ac s 0 a,s' l=s l:=fun l hl=>h l (by simp[IOp.operands];exact .inr (.inl hl))
  have hb':∀ l∈ac s 0 b,s' l=s l:=fun l hl=>h l (by simp[IOp.operands];exact .inr (.inr hl))
  simp only[At];rw[ap hc];cases hv:val cfg s c with
  |none=>rfl
  | some v=>
   cases v with
   | d y=>
     cases y with
     | bool t=>
      have e:val cfg s' (if t=true then a else b)=val cfg s (if t=true then a else b):=by
       cases t
       · exact ap hb'
       · exact ap ha
      simp only[e]
     |_=>rfl
   |_=>rfl
 | alloc zs=>
  cases dst with
  |none=>rfl
  |some k=>simp only[At];rw[(hb k rfl).1 zs rfl]
 | box n x=>
  cases dst with
  |none=>rfl
  | some k=>
   simp only[At];rw[ap (h1 x rfl)];cases hv:val cfg s x with
   |none=>rfl
   |some v=>simp only[HJ];rw[(hb k rfl).2 n x rfl]
 |build zs ps=>simp only[At];rw[ww h]
 |XU n ps=>rfl
 |lit own z n zd ps=>simp only[At,IU];rw[wx h,wo h]
 | load z a=>
  simp only[At];rw[ap (h1 a rfl)];cases hv:val cfg s a with
  |none=>rfl
  |some v=>simp only[Option.bind_some];exact bgu dst z rfl hv (h1 a rfl)
 | store n a x=>
  obtain⟨ha,hx⟩:=h2 a x rfl;simp only[At];rw[ap ha,ap hx];cases hva:val cfg s a with
  |none=>rfl
  | some va=>
   cases hvx:val cfg s x with
   |none=>rfl
   |some vx=>simp only;rw[show dr s' n va x vx=dr s n va x vx from avn hva hvx ha hx]
 |GU x=>simp only[At];rw[ap (h1 x rfl)]
 |bin op x y=>obtain⟨ha,hx⟩:=h2 x y rfl;simp only[At];rw[ap ha,ap hx]
 |eqn neg c x y=>obtain⟨ha,hx⟩:=h2 x y rfl;simp only[At];rw[ap ha,ap hx]
 |isNil neg x=>simp only[At];rw[ap (h1 x rfl)]
 |un op x=>simp only[At];rw[ap (h1 x rfl)]
 |Aj k x=>simp only[At];rw[ap (h1 x rfl)]
 |dI x=>rfl
 |b2s x=>simp only[At];rw[awa (h1 x rfl)]
 |s2b own x=>simp only[At];rw[ap (h1 x rfl)]
 |cvB own x=>simp only[At];rw[ap (h1 x rfl)]
 |mkI t x=>rfl
 | mkF f a b=>
  have ha:∀ l∈a.flatMap (ac s 0),s' l=s l:=fun l hl=>h l (by simp only[IOp.operands,List.flatMap_append];exact List.mem_append_left _ hl)
  have hb':∀ l∈b.flatMap (ac s 0),s' l=s l:=fun l hl=>h l (by simp only[IOp.operands,List.flatMap_append];exact acn _ hl)
  simp only[At];rw[ka ha,ka hb']
 |mkS z b zd l c=>rfl
 | slice z x lo hi mx=>
  have hx:∀ l∈ac s 0 x,s' l=s l:=fun l hl=>h l (by simp[IOp.operands];exact .inl hl)
  have hlh:∀ l∈(lo.toList++hi.toList).flatMap (ac s 0),s' l=s l:=fun l hl=>h l (by
   simp only[IOp.operands,List.flatMap_append] at hl ⊢;simp only[ab1] at hl ⊢;rcases hl with hl|hl
   · exact .inl (.inl (.inr hl))
   · exact .inl (.inr hl))
  have hm:∀ l∈mx.toList.flatMap (ac s 0),s' l=s l:=fun l hl=>h l (by
   simp only[IOp.operands,List.flatMap_append];exact acn _ hl)
  simp only[At];rw[ap hx];cases hv:val cfg s x with
  |none=>rfl
  |some v=>simp only[Option.bind_some];exact avo dst z hv hx hlh hm
 | CK x lo hi=>
  have hx:∀ l∈ac s 0 x,s' l=s l:=fun l hl=>h l (by simp[IOp.operands];exact .inl hl)
  have hlh:∀ l∈(lo.toList++hi.toList).flatMap (ac s 0),s' l=s l:=fun l hl=>h l (by
   simp only[IOp.operands,List.flatMap_append] at hl ⊢;simp only[ab1] at hl ⊢;rcases hl with hl|hl
   · exact .inl (.inr hl)
   · exact .inr hl)
  simp only[At];rw[ap hx];cases hv:val cfg s x with
  |none=>rfl
  | some v=>
   cases v with
   | d y=>
     cases y with
     |str b=>simp only;rw[tm b.length hlh]
     |_=>rfl
   |_=>rfl
 |AH off x=>simp only[At];rw[ap (h1 x rfl)]
 |field off z x=>simp only[At];rw[ap (h1 x rfl)]
 | C6 z x i=>
  obtain⟨ha,hx⟩:=h2 x i rfl;simp only[At];rw[ap ha,kj hx];cases hv:val cfg s x with
  |none=>rfl
  | some v=>
   cases(dat cfg s i).bind D.toInt? with
   |none=>rfl
   |some j=>simp only;exact bs2 dst z j hv ha
 |GZ x i=>obtain⟨ha,hx⟩:=h2 x i rfl;simp only[At];rw[ap ha,kj hx]
 |idxC n z g x i=>rfl
 |G1 n z x i=>obtain⟨ha,hx⟩:=h2 x i rfl;simp only[At];rw[ap ha,kj hx]
 |ext x i=>simp only[At];rw[ap (h1 x rfl)]
 |len isS x=>cases isS<;>simp only[At]<;>rw[ap (h1 x rfl)]
 |DT mx xs=>simp only[At];rw[show Ef cfg s' xs=Ef cfg s xs from bff (n:=0) h]
 | append z b x y=>
  obtain⟨ha,hx⟩:=h2 x y rfl;simp only[At];rw[ap ha,awa hx];cases hv:val cfg s x with
  |none=>rfl
  | some v=>
   cases(val cfg s y).bind (cont s) with
   |none=>rfl
   |some ys=>simp only;exact ao7 dst z b ys hv ha
 |S4 x y=>rfl
 |copy z x y=>rfl
 |tass t zero ok x=>rfl
 |call own f args=>rfl
 |A9 own f args i=>rfl
 |BO own x args=>rfl
 |inv own x nm args=>rfl
 |bad=>rfl
theorem nh:∀ {vs:List V},(∀ v∈vs,Dy s' v=Dy s v)→BH s' vs=BH s vs
 | [],_=>rfl
 | v::vs,h=>by
  simp only[BH];rw[h v aa3,nh (fun u hu=>h u (by simp[hu]))]
theorem xw {v:V} (h:v.Ad=true):Dy s' v=Dy s v:=by
 cases v with
 |Ax e o=>cases o<;>rfl
 |bor l o n=>simp[V.Ad] at h
 |_=>rfl
theorem m7 {n:Nat}:∀ {xs:List AE} {vs:List V},BK cfg s xs=some vs→(∀ l∈xs.flatMap (ac s n),s' l=s l)→∀ v∈vs,Dy s' v=Dy s v
 | [],vs,hv,_,v,hm=>by cases hv;simp at hm
 | x::xs,vs,hv,h,v,hm=>by
  unfold BK at hv;split at hv
  · rename_i v' vs' h1 h2
    cases hv;rcases abr.1 hm with rfl|hm
    · exact Xf (n:=n) h1 (fun l hl=>h l (by simp[hl]))
    · exact m7 (n:=n) h2 (fun l hl=>h l (by
     rw[List.flatMap_cons];exact acn _ hl)) v hm
  · cases hv
theorem wd {io:IOp} (h:∀ l∈io.operands.flatMap (ac s io.span),s' l=s l):target cfg s' io=target cfg s io∧∀ own f vs,target cfg s io=some (own,f,vs)→BH s' vs=BH s vs:=by
 cases io with
 | call own f args=>
  refine⟨by simp only[target];rw[show BK cfg s' args=BK cfg s args from ka (n:=0) h],fun C4 f' vs ht=> ?_⟩
  simp only[target,aa6] at ht;obtain⟨vs',hv,he⟩:=ht;cases he;exact nh (m7 (n:=0) hv h)
 | BO own x args=>
  have hx:∀ l∈ac s 0 x,s' l=s l:=fun l hl=>h l (by simp[IOp.operands];exact .inl hl)
  have ha:∀ l∈args.flatMap (ac s 0),s' l=s l:=fun l hl=>h l (by
    simp only[IOp.operands,List.flatMap_cons];exact acn _ hl)
  refine⟨by simp only[target];rw[ap hx,ka ha],fun C4 f' vs ht=> ?_⟩
  simp only[target] at ht;split at ht
  · rename_i f0 vs' hv hvs
    cases ht;exact nh (m7 hvs ha)
  · rename_i f0 va vb vs' hv hvs
    split at ht
    · rename_i hq
      simp only[abe,acd] at hq;cases ht;refine nh fun v hm=> ?_
      simp only[ab1] at hm;rcases hm with(hm|hm)|hm
      · exact xw (hq.1 v hm)
      · exact m7 hvs ha v hm
      · exact xw (hq.2 v hm)
    · cases ht
  · cases ht
 |_=>exact⟨rfl,fun _ _ _ h=>by cases h⟩
theorem aow {g:Option (Nat×Bool)} (h:∀ k b,g=some (k,b)→s' (.slot k)=s (.slot k)):A5 s' g=A5 s g:=by
 cases g with
 |none=>rfl
 | some kb=>
  obtain⟨k,b⟩:=kb;simp only[A5];rw[h k b rfl]
theorem bgp {n:Nat} {x:AE} {v:V} (hv:val cfg s x=some v) (h:∀ l∈ac s n x,s' l=s l):CB s' x v=CB s x v:=by
 cases v with
 |bor l o m=>cases x<;>simp only[CB]<;>rw[h l (sf hv)]
 |d y=>cases y<;>cases x<;>rfl
 |own nw z es=>cases nw<;>cases x<;>rfl
 |_=>cases x<;>rfl
theorem jv:∀ (u:List (Loc×V)) {s s':Get} {l:Loc},s' l=s l→AN s' u l=AN s u l
 | [],_,_,_,h=>h
 | (l0,v)::r,s,s',l,h=>jv r (by show(if l=l0 then some v else s' l)=(if l=l0 then some v else s l);rw[h])
theorem avh {x:AE} {v:V} {g:List (Loc×V)×V} (h:CB s x v=some g):g.1=[]∨∃ l,g.1=[(l,.AY)]:=by
 unfold CB at h;split at h
 · cases h;exact .inl rfl
 · cases h;exact .inl rfl
 · cases h;exact .inr ⟨_,rfl⟩
 · split at h
   · split at h
     · cases h;exact .inr ⟨_,rfl⟩
     · cases h
   · cases h
 · cases h
theorem au7 {n:Nat} {u:List (Loc×V)} (hu:u=[]∨∃ l,u=[(l,.AY)]) {x:AE} {l:Loc} (h:l∈ac (AN s u) n x):l∈ac s n x:=by
 rcases hu with rfl|⟨l0,rfl⟩
 · exact h
 · cases x with
   | t k=>
    simp only[ac,AN] at h ⊢;by_cases e:Loc.slot k=l0
    · rw[if_pos e] at h
      simp at h;simp[h]
    · rw[if_neg e] at h
      exact h
   |_=>exact h
theorem btl {orc:Orc} {n:Nat} {dst:Option Nat} {own:Bool} {f:FuncId} {args:List AE} {i:Nat} (h:∀ l∈args.flatMap (ac s n),s' l=s l):Cv cfg orc s' dst own f args i=Cv cfg orc s dst own f args i:=by
 unfold Cv;cases hx:args[i]? with
 |none=>rfl
 | some x=>
  simp only[Option.bind_some];have hx':∀ l∈ac s n x,s' l=s l:=fun l hl=>h l (ab2.2 ⟨x,List.mem_of_getElem? hx,hl⟩)
  rw[ap hx'];cases hv:val cfg s x with
  |none=>rfl
  | some v=>
   simp only[Option.bind_some];rw[bgp hv hx'];cases hg:CB s x v with
   |none=>rfl
   | some g=>
    simp only[Option.bind_some];have hall:∀ l∈(args.set i (.c .AB)).flatMap (ac (AN s g.1) n),AN s' g.1 l=AN s g.1 l:=fun l hl=>by
     obtain⟨y,h1,h2⟩:=ab2.1 hl;have h3:=au7 (avh hg) h2;refine jv _ ?_;rcases acx h1 with h1|rfl
     · exact h l (ab2.2 ⟨y,h1,h3⟩)
     · simp[ac] at h3
    rw[ka hall];cases hvs:BK cfg (AN s g.1) (args.set i (.c .AB)) with
    |none=>rfl
    | some vs=>
     simp only[Option.bind_some];rw[nh (m7 hvs hall)]
theorem p4 {n:Nat}:∀ {l:List AE},(∀ q∈l.flatMap (ac s n),s' q=s q)→BW s' l=BW s l
 | [],_=>rfl
 | .c _::r,h=>p4 (l:=r) fun q hq=>h q (ab2.2 (by obtain⟨y,h1,h2⟩:=ab2.1 hq;exact⟨y,abw _ h1,h2⟩))
 | .g _::r,h=>p4 (l:=r) fun q hq=>h q (ab2.2 (by obtain⟨y,h1,h2⟩:=ab2.1 hq;exact⟨y,abw _ h1,h2⟩))
 | .t k::r,h=>by
  have ih:=p4 (l:=r) fun q hq=>h q (ab2.2 (by obtain⟨y,h1,h2⟩:=ab2.1 hq;exact⟨y,abw _ h1,h2⟩))
  have e:=h (.slot k) (ab2.2 ⟨.t k,List.mem_cons_self,by simp[ac]⟩)
  simp only[BW,ih,e];split
  · rfl
  · rename_i l _ _ hk
    rw[h l (ab2.2 ⟨.t k,List.mem_cons_self,by simp[ac,hk]⟩)]
  · rfl
theorem pz {n:Nat}:∀ {l:List AE},(∀ q∈l.flatMap (ac s n),s' q=s q)→CO s' l=CO s l
 | [],_=>rfl
 | .c _::r,h=>pz (l:=r) fun q hq=>h q (ab2.2 (by obtain⟨y,h1,h2⟩:=ab2.1 hq;exact⟨y,abw _ h1,h2⟩))
 | .g _::r,h=>pz (l:=r) fun q hq=>h q (ab2.2 (by obtain⟨y,h1,h2⟩:=ab2.1 hq;exact⟨y,abw _ h1,h2⟩))
 | .t k::r,h=>by
  have ih:=pz (l:=r) fun q hq=>h q (ab2.2 (by obtain⟨y,h1,h2⟩:=ab2.1 hq;exact⟨y,abw _ h1,h2⟩))
  have e:=h (.slot k) (ab2.2 ⟨.t k,List.mem_cons_self,by simp[ac]⟩)
  simp only[CO,ih,e];split
  · rename_i l _ _ hk
    rw[h l (ab2.2 ⟨.t k,List.mem_cons_self,by simp[ac,hk]⟩)]
  · rfl
theorem xh {n:Nat} {l:List AE} (h:∀ q∈l.flatMap (ac s n),s' q=s q):giveUp s' l=giveUp s l:=by
 unfold giveUp;rw[p4 h,pz h]
theorem bsp {s:Get} {l:List AE} {p:Loc×V} (h:p∈giveUp s l):∃ es,p.2= .d (.sl es):=by
 rcases ab1.1 h with h|h
 · obtain⟨_,_,_,es,_,_,h2,_⟩:=mp h
   exact⟨es,h2⟩
 · obtain⟨_,_,_,_,_,_,_,rfl,_⟩:=mo h
   exact⟨_,rfl⟩
theorem bgr (s:Get) (l:List AE) (q:Loc):AN s (giveUp s l) q=s q∨∃ es,AN s (giveUp s l) q=some (.d (.sl es)):=by
 have key:∀ (u:List (Loc×V)) (g:Get),(∀ p∈u,∃ es,p.2= .d (.sl es))→AN g u q=g q∨∃ es,AN g u q=some (.d (.sl es)):=by
  intro u
  induction u with
  |nil=>intro g _;exact .inl rfl
  | cons p u ih=>
   intro g hp;obtain⟨l,v⟩:=p;obtain⟨es,hv⟩:=hp (l,v) List.mem_cons_self;simp only at hv;subst hv;rw[br];rcases ih (fun l'=>if l'=l then some (.d (.sl es)) else g l') (fun p h=>hp p (abw _ h)) with h|h
   · rw[h]
     by_cases e:q=l
     · rw[if_pos e];exact .inr ⟨es,rfl⟩
     · rw[if_neg e];exact .inl rfl
   · exact .inr h
 exact key _ s fun p hp=>bsp hp
theorem rz {n:Nat} {u:List AE} {x:AE} {l:Loc} (h:l∈ac (AN s (giveUp s u)) n x):l∈ac s n x:=by
 cases x with
 | t k=>
  simp only[ac] at h ⊢;rcases bgr s u (.slot k) with e|⟨es,e⟩
  · rw[e] at h;exact h
  · rw[e] at h
    simp only[ab9] at h;rw[h];exact List.mem_cons_self
 |_=>exact h
theorem X4 {op:IOp} {x:AE} (h:x∈HN op):x∈op.operands:=by
 cases op<;>first|exact h| (simp[HN] at h)
theorem bs0 {dst:Option Nat} {io:IOp} (h:∀ l∈io.operands.flatMap (ac s io.span),s' l=s l)
   (hb:∀ k,dst=some k→(∀ zs,io= .alloc zs→s' (.cell ⟨dep,k,0⟩)=s (.cell ⟨dep,k,0⟩))∧(∀ n x,io= .box n x→s' (.cell ⟨dep,k,0⟩)=s (.cell ⟨dep,k,0⟩))):
   Ft cfg dep s' dst io=Ft cfg dep s dst io:=by
 have hg:gives cfg s' io=gives cfg s io:=by
   cases io with
   | store n a x=>
     simp only[gives];rw[ap (s:=s) (s':=s') (x:=a) (n:=n) fun l hl=>h l (ab2.2 ⟨a,by simp[IOp.operands],hl⟩)]
   |_=>rfl
 have hu:giveUp s' (HN io)=giveUp s (HN io):=xh (n:=io.span) fun q hq=>by
   obtain⟨y,h1,h2⟩:=ab2.1 hq;exact h q (ab2.2 ⟨y,X4 h1,h2⟩)
 unfold Ft;rw[hg,hu,be8 h hb];split
 · rename_i hgv
   rw[be8 (s:=AN s (giveUp s (HN io))) (s':=AN s' (giveUp s (HN io))) (fun l hl=> ?_) (fun k hk=> ?_)]
   · obtain⟨y,h1,h2⟩:=ab2.1 hl
     exact jv _ (h l (ab2.2 ⟨y,h1,rz h2⟩))
   · refine⟨fun zs e=> ?_,fun n x e=> ?_⟩
     · rw[e] at hgv;cases hgv
     · rw[e] at hgv;cases hgv
 · rfl
theorem bsz {orc:Orc} {dst:Option Nat} {io:IOp} (h:∀ l∈io.operands.flatMap (ac s io.span),s' l=s l)
   (hb:∀ k,dst=some k→(∀ zs,io= .alloc zs→s' (.cell ⟨dep,k,0⟩)=s (.cell ⟨dep,k,0⟩))∧(∀ n x,io= .box n x→s' (.cell ⟨dep,k,0⟩)=s (.cell ⟨dep,k,0⟩))):
   Dh cfg orc dep s' dst io=Dh cfg orc dep s dst io:=by
 unfold Dh;split
 · exact btl h
 · exact bs0 h hb
theorem btg {orc:Orc} {dst:Option Nat} {own:Bool} {f:FuncId} {args:List AE} {n:Nat} (h:∀ l∈args.flatMap (ac s n),s' l=s l):
  CU cfg orc s' dst own f args=CU cfg orc s dst own f args:=by
 have hu:giveUp s' args=giveUp s args:=xh (n:=n) h;have hl:∀ l∈args.flatMap (ac (AN s (giveUp s args)) n),AN s' (giveUp s args) l=AN s (giveUp s args) l:=fun l hl=>by
  obtain⟨y,h1,h2⟩:=ab2.1 hl;exact jv _ (h l (ab2.2 ⟨y,h1,rz h2⟩))
 unfold CU;rw[hu,ka hl];cases hv:BK cfg (AN s (giveUp s args)) args with
 |none=>rfl
 | some vs=>
  simp only[Option.bind_some,BZ];rw[nh (m7 hv hl)]
theorem bth {orc:Orc} {dst:Option Nat} {io:IOp} {vs:List V} (h:∀ l∈io.operands.flatMap (ac s io.span),s' l=s l) (ha:BH s' vs=BH s vs):
  Ck cfg orc s' dst io vs=Ck cfg orc s dst io vs:=by
 cases io with
 | call own f args=>
  have ht:CU cfg orc s' dst own f args=CU cfg orc s dst own f args:=btg (n:=0) h;simp only[Ck,ha,ht]
 |_=>rfl
theorem bhg {orc:Orc} {io:AV} (h:∀ l∈dl dep s io,s' l=s l):Ag cfg orc dep s' io=Ag cfg orc dep s io:=by
 have hop:∀ l∈io.op.operands.flatMap (ac s io.op.span),s' l=s l:=fun l hl=>h l (by unfold dl;exact acn _ hl)
 have hg:A5 s' io.guard=A5 s io.guard:=aow fun k b e=>h _ (by unfold dl;rw[e];simp)
 have hbox:∀ k,io.dst=some k→(∀ zs,io.op= .alloc zs→s' (.cell ⟨dep,k,0⟩)=s (.cell ⟨dep,k,0⟩))∧(∀ n x,io.op= .box n x→s' (.cell ⟨dep,k,0⟩)=s (.cell ⟨dep,k,0⟩)):=fun k hk=>
   ⟨fun zs e=>h _ (by unfold dl;rw[e,hk];simp),fun n x e=>h _ (by unfold dl;rw[e,hk];simp)⟩
 obtain⟨t1,t2⟩:=wd (cfg:=cfg) hop;unfold Ag;rw[hg,bsz hop hbox,t1];split
 · rfl
 · rfl
 · split
   · rfl
   · split
     · cases hcl:B9 cfg io.op with
       | some x=>
        simp only;have hx:val cfg s' x=val cfg s x:=by
         unfold B9 at hcl;split at hcl
         · rename_i f x' e
           split at hcl
           · cases hcl
             exact ap (n:=io.op.span) (fun l hl=>hop l (by rw[e] at hl ⊢;simpa[IOp.operands] using hl))
           · cases hcl
         · cases hcl
        rw[hx]
       | none=>
        simp only;cases ht:target cfg s io.op with
        |none=>rfl
        | some r=>
         obtain⟨own,f,vs⟩:=r;simp only[BZ];rw[t2 own f vs ht,bth hop (t2 own f vs ht)]
     · rfl
end
end Go.Ev
namespace Go.Ev
open Go
theorem sx {a b:List Loc} (h:UD a b=true) {l:Loc} (ha:l∈a) (hb:l∈b):False:=by
 simp only[UD,acd] at h;have:=h l ha;simp at this;exact this hb
def dn (u:List (Loc×V)):List Loc:=u.map (·.1)
theorem kc {u:List (Loc×V)} {s:Get} {l:Loc} (h:l ∉ dn u):AN s u l=s l:=
 qk u s fun p hp e=>h (e ▸ List.mem_map_of_mem hp)
theorem apn:∀ {u:List (Loc×V)} (s s':Get) {l:Loc},l∈dn u→AN s u l=AN s' u l
 | [],_,_,_,h=>by simp[dn] at h
 | (l0,v)::r,s,s',l,h=>by
  simp only[AN];by_cases hr:l∈dn r
  · exact apn _ _ hr
  · rw[kc hr,kc hr]
    simp only[dn,List.map_cons,abr] at h;rcases h with rfl|h
    · simp
    · exact absurd h hr
def part:List (List (Loc×V))→(Nat→Bool)→Nat→Get→Get
 | [],_,_,s=>s
 |u::us,d,i,s=>part us d (i+1) (if d i then AN s u else s)
theorem jz:∀ (us:List (List (Loc×V))) (d d':Nat→Bool) (k:Nat) (s s':Get) (l:Loc),s l=s' l→(∀ j u,us[j]? =some u→d (k+j)≠d' (k+j)→l ∉ dn u)→part us d k s l=part us d' k s' l
 | [],_,_,_,_,_,_,h,_=>h
 | u::us,d,d',k,s,s',l,h,hk=>by
  refine jz us d d' (k+1) _ _ l ?_ (fun j u' hj hd=>hk (j+1) u' (by simpa using hj) (by rw[show k+(j+1)=k+1+j by omega];exact hd))
  have h0:=hk 0 u rfl;simp only[Nat.add_zero] at h0;by_cases hl:l∈dn u
  · have:d k=d' k:=by
      apply Classical.byContradiction;intro hne;exact h0 hne hl
    rw[this];split
    · exact apn _ _ hl
    · exact h
  · have e1:(if d k then AN s u else s) l=s l:=by split<;>simp[kc hl]
    have e2:(if d' k then AN s' u else s') l=s' l:=by split<;>simp[kc hl]
    rw[e1,e2,h]
theorem zf (us:List (List (Loc×V))) (d:Nat→Bool) (k:Nat) (s:Get) (l:Loc) (h:∀ j u,us[j]? =some u→d (k+j)=true→l ∉ dn u):part us d k s l=s l:=by
 have:∀ (us:List (List (Loc×V))) (k:Nat) (s:Get),part us (fun _=>false) k s=s:=by
  intro us
  induction us with
  |nil=>intros;rfl
  |cons u us ih=>intro k s;simp[part,ih]
 rw[jz us d (fun _=>false) k s s l rfl (fun j u hj hd=>h j u hj (by simpa using hd)),this]
theorem br4:∀ (us:List (List (Loc×V))) (d:Nat→Bool) (k i:Nat) (s s'':Get) (u:List (Loc×V)) (l:Loc),us[i]? =some u→d (k+i)=true→l∈dn u→
  (∀ j u',us[j]? =some u'→i<j→d (k+j)=true→l ∉ dn u')→part us d k s l=AN s'' u l
 | [],_,_,_,_,_,_,_,h,_,_,_=>by simp at h
 | u0::us,d,k,0,s,s'',u,l,h,hd,hl,hlast=>by
  simp only[List.getElem?_cons_zero,Option.some.injEq] at h;subst h;simp only[Nat.add_zero] at hd;simp only[part,hd,if_true];rw[zf us d (k+1) _ l (fun j u' hj hdj=>hlast (j+1) u' (by simpa using hj) aa1 (by rw[show k+(j+1)=k+1+j by omega];exact hdj))]
  exact apn _ _ hl
 | u0::us,d,k,i+1,s,s'',u,l,h,hd,hl,hlast=>by
  simp only[part];exact br4 us d (k+1) i _ s'' u l (by simpa using h) (by rw[show k+1+i=k+(i+1) by omega];exact hd) hl (fun j u' hj hij hdj=>hlast (j+1) u' (by simpa using hj) aa1 (by rw[show k+(j+1)=k+1+j by omega];exact hdj))
theorem bgd (us:List (List (Loc×V))) (d d':Nat→Bool) (k:Nat) (s:Get) (h:∀ j,j<us.length→d (k+j)=d' (k+j)):part us d k s=part us d' k s:=by
 funext l
 exact jz us d d' k s s l rfl (fun j u hj hd=>absurd (h j (abg.1 hj).1) hd)
theorem ao4 {cfg:Cfg} {orc:Orc} {dep:Nat} {e0:List (Nat×V)}:∀ (l:List AV) (pre:Bool) (st st':St) (rw_:List Rec),BX cfg orc dep e0 pre l st=some (rw_,st')→
  ∃ us:List (List (Loc×V)),us.length=l.length∧st'.get=part us (fun _=>true) 0 st.get∧
    ∀ i io,l[i]? =some io→∃ (u:List (Loc×V)) (b:Bool) (t:St) (pre':Bool),us[i]? =some u∧t.get=part us (fun j=>decide (j<i)) 0 st.get∧Bt cfg orc dep e0 pre' t io=some (b,u)∧
      rw_[i]? =some (b,u.all (fun p=>p.2.calm dep),dl dep (part us (fun j=>decide (j<i)) 0 st.get) io,dn u)∧
      (pre'=true→pre=true∧∀ j u',j<i→us[j]? =some u'→u'.all (fun p=>p.2.calm dep)=true)
 | [],pre,st,st',rw_,h=>by cases h;exact⟨[],rfl,rfl,fun i io h=>by simp at h⟩
 | io::l,pre,st,st',rw_,h=>by
  unfold BX at h;split at h
  · rename_i b u hu
    split at h
    · rename_i rw' st2 h2
      cases h;obtain⟨us,h3,h4,h5⟩:=ao4 l _ (st.upd u) st' rw' h2;have hsh:∀ (us:List (List (Loc×V))) (d d':Nat→Bool) (k k':Nat) (s:Get),(∀ j,d (k+j)=d' (k'+j))→part us d k s=part us d' k' s:=by
        intro us
        induction us with
        |nil=>intros;rfl
        | cons u us ih=>
         intro d d' k k' s hd;have h0:=hd 0;simp only[Nat.add_zero] at h0;simp only[part,h0];exact ih d d' (k+1) (k'+1) _ (fun j=>by have:=hd (j+1);rwa [show k+(j+1)=k+1+j by omega,show k'+(j+1)=k'+1+j by omega] at this)
      refine⟨u::us,by simp[h3],?_,fun i io' hi=> ?_⟩
      · rw[h4,i7]
        simp only[part,if_true];exact hsh us _ _ 0 (0+1) _ (fun j=>rfl)
      · cases i with
        | zero=>
         simp only[List.getElem?_cons_zero,Option.some.injEq] at hi;subst hi;have hs0:part (u::us) (fun j=>decide (j<0)) 0 st.get=st.get:=by
          funext l
          exact zf _ _ _ _ _ (fun j u _ hd=>by simp at hd)
         rw[hs0];exact⟨u,b,st,pre,rfl,rfl,hu,rfl,fun e=>⟨e,fun j u' hj _=>absurd hj (Nat.not_lt_zero _)⟩⟩
        | succ i=>
         obtain⟨u',b',t,pre',g1,g0,g2,g3,g4⟩:=h5 i io' (by simpa using hi)
         have hs1:part (u::us) (fun j=>decide (j<i+1)) 0 st.get=part us (fun j=>decide (j<i)) 0 (st.upd u).get:=by
          rw[i7];simp only[part,show decide (0<i+1)=true by simp,if_true]
          exact hsh us _ _ (0+1) 0 _ (fun j=>by simp;omega)
         rw[hs1];refine⟨u',b',t,pre',by simpa using g1,g0,g2,by simpa using g3,fun e=> ?_⟩
         obtain⟨q1,q2⟩:=g4 e;simp only[abe] at q1;refine⟨q1.1,fun j u'' hj hu''=> ?_⟩
         cases j with
         | zero=>
          simp only[List.getElem?_cons_zero,Option.some.injEq] at hu'';rw[← hu''];exact q1.2
         |succ j=>exact q2 j u'' aa1 (by simpa using hu'')
    · cases h
  · cases h
theorem ro:∀ (es:List (List Nat)) (k:Nat),En k es=true→∀ i e,es[i]? =some e→∀ p∈e,p<k+i
 | [],_,_,i,e,h=>by simp at h
 | e0::es,k,hb,i,e,h=>by
  simp only[En,abe,acd,aa9] at hb;intro p hp;cases i with
  | zero=>
   simp only[List.getElem?_cons_zero,Option.some.injEq] at h;subst h;simpa using hb.1 p hp
  | succ i=>
   have:=ro es (k+1) hb.2 i e (by simpa using h) p hp
   omega
theorem zk {p:Nat}:∀ {l:List Nat},p∈uniq l→p∈l
 | x::r,h=>by
  simp only[uniq,uadd] at h;split at h
  · exact abw _ (zk h)
  · rcases abr.1 h with rfl|h
    · exact List.mem_cons_self
    · exact abw _ (zk h)
theorem jq (es:List (List Nat)):∀ (r acc:List (List Nat)),(∀ (i:Nat) e,r[i]? =some e→es[acc.length+i]? =some e)→
  (∀ (j:Nat) b,acc[j]? =some b→∀ p∈b,∃ e,es[j]? =some e∧(p∈e∨∃ q∈e,q<j∧∃ b',(bv acc r)[q]? =some b'∧p∈b'))→
  ∀ (j:Nat) b,(bv acc r)[j]? =some b→∀ p∈b,∃ e,es[j]? =some e∧(p∈e∨∃ q∈e,q<j∧∃ b',(bv acc r)[q]? =some b'∧p∈b')
 | [],acc,_,h=>h
 | e0::r,acc,hr,h=>by
  have hpre:∀ (r acc:List (List Nat)) (j:Nat) b,acc[j]? =some b→(bv acc r)[j]? =some b:=by
    intro r
    induction r with
    |nil=>exact fun _ _ _ h=>h
    | cons e r ih=>
      intro acc j b h;simp only[bv];refine ih _ j b ?_;rw[aco (abg.1 h).1];exact h
  simp only[bv] at h ⊢;refine jq es r _ (fun i e hi=> ?_) (fun j b hj p hp=> ?_)
  · have:=hr (i+1) e (by simpa using hi)
    rw[abk,List.length_singleton];rw[show acc.length+1+i=acc.length+(i+1) by omega]
    exact this
  · by_cases hlt:j<acc.length
    · rw[aco hlt] at hj
      exact h j b hj p hp
    · have hj2:j=acc.length:=by
        have:=(abg.1 hj).1;simp at this;omega
      subst hj2;have hes:=hr 0 e0 rfl;simp only[Nat.add_zero] at hes;refine⟨e0,hes,?_⟩;rw[List.getElem?_append_right (abn _)] at hj;simp only[Nat.sub_self,List.getElem?_cons_zero,Option.some.injEq] at hj;have key:∀ (l:List Nat) (a:List Nat),p∈l.foldl (fun a e=>e::((acc[e]?).getD []++a)) a→p∈a∨p∈l∨∃ q∈l,p∈(acc[q]?).getD []:=by
        intro l
        induction l with
        |nil=>exact fun a h=> .inl h
        | cons q l ih=>
         intro a hp;rcases ih _ hp with hp|hp|⟨q',h1,h2⟩
         · rcases abr.1 hp with rfl|hp
           · exact .inr (.inl aa3)
           · rcases ab1.1 hp with hp|hp
             · exact .inr (.inr ⟨q,by simp,hp⟩)
             · exact .inl hp
         · exact .inr (.inl (by simp[hp]))
         · exact .inr (.inr ⟨q',by simp[h1],h2⟩)
      rw[← hj] at hp;rcases key e0 [] (zk hp) with hp|hp|⟨q,h1,h2⟩
      · simp at hp
      · exact .inl hp
      · refine .inr ⟨q,h1,?_⟩
        cases hq:acc[q]? with
        |none=>rw[hq] at h2;simp at h2
        | some b'=>
         rw[hq] at h2;refine⟨(abg.1 hq).1,b',?_,h2⟩;refine hpre r _ q b' ?_;rw[aco (abg.1 hq).1];exact hq
theorem n7 {es:List (List Nat)} {d:Nat→Bool} (hd:∀ (j:Nat) e,es[j]? =some e→d j=true→∀ q∈e,d q=true):
  ∀ (j:Nat) b,(bv [] es)[j]? =some b→d j=true→∀ p∈b,d p=true:=by
 have hs:=jq es es [] (fun i e h=>by simpa using h) (fun j b h=>by simp at h)
 intro j
 induction j using Nat.strongRecOn with
 | _ j ih=>
  intro b hb hdj p hp;obtain⟨e,he,h⟩:=hs j b hb p hp;rcases h with h|⟨q,h1,h2,b',h3,h4⟩
  · exact hd j e he hdj p h
  · exact ih q h2 b' h3 (hd j e he hdj q h1) p h4
theorem oy:∀ (es acc:List (List Nat)),(bv acc es).length=acc.length+es.length
 | [],acc=>rfl
 |e::es,acc=>by rw[bv,oy es];simp;omega
theorem ta {bs:List (List Nat)} {i j:Nat} (hij:i<j) (hj:j<bs.length) (h:i ∉ bs[j]):(i,j)∈bx bs:=by
 unfold bx;refine ab2.2 ⟨j,List.mem_range.2 hj,ac0.2 ⟨i,acz.2 ⟨List.mem_range.2 hij,?_⟩,rfl⟩⟩;rw[abd hj];simpa using h
theorem lu {l:List Rec}:∀ {un:List (Nat×Nat)},DL l un=true→∀ i j,(i,j)∈un→∃ bi ci ri wi bj cj rj wj,l[i]? =some (bi,ci,ri,wi)∧l[j]? =some (bj,cj,rj,wj)∧UD wi (rj++wj)=true∧UD wj ri=true∧Dl bi cj wj=true∧Dl bj ci wi=true
 | [],_,i,j,h=>by simp at h
 | (i0,j0)::r,hk,i,j,h=>by
  unfold DL at hk;split at hk
  · rename_i bi ci ri wi bj cj rj wj h1 h2
    simp only[abe] at hk;rcases abr.1 h with e|h
    · cases e
      exact⟨bi,ci,ri,wi,bj,cj,rj,wj,h1,h2,hk.1.1.1.1,hk.1.1.1.2,hk.1.1.2,hk.1.2⟩
    · exact lu hk.2 i j h
  · cases hk
theorem wz:∀ {l:List Loc} {c:Cel},noCell l=true→Loc.cell c ∉ l
 | .slot k::r,c,h,hm=>by
  rcases abr.1 hm with e|e
  · cases e
  · exact wz (l:=r) h e
 | .cell _::_,_,h,_=>by simp[noCell] at h
mutual
theorem D.DU:∀ {a b:D},D.eqb a b=true→a=b
 | .bool a,y,h=>by cases y<;>simp[D.eqb] at h;rw[h]
 | .int k a,y,h=>by cases y<;>simp[D.eqb] at h;rw[h.1,h.2]
 | .str a,y,h=>by cases y<;>simp[D.eqb] at h;rw[h]
 | .AB,y,h=>by cases y<;>simp[D.eqb] at h;rfl
 | .Dp,y,h=>by cases y<;>simp[D.eqb] at h;rfl
 | .Ep,y,h=>by cases y<;>simp[D.eqb] at h;rfl
 | .EH,y,h=>by cases y<;>simp[D.eqb] at h;rfl
 | .GV,y,h=>by cases y<;>simp[D.eqb] at h;rfl
 | .sl a,y,h=>by cases y<;>simp[D.eqb] at h;rw[D.B8 h]
 | .agg a,y,h=>by cases y<;>simp[D.eqb] at h;rw[D.B8 h]
 | .tup a,y,h=>by cases y<;>simp[D.eqb] at h;rw[D.B8 h]
 | .ptr a,y,h=>by cases y<;>simp[D.eqb] at h;rw[D.DU h]
 | .ifc t a,y,h=>by cases y<;>simp[D.eqb] at h;rw[h.1,D.DU h.2]
 | .fn f,y,h=>by cases y<;>simp[D.eqb] at h;rw[h]
 | .unk,y,h=>by cases y<;>simp[D.eqb] at h;rfl
 | .DY,y,h=>by cases y<;>simp[D.eqb] at h;rfl
theorem D.B8:∀ {a b:List D},D.DI a b=true→a=b
 | [],y,h=>by cases y<;>simp[D.DI] at h;rfl
 |a::r,y,h=>by cases y<;>simp[D.DI] at h;rw[D.DU h.1,D.B8 h.2]
end
mutual
theorem V.DU:∀ {a b:V},V.eqb a b=true→a=b
 | .d a,y,h=>by cases y<;>simp[V.eqb] at h;rw[D.DU h]
 | .own n z a,y,h=>by cases y<;>simp[V.eqb] at h;rw[h.1,h.2.1,D.B8 h.2.2]
 | .Ax a o,y,h=>by cases y<;>simp[V.eqb] at h;rw[D.DU h.1,h.2]
 | .ref e k o,y,h=>by cases y<;>simp[V.eqb] at h;rw[h.1,h.2.1,h.2.2]
 | .clo f a b,y,h=>by cases y<;>simp[V.eqb] at h;rw[h.1,V.B8 h.2.1,V.B8 h.2.2]
 | .ifc t a,y,h=>by cases y<;>simp[V.eqb] at h;rw[h.1,V.DU h.2]
 | .AY,y,h=>by cases y<;>simp[V.eqb] at h;rfl
 | .bor l a b,y,h=>by cases y<;>simp[V.eqb] at h;rw[h.1,h.2.1,h.2.2]
 | .Az l a b,y,h=>by cases y<;>simp[V.eqb] at h;rw[h.1,h.2.1,h.2.2]
 | .vec a,y,h=>by cases y<;>simp[V.eqb] at h;rw[V.B8 h]
 | .B4 a,y,h=>by cases y<;>simp[V.eqb] at h;rw[V.DU h]
 | .rcd a,y,h=>by cases y<;>simp[V.eqb] at h;rw[V.B8 h]
theorem V.B8:∀ {a b:List V},V.DI a b=true→a=b
 | [],y,h=>by cases y<;>simp[V.DI] at h;rfl
 |a::r,y,h=>by cases y<;>simp[V.DI] at h;rw[V.DU h.1,V.B8 h.2]
end
theorem HD (s:Get) (u:List (Loc×V)) (l l':Loc) (v:V):AN s (u++[(l,v)]) l'=if l'=l then some v else AN s u l':=by
 rw[dj];rfl
theorem ED {l0 l:Loc} (hne:l≠l0):∀ (u:List (Loc×V)) (s s':Get),s l=s' l→AN s (u.filter fun p=> !decide (p.1=l0)) l=AN s' u l
 | [],_,_,h=>h
 | (l1,v)::r,s,s',h=>by
  rw[List.filter_cons];by_cases e:l1=l0
  · subst e
    simp only[decide_true,acm,aa8,if_false];exact ED hne r s _ (by rw[h];show s' l=if l=l1 then some v else s' l;rw[if_neg hne])
  · simp only[e,decide_false,acf,if_true]
    exact ED hne r _ _ (by show(if l=l1 then some v else s l)=(if l=l1 then some v else s' l);rw[h])
theorem DO {cs:Option (List Cel)}:∀ {old new:List (Cel×V)} {ch:List (Loc×V)},A2 cs old new=some ch→(∀ k,Loc.slot k ∉ dn ch)∧∀ (s:Get) (c:Cel),s (.cell c)=lk old c→AN s ch (.cell c)=lk new c
 | [],[],ch,h=>by cases h;exact⟨fun k hk=>by simp[dn] at hk,fun s c h=>h⟩
 | (c0,v0)::r,(c1,v1)::r',ch,h=>by
  unfold A2 at h;split at h
  · rename_i e
    subst e;have put:∀ {u:List (Loc×V)},((∀ k,Loc.slot k ∉ dn u)∧∀ (s:Get) (c:Cel),s (.cell c)=lk r c→AN s u (.cell c)=lk r' c)→
        (∀ k,Loc.slot k ∉ dn (u++[(.cell c0,v1)]))∧∀ (s:Get) (c:Cel),s (.cell c)=lk ((c0,v0)::r) c→AN s (u++[(.cell c0,v1)]) (.cell c)=lk ((c0,v1)::r') c:=by
      intro u hu;refine⟨fun k hk=> ?_,fun s c hs=> ?_⟩
      · simp only[dn,List.map_append,List.map_cons,List.map_nil,ab1,ab9,reduceCtorEq,or_false] at hk
        exact hu.1 k hk
      · rw[HD]
        simp only[lk] at hs ⊢;by_cases e:c0=c
        · subst e;simp
        · rw[if_neg (fun q=>e (by cases q;rfl)),if_neg e]
          rw[if_neg e] at hs;exact hu.2 s c hs
    split at h
    · simp only[aa6] at h
      obtain⟨u,h1,rfl⟩:=h;exact put (DO h1)
    · split at h
      · simp only[aa6] at h
        obtain⟨u,h1,rfl⟩:=h;exact put (DO h1)
      · split at h
        · rename_i hq
          have:=V.DU hq;subst this;simp only[aa6] at h;obtain⟨u,h1,rfl⟩:=h;obtain⟨g1,g2⟩:=DO h1;refine⟨fun k hk=>g1 k ?_,fun s c hs=> ?_⟩
          · simp only[dn,ac0] at hk ⊢
            obtain⟨p,hp,e⟩:=hk;exact⟨p,(acz.1 hp).1,e⟩
          · simp only[lk] at hs ⊢
            by_cases e:c0=c
            · subst e
              rw[if_pos rfl] at hs ⊢;rw[← hs];refine kc fun hk=> ?_
              simp only[dn,ac0] at hk;obtain⟨p,hp,e⟩:=hk;have:=(acz.1 hp).2;rw[e] at this;simp at this
            · rw[if_neg e] at hs ⊢
              rw[ED (fun q=>e (by cases q;rfl)) u s s rfl]
              exact g2 s c hs
        · cases h
  · cases h
 | [],_::_,_,h=>by simp[A2] at h
 |_::_,[],_,h=>by simp[A2] at h
theorem SM {dep:Nat} {v:V} (h:v.calm dep=true):v.CY dep=v:=by
 unfold V.calm at h;unfold V.CY;split at h
 · rfl
 · rfl
 · split<;>first|rfl|rw[if_pos h]
theorem Gh {dep:Nat}:∀ {e:List (Nat×V)},Dk dep e=true→∀ k v,lk e k=some v→v.calm dep=true
 | (k0,v0)::r,h,k,v,hk=>by
  simp only[Dk,abe] at h;simp only[lk] at hk;split at hk
  · cases hk;exact h.1
  · exact Gh h.2 k v hk
section
variable {cfg:Cfg} {orc:Orc} {dep:Nat}
theorem SB {dst:Option Nat} {own shared:Bool} {r:V} {u:List (Loc×V)} (h:BF dst own shared r=some u):∃ v,u=AO dst v:=by
 unfold BF at h;split at h
 · split at h
   · cases h
   · cases h;exact⟨_,rfl⟩
 · split at h
   · cases h
   · cases h;exact⟨_,rfl⟩
 · cases h
theorem IX {s s':St} {k:Nat} {own:Bool} {f:FuncId} {vs:List V} (h:Bz orc dep s (some k) own f vs=some s'):
   ∃ r m v,((BH s.get vs).isNone&&vs.all V.Ad)=true∧orc f (dep+1) vs s.mem=some (r,m)∧s'=St.upd ⟨Ac dep s.env,Ar dep m⟩ [(.slot k,v)]∧
     ∀ t:St,((BH t.get vs).isNone&&vs.all V.Ad)=true→t.mem=s.mem→Bz orc dep t (some k) own f vs=some (St.upd ⟨Ac dep t.env,Ar dep m⟩ [(.slot k,v)]):=by
 unfold Bz at h;split at h
 · rename_i hq
   split at h
   · rename_i r m hor
     split at h
     · rename_i hup
       split at h
       · rename_i u hl
         obtain⟨v,rfl⟩:=SB hl;cases h;refine⟨r,m,v,hq,hor,rfl,fun t ht hm=> ?_⟩
         unfold Bz;rw[if_pos ht,hm,hor];simp only[hup,if_true,hl];rfl
       · rename_i hl
         split at h
         · rename_i hp
           cases h;refine⟨r,m,r,hq,hor,rfl,fun t ht hm=> ?_⟩
           unfold Bz;rw[if_pos ht,hm,hor];simp only[hup,if_true,hl,hp];rfl
         · cases h
     · cases h
   · cases h
 · cases h
theorem Ht {s s':St} {io:AV} {k:Nat} (hd:io.dst=some k) (h:BL cfg orc dep s io=some s'):
   ∃ m v,s'=St.upd ⟨Ac dep s.env,Ar dep m⟩ [(.slot k,v)]∧
     ∀ t:St,(∀ l∈dl dep s.get io,t.get l=s.get l)→t.mem=s.mem→BL cfg orc dep t io=some (St.upd ⟨Ac dep t.env,Ar dep m⟩ [(.slot k,v)])∧EN cfg t.get io.op=EN cfg s.get io.op:=by
 unfold BL at h;split at h
 · rename_i hg
   split at h
   · rename_i hc
     split at h
     · rename_i own f vs ht
       rw[hd] at h;obtain⟨r,m,v,h1,h2,h3,h4⟩:=IX h;refine⟨m,v,h3,fun t hl hm=> ?_⟩
       have hop:∀ l∈io.op.operands.flatMap (ac s.get io.op.span),t.get l=s.get l:=fun l hl'=>hl l (by unfold dl;exact acn _ hl')
       have hg':A5 t.get io.guard=A5 s.get io.guard:=aow fun k b e=>hl _ (by unfold dl;rw[e];simp)
       obtain⟨t1,t2⟩:=wd (cfg:=cfg) hop;refine⟨?_,by unfold EN;rw[t1]⟩
       unfold BL;simp only[hg',hg];rw[if_pos hc];simp only[t1,ht,hd];exact h4 t (by rw[t2 own f vs ht];exact h1) hm
     · cases h
   · cases h
 · cases h
theorem M_get {t:St} {m:List (Cel×V)} {v:V} {k:Nat} {cs:Option (List Cel)} {ch:List (Loc×V)} (hch:A2 cs t.mem (Ar dep m)=some ch) (hcalm:∀ j v,t.get (.slot j)=some v→v.calm dep=true) (l:Loc):
   AN t.get (ch++[(.slot k,v)]) l=(St.upd ⟨Ac dep t.env,Ar dep m⟩ [(.slot k,v)]).get l:=by
 obtain⟨g1,g2⟩:=DO hch;rw[HD,i7];show _=if l= .slot k then some v else _
 by_cases e:l= .slot k
 · rw[if_pos e,if_pos e]
 · rw[if_neg e,if_neg e]
   cases l with
   | slot j=>
    rw[kc (g1 j)];show lk t.env j=lk (Ac dep t.env) j;rw[fl];cases hj:lk t.env j with
    |none=>rfl
    |some u=>rw[Option.map_some,SM (hcalm j u hj)]
   |cell c=>exact g2 t.get c rfl
end
end Go.Ev
namespace Go.Ev
open Go
section
variable {P:Program} {cfg:Cfg} {N dep:Nat}
theorem Uq {x:Cx} {s:Get} {a:Act} {w:World} {orc:Orc} (hC:CF P cfg) (hO:CE P cfg orc) (R:Rel cfg x N s a w) {ops:Array Oper} {o:Oper} {io:AV} (hc:EX P N ops o io) {u:List (Loc×V)} (hsu:Ag cfg orc dep s io=some u)
  {next:Act→World→Prop} {Q:Exit→Act→World→Prop} (hn:∀ v w' x',Rel cfg x' N (AN s u) (a.put o.dst v) w'→Fr dep x x' w w'→next (a.put o.dst v) w'):
  (Region.wanted o (yielded ops a.tmps)=true∧o.wp P a w next Q)∨(Region.wanted o (yielded ops a.tmps)=false∧next (a.put o.dst undef) w):=by
 cases hg:A5 s io.guard with
 |none=>unfold Ag at hsu;rw[hg] at hsu;cases hsu
 | some t=>
  cases t
  · refine .inr ⟨eh R hc hg,?_⟩
    unfold Ag at hsu;rw[hg] at hsu;cases hsu;refine hn undef w x ?_ (.refl _ _ _);rw[hc.dst];cases hd:o.dst with
    |none=>exact R
    |some k=>exact R.put (hc.lt k hd) rfl (l:=none) (.d _ _ _ (awd _ _))
  · exact .inl ⟨eh R hc hg,aaq hC hO R hc hg hsu next Q hn⟩
def A3 (listed:Array Bool) (j:Nat):Bool:=listed.getD j false
def left (n:Nat) (d:Nat→Bool):Nat:=((List.range n).filter fun i=> !d i).length
theorem Sx (f:Nat→Bool) (n:Nat):(List.filter f [n]).length=if f n then 1 else 0:=by
 cases h:f n<;>simp[h]
theorem aom (d d':Nat→Bool) (h:∀ i,d i=true→d' i=true):∀ n,left n d'≤left n d
 |0=>abn _
 | n+1=>by
  have ih:=aom d d' h n;unfold left at *;rw[List.range_succ,List.filter_append,List.filter_append,abk,abk];have:(List.filter (fun i=> !d' i) [n]).length≤(List.filter (fun i=> !d i) [n]).length:=by
   rw[Sx,Sx];have:=h n;cases hd:d n<;>cases hd':d' n<;>simp_all
  omega
theorem bsg (d d':Nat→Bool) (h:∀ i,d i=true→d' i=true):∀ n i,i<n→d i=false→d' i=true→left n d'<left n d
 |0,i,hi,_,_=>by omega
 | n+1,i,hi,h1,h2=>by
  have hm:=aom d d' h n;by_cases e:i=n
  · subst e
    unfold left at *;rw[List.range_succ,List.filter_append,List.filter_append,abk,abk];simp[h1,h2];omega
  · have ih:=bsg d d' h n i aa1 h1 h2
    have hm1:(List.filter (fun i=> !d' i) [n]).length≤(List.filter (fun i=> !d i) [n]).length:=by
     rw[Sx,Sx];have:=h n;cases hd:d n<;>cases hd':d' n<;>simp_all
    unfold left at *;rw[List.range_succ,List.filter_append,List.filter_append,abk,abk];omega
theorem bsf {n:Nat} {d:Nat→Bool} (h:left n d=0):∀ i,i<n→d i=true:=by
 intro i hi;unfold left at h;have:=ace h;rw[List.filter_eq_nil_iff] at this;have:=this i (List.mem_range.2 hi);simpa using this
theorem na {ops:Array Oper} {listed:Array Bool} (hs:listed.size=ops.size) {i:Nat} (hi:i∈Region.ready .any ops listed):
   i<ops.size∧A3 listed i=false∧∃ o,ops[i]? =some o∧∀ q∈bb o,A3 listed q=true:=by
 unfold Region.ready at hi;rw[acz] at hi;obtain⟨h1,h2⟩:=hi;have hlt:=List.mem_range.1 h1;simp only[abe,abb] at h2;refine⟨hlt,?_,ops[i],abz hlt,fun q hq=> ?_⟩
 · have:=h2.1
   unfold A3;rw[Array.getD_eq_getD_getElem?] at this ⊢;rw[abz aa1] at this ⊢;exact this
 · have h3:=h2.2
   rw[abz hlt] at h3;simp only[Option.map_some,Option.getD_some,Array.all_eq_true_iff_forall_mem] at h3;unfold bb at hq;obtain⟨e,he,rfl⟩:=ac0.1 hq;obtain⟨he1,he2⟩:=acz.1 he;have:=h3 e (by simpa using he1)
   rw[he2] at this;simpa[A3] using this
theorem aay {ops:Array Oper} {listed:Array Bool} (hs:listed.size=ops.size) (hb:En 0 (ops.toList.map bb)=true) (h:Region.ready .any ops listed=[]):∀ i,i<ops.size→A3 listed i=true:=by
 intro i
 induction i using Nat.strongRecOn with
 | _ i ih=>
  intro hi;apply Classical.byContradiction;intro hno;have hno':A3 listed i=false:=by simpa using hno
  have:i∈Region.ready .any ops listed:=by
   unfold Region.ready;rw[acz];refine⟨List.mem_range.2 hi,?_⟩;simp only[abe,abb];constructor
   · unfold A3 at hno'
     rw[Array.getD_eq_getD_getElem?] at hno' ⊢;rw[abz aa1] at hno' ⊢;exact hno'
   · rw[abz hi]
     simp only[Option.map_some,Option.getD_some,Array.all_eq_true_iff_forall_mem];intro e he;cases hbd:Region.binds .any e with
     |false=>rfl
     | true=>
      have hlt:=ro _ 0 hb i (bb ops[i]) (by simp[hi]) e.on (ac0.2 ⟨e,acz.2 ⟨by simpa using he,hbd⟩,rfl⟩)
      have:=ih e.on aa1 aa1;simpa[A3] using this
  rw[h] at this;simp at this
theorem ao8 {listed:Array Bool} {i:Nat} (hi:i<listed.size) (j:Nat):A3 (listed.setIfInBounds i true) j=if j=i then true else A3 listed j:=by
 unfold A3;rw[Array.getD_eq_getD_getElem?,Array.getD_eq_getD_getElem?,Array.getElem?_setIfInBounds];by_cases e:i=j
 · subst e;simp[hi]
 · simp[e,Ne.symm e]
theorem Un {x:Cx} {t t':St} {g:Get} {a:Act} {w:World} {orc:Orc} {e0:List (Nat×V)} {pre b:Bool} (hC:CF P cfg) (hO:CE P cfg orc) (R:Rel cfg x N g a w) {ops:Array Oper} {o:Oper} {io:AV} (hc:EX P N ops o io) {u:List (Loc×V)}
   (hsu:Bt cfg orc dep e0 pre t io=some (b,u)) (hloc:∀ l∈dl dep t.get io,g l=t.get l)
   (ht:∀ k,t'.get (.slot k)=g (.slot k)) (hcell:b=true→∀ c,g (.cell c)=t.get (.cell c)) (hcalm:Dk dep e0=true→pre=true→b=true→∀ j v,g (.slot j)=some v→v.calm dep=true)
   {next:Act→World→Prop} {Q:Exit→Act→World→Prop} (hn:∀ v w' x',Rel cfg x' N (AN g u) (a.put o.dst v) w'→Fr dep x x' w w'→next (a.put o.dst v) w'):
   (Region.wanted o (yielded ops a.tmps)=true∧o.wp P a w next Q)∨(Region.wanted o (yielded ops a.tmps)=false∧next (a.put o.dst undef) w):=by
 unfold Bt at hsu;split at hsu
 · rename_i u' hu
   cases hsu;exact Uq hC hO R hc (by rw[bhg hloc];exact hu) hn
 · split at hsu
   · rename_i hq
     simp only[abe] at hq;split at hsu
     · rename_i s' hs'
       split at hsu
       · rename_i k hk
         split at hsu
         · rename_i ch v hch hv
           cases hsu;obtain⟨m,v',rfl,h2⟩:=Ht hk hs';have hv':v=v':=by
            have:lk (Go.Ev.st (Ac dep t.env) k v') k=some v:=hv;rw[Ch,if_pos rfl] at this;cases this;rfl
           subst hv';have hg:∀ l,(St.mk t'.env t.mem).get l=g l:=fun l=>by
            cases l with
            |slot j=>exact ht j
            |cell c=>exact(hcell rfl c).symm
           have R2:Rel cfg x N (St.mk t'.env t.mem).get a w:=R.congr hg;obtain⟨h3,h4⟩:=h2 ⟨t'.env,t.mem⟩ (fun l hl=>by rw[hg];exact hloc l hl) rfl
           obtain⟨hgd,hw⟩:=aar hC hO R2 hc h3;have hcm:∀ j v,(St.mk t'.env t.mem).get (.slot j)=some v→v.calm dep=true:=fun j v hj=>hcalm hq.1 hq.2 rfl j v (by rw[← hg];exact hj)
           refine .inl ⟨eh R2 hc hgd,hw next Q fun v w' x' R' F'=>hn v w' x' (R'.congr fun l=> ?_) F'⟩
           rw[← M_get (t:=⟨t'.env,t.mem⟩) hch hcm l];have:∀ (us:List (Loc×V)) (s s':Get),s l=s' l→AN s us l=AN s' us l:=fun us s s' e=>jv us e
           exact(this _ _ _ (hg l)).symm
         · cases hsu
       · cases hsu
     · cases hsu
   · cases hsu
theorem au5:∀ (us:List (List (Loc×V))) (d:Nat→Bool) (k:Nat) (s:St),∃ t:St,t.get=part us d k s.get
 | [],_,_,s=>⟨s,rfl⟩
 | u::us,d,k,s=>by
  cases h:d k with
  | true=>
   obtain⟨t,ht⟩:=au5 us d (k+1) (s.upd u);refine⟨t,?_⟩;rw[ht,i7];simp only[part,h,if_true]
  | false=>
   obtain⟨t,ht⟩:=au5 us d (k+1) s;refine⟨t,?_⟩;rw[ht];simp only[part,h,aa8,if_false]
theorem an4 {Z:V→Prop} {l:Loc}:∀ (us:List (List (Loc×V))) (d:Nat→Bool) (k:Nat) (s:Get),(∀ v,s l=some v→Z v)→(∀ j u,us[j]? =some u→d (k+j)=true→∀ p∈u,p.1=l→Z p.2)→∀ v,part us d k s l=some v→Z v
 | [],_,_,_,h,_=>h
 | u::us,d,k,s,h,hu=>by
  refine an4 us d (k+1) _ ?_ (fun j u' hj hd=>hu (j+1) u' (by simpa using hj) (by rw[show k+(j+1)=k+1+j by omega];exact hd))
  by_cases hd:d k=true
  · rw[if_pos hd]
    have h0:=hu 0 u rfl (by simpa using hd)
    have key:∀ (u:List (Loc×V)) (s:Get),(∀ v,s l=some v→Z v)→(∀ p∈u,p.1=l→Z p.2)→∀ v,AN s u l=some v→Z v:=by
     intro u
     induction u with
     |nil=>exact fun s h _=>h
     | cons p u ih=>
      obtain⟨l0,v0⟩:=p;intro s h hp;refine ih _ (fun v hv=> ?_) (fun p hm=>hp p (abw _ hm))
      have hv:(if l=l0 then some v0 else s l)=some v:=hv
      split at hv
      · rename_i e
        cases hv;exact hp (l0,v0) List.mem_cons_self e.symm
      · exact h v hv
    exact key u s h h0
  · rw[if_neg hd];exact h
theorem UY {orc:Orc} (hC:CF P cfg) (hO:CE P cfg orc) {ops:Array Oper} {Q:Exit→Act→World→Prop} {l:List AV} (hlen:l.length=ops.size) (hl:∀ (j:Nat) io,l[j]? =some io→∃ o,ops[j]? =some o∧EX P N ops o io)
  (hb:En 0 (ops.toList.map bb)=true) {st st':St} {rw_:List Rec} (hev:BX cfg orc dep st.env true l st=some (rw_,st')) (hun:DL rw_ (bx (bv [] (ops.toList.map bb)))=true):
  ∃ us:List (List (Loc×V)),us.length=ops.size∧∀ (fuel:Nat) (listed:Array Bool) (x:Cx) (a:Act) (w:World),listed.size=ops.size→(∀ (j:Nat) o,ops[j]? =some o→A3 listed j=true→∀ q∈bb o,A3 listed q=true)→
    left ops.size (A3 listed)≤fuel→Rel cfg x N (part us (A3 listed) 0 st.get) a w→
    (∀ a' w' x',Rel cfg x' N st'.get a' w'→Fr dep x x' w w'→Q .normal a' w')→wpAny P .any ops Q fuel listed a w:=by
 obtain⟨us,hul,hfin,hus⟩:=ao4 l true st st' rw_ hev;refine⟨us,by rw[hul,hlen],fun fuel=> ?_⟩
 have hbl:(bv [] (ops.toList.map bb)).length=ops.size:=by rw[oy];simp
 have hend:∀ (listed:Array Bool) (x:Cx) (a:Act) (w:World),(∀ i,i<ops.size→A3 listed i=true)→Rel cfg x N (part us (A3 listed) 0 st.get) a w→Rel cfg x N st'.get a w:=by
  intro listed x a w hall R;rw[hfin,← bgd us (A3 listed) (fun _=>true) 0 st.get (fun j hj=>by rw[Nat.zero_add];exact hall j aa1)]
  exact R
 induction fuel with
 | zero=>
  intro listed x a w hs hcl hle R hQ;have hall:=bsf (Nat.le_zero.1 hle);refine⟨?_,hQ a w x (hend listed x a w hall R) (.refl _ _ _)⟩;cases hr:Region.ready .any ops listed with
  |nil=>rfl
  | cons i r=>
    obtain⟨h1,h2,_⟩:=na hs (i:=i) (by rw[hr];simp)
    rw[hall i h1] at h2;cases h2
 | succ fuel ih=>
  intro listed x a w hs hcl hle R hQ;refine⟨fun hr=>hQ a w x (hend listed x a w (aay hs hb hr) R) (.refl _ _ _),fun i hi=> ?_⟩
  obtain⟨h1,h2,o,ho,h3⟩:=na hs hi;obtain⟨io,hio⟩:∃ io,l[i]? =some io:=⟨_,abd aa1⟩
  obtain⟨o',ho',hc⟩:=hl i io hio;rw[ho] at ho';cases ho';obtain⟨u,bi,t,pre',g1,g0,g2,g3,g4⟩:=hus i io hio;have hclosed:∀ (j:Nat) e,(ops.toList.map bb)[j]? =some e→A3 listed j=true→∀ q∈e,A3 listed q=true:=by
    intro j e he hdj q hq;rw[abu] at he;cases hoj:ops.toList[j]? with
    |none=>rw[hoj] at he;cases he
    | some oj=>
      rw[hoj] at he;cases he;exact hcl j oj (by simpa using hoj) hdj q hq
  have hbc:=n7 hclosed
  have hpair:∀ j,j<ops.size→j≠i→(A3 listed j≠decide (j<i))→∀ u',us[j]? =some u'→(∀ lc,lc∈dn u'→lc ∉ dl dep (part us (fun j=>decide (j<i)) 0 st.get) io∧lc ∉ dn u)∧
      (bi=true→u'.all (fun p=>p.2.calm dep)=true∧noCell (dn u')=true):=by
    intro j hj hne hd u' hu';obtain⟨ioj,hioj⟩:∃ io,l[j]? =some io:=⟨_,abd aa1⟩
    obtain⟨uj,bj,_,_,f1,_,_,f3,_⟩:=hus j ioj hioj;rw[hu'] at f1;cases f1;by_cases hji:j<i
    ·
      have hdj:A3 listed j=false:=by simpa[hji] using hd
      have hin:(j,i)∈bx (bv [] (ops.toList.map bb)):=by
        refine ta hji aa1 (fun hmem=> ?_)
        obtain⟨e,he,hp⟩:=jq (ops.toList.map bb) (ops.toList.map bb) [] (fun i e h=>by rw[List.length_nil,Nat.zero_add];exact h) (fun j b h=>by simp at h) i _ (abd aa1) j hmem
        have hee:e=bb o:=by
          rw[abu] at he;rw[show ops.toList[i]? =some o by simpa using ho] at he
          cases he;rfl
        subst hee;rcases hp with hp|⟨q,hq1,_,b',hq3,hq4⟩
        · rw[h3 j hp] at hdj;cases hdj
        · rw[hbc q b' hq3 (h3 q hq1) j hq4] at hdj;cases hdj
      obtain⟨bj',cj,rj,wj,bi',ci,ri,wi,e1,e2,e3,e4,e5,e6⟩:=lu hun j i hin;rw[f3] at e1;rw[g3] at e2;cases e1;cases e2;refine⟨fun lc hlc=>⟨fun h=>sx e3 hlc (List.mem_append_left _ h),fun h=>sx e3 hlc (acn _ h)⟩,fun e=> ?_⟩
      rw[e] at e6;simpa[Dl] using e6
    · have hdj:A3 listed j=true:=by
        have:decide (j<i)=false:=by simp;omega
        rw[this] at hd;simpa using hd
      have hin:(i,j)∈bx (bv [] (ops.toList.map bb)):=by
        refine ta aa1 aa1 (fun hmem=> ?_)
        have:=hbc j _ (abd aa1) hdj i hmem;rw[h2] at this;cases this
      obtain⟨bi',ci,ri,wi,bj',cj,rj,wj,e1,e2,e3,e4,e5,e6⟩:=lu hun i j hin;rw[g3] at e1;rw[f3] at e2;cases e1;cases e2;refine⟨fun lc hlc=>⟨fun h=>sx e4 hlc h,fun h=>sx e3 h (acn _ hlc)⟩,fun e=> ?_⟩
      rw[e] at e5;simpa[Dl] using e5
  have hplace:∀ (lc:Loc),(∀ j,j<ops.size→j≠i→(A3 listed j≠decide (j<i))→∀ u',us[j]? =some u'→lc ∉ dn u')→part us (A3 listed) 0 st.get lc=part us (fun j=>decide (j<i)) 0 st.get lc:=by
    intro lc hno;refine jz us _ _ 0 _ _ lc rfl (fun j u' hj hd hk=> ?_)
    rw[Nat.zero_add] at hd;have hjl:j<ops.size:=by have:=(abg.1 hj).1;omega
    by_cases hji:j=i
    · subst hji
      rw[h2] at hd;simp at hd
    · exact hno j hjl hji hd u' hj hk
  have hagree:∀ lc∈dl dep t.get io,part us (A3 listed) 0 st.get lc=t.get lc:=by
    intro lc hlc;rw[g0] at hlc ⊢;exact hplace lc fun j hj hne hd u' hu' hk=>((hpair j hj hne hd u' hu').1 lc hk).1 hlc
  have hcell:bi=true→∀ c,part us (A3 listed) 0 st.get (.cell c)=t.get (.cell c):=by
    intro hbi c;rw[g0];exact hplace _ fun j hj hne hd u' hu' hk=>wz ((hpair j hj hne hd u' hu').2 hbi).2 hk
  have hcalm:Dk dep st.env=true→pre'=true→bi=true→∀ j v,part us (A3 listed) 0 st.get (.slot j)=some v→v.calm dep=true:=by
    intro hc0 hpre hbi k v;refine an4 us _ 0 _ (fun v hv=>Gh hc0 k v hv) (fun j u' hj hd p hp _=> ?_) v
    rw[Nat.zero_add] at hd;have hjl:j<ops.size:=by have:=(abg.1 hj).1;omega
    have hall:u'.all (fun p=>p.2.calm dep)=true:=by
      by_cases hji:j<i
      · exact(g4 hpre).2 j u' hji hj
      · by_cases hij:j=i
        · subst hij
          rw[h2] at hd;cases hd
        · exact((hpair j hjl hij (by rw[hd];simp;omega) u' hj).2 hbi).1
    exact acd.1 hall p hp
  have hset:∀ j,A3 (listed.setIfInBounds i true) j=if j=i then true else A3 listed j:=ao8 aa1
  have hcong:∀ lc,part us (A3 (listed.setIfInBounds i true)) 0 st.get lc=AN (part us (A3 listed) 0 st.get) u lc:=by
    intro lc;by_cases hlc:lc∈dn u
    · refine br4 us _ 0 i st.get _ u lc g1 (by rw[Nat.zero_add,hset];simp) hlc (fun j u' hj hij hd hk=> ?_)
      rw[Nat.zero_add,hset,if_neg aa1] at hd;have hjl:j<ops.size:=by have:=(abg.1 hj).1;omega
      exact((hpair j hjl aa1 (by rw[hd];simp;omega) u' hj).1 lc hk).2 hlc
    · rw[kc hlc]
      refine jz us _ _ 0 _ _ lc rfl (fun j u' hj hd=> ?_)
      rw[Nat.zero_add,hset] at hd;by_cases hji:j=i
      · subst hji
        rw[g1] at hj;cases hj;exact hlc
      · rw[if_neg hji] at hd
        exact absurd rfl hd
  have hnext:∀ v w' x',Rel cfg x' N (AN (part us (A3 listed) 0 st.get) u) (a.put o.dst v) w'→Fr dep x x' w w'→wpAny P .any ops Q fuel (listed.setIfInBounds i true) (a.put o.dst v) w':=by
    intro v w' x' R' F;refine ih (listed.setIfInBounds i true) x' _ w' (by simpa using hs) (fun j oj hoj hdj q hq=> ?_) ?_ (R'.congr hcong) (fun a' w'' x'' R'' F'=>hQ a' w'' x'' R'' (F.trans F'))
    · rw[hset] at hdj ⊢
      split at hdj
      · rename_i e
        subst e;rw[ho] at hoj;cases hoj;rw[h3 q hq];simp
      · rw[hcl j oj hoj hdj q hq];simp
    · have:=bsg (A3 listed) (A3 (listed.setIfInBounds i true)) (fun j hj=>by rw[hset,hj];simp) ops.size i h1 h2 (by rw[hset];simp)
      omega
  obtain⟨t',ht'⟩:=au5 us (A3 listed) 0 st;unfold wpOp;rw[ho];simp only;rcases Un (t':=t') hC hO R hc g2 hagree (fun k=>by rw[ht']) hcell hcalm (Q:=Q) hnext with⟨e1,e2⟩|⟨e1,e2⟩
  · rw[if_pos e1];exact .inl e2
  · rw[if_neg (by rw[e1];simp)];exact e2
end
end Go.Ev
namespace Go.Ev
open Go
section
variable {P:Program} {cfg:Cfg} {x:Cx} {N dep:Nat} {a:Act} {w:World}
theorem Rel.same {s s':Get} (R:Rel cfg x N s a w) (h:∀ l v',s' l=some v'→∃ v,s l=some v∧∀ u,RdV x s (Aa x a w) w (some l) u v→RdV x s' (Aa x a w) w (some l) u v')
   (hal:∀ c v',s' (.cell c)=some v'→(s' (.cell ⟨c.d,c.k,0⟩)).isSome):Rel cfg x N s' a w:=by
 refine⟨R.size,R.defs,R.bound,fun l v' hl=> ?_,fun k v' hk=> ?_,fun c v' hc=> ?_,R.Cu,R.B5,R.B1⟩
 · obtain⟨v,h1,h2⟩:=h l v' hl
   obtain⟨u,hu,hr⟩:=R.Bj l v h1;exact⟨u,hu,h2 u hr⟩
 · obtain⟨v,h1,_⟩:=h _ v' hk
   exact R.CD k v h1
 · obtain⟨v,h1,_⟩:=h _ v' hc
   obtain⟨g1,g2,g3⟩:=R.box c v h1;exact⟨g1,hal c v' hc,g3⟩
theorem nc (dep:Nat) (c:Cel):∀ m:List (Cel×V),lk (BI dep m) c=(lk m c).map (V.home dep)
 | []=>rfl
 | (k,v)::r=>by
  simp only[BI,lk];split
  · rfl
  · exact nc dep c r
theorem w7 (dep:Nat) (e:List (Nat×V)) (k:Nat):∀ Ak:List Nat,lk (Be dep Ak e) k=if Ak.contains k then(lk e k).map (V.home dep) else none
 | []=>by simp[Be,lk]
 | k0::r=>by
  have ih:=w7 dep e k r;unfold Be;by_cases e0:k0=k
  · subst e0
    cases h:lk e k0 with
    |some v=>simp[lk]
    |none=>rw[h] at ih;simp[ih]
  · have e1:¬ k=k0:=fun h=>e0 h.symm
    split
    · simp[lk,e0,ih,e1]
    · simp[ih,e1]
theorem RdV.home {s s':Get} {l:Loc} {u:Value} {v:V} (h:RdV x s (Aa x a w) w (some l) u v) (hal:∀ d k,(s (.cell ⟨d,k,0⟩)).isSome→(s' (.cell ⟨d,k,0⟩)).isSome):RdV x s' (Aa x a w) w (some l) u (v.home dep):=by
 have go:(if v.BP (dep+1) then v else .AY)=v.home dep→RdV x s' (Aa x a w) w (some l) u (v.home dep):=fun e=>by
  rw[← e];split
  · rename_i hup
    exact h.move (dep+1) (fun b o u h1 h2=>⟨h1,h2⟩) (.refl _) (fun d k _ h=>⟨hal d k h,rfl⟩) (fun l0 e b hb=>⟨hb,fun o u h=>h⟩) hup
  · exact .AY _ _
 cases v with
 | own nw z es=>
  cases h with
  |own _ b o len cap _ _ _ how hlen hcap A=>exact .own _ _ _ _ _ _ _ _ how hlen hcap A
 |_=>exact go rfl
theorem Rel.settle {st:St} (R:Rel cfg x N st.get a w) (Ak:List Nat):Rel cfg x N (settle dep Ak st).get a w:=by
 have hc:∀ c v',(Go.Ev.settle dep Ak st).get (.cell c)=some v'→∃ v,st.get (.cell c)=some v∧v'=v.home dep:=fun c v' h=>by
   have h':lk (BI dep st.mem) c=some v':=h;rw[nc,aa6] at h';obtain⟨v,h1,h2⟩:=h';exact⟨v,h1,h2.symm⟩
 have hal:∀ d k,(st.get (.cell ⟨d,k,0⟩)).isSome→((Go.Ev.settle dep Ak st).get (.cell ⟨d,k,0⟩)).isSome:=fun d k h=>by
   show(lk (BI dep st.mem) _).isSome;rw[nc,Option.isSome_map];exact h
 refine R.same (fun l v' hl=> ?_) (fun c v' h=> ?_)
 · cases l with
   | slot k=>
    have h':lk (Be dep Ak st.env) k=some v':=hl;rw[w7] at h';split at h'
    · rw[aa6] at h'
      obtain⟨v,h1,rfl⟩:=h';exact⟨v,h1,fun u hr=>hr.home hal⟩
    · cases h'
   | cell c=>
    obtain⟨v,h1,rfl⟩:=hc c v' hl;exact⟨v,h1,fun u hr=>hr.home hal⟩
 · obtain⟨v,h1,_⟩:=hc c v' h
   exact hal _ _ (R.box c v h1).2.1
theorem qv (k k':Nat):∀ m:List (Nat×V),lk (BR k m) k'=if k'=k then(lk m k').map (fun v=>match v with| .own _ _ es=> .d (.sl es)|v=>v) else lk m k'
 | []=>by simp[BR,lk]
 | (k0,v)::r=>by
  have ih:=qv k k' r;simp only[BR];split
  · rename_i e
    subst e;cases v<;>simp only[lk]<;>by_cases e:k0=k'<;>simp[e]
    all_goals (intro h;exact absurd h.symm e)
  · rename_i hne
    simp only[lk];by_cases e:k0=k'
    · subst e;simp[hne]
    · simp[e,ih]
theorem Rel.Bw {st:St} (R:Rel cfg x N st.get a w) (k:Nat):∃ x',Rel cfg x' N (St.get {st with env:=BR k st.env}) a w∧Fr dep x x' w w:=by
 by_cases h:∃ nw z es,st.get (.slot k)=some (.own nw z es)
 · obtain⟨nw,z,es,h⟩:=h
   obtain⟨b,h1,_,h2⟩:=R.release h;refine⟨_,h2.congr (fun l=> ?_),Fr.AX h1 _⟩
   rw[b6];cases l with
   | slot k'=>
    show lk (BR k st.env) k'=_;rw[qv];by_cases e:k'=k
    · subst e
      have h':lk st.env k'=some (.own nw z es):=h;simp[h']
    · simp[e];rfl
   |cell c=>simp;rfl
 · refine⟨x,R.congr (fun l=> ?_),.refl _ _ _⟩
   cases l with
   | slot k'=>
    show lk (BR k st.env) k'=lk st.env k';rw[qv];split
    · rename_i e
      subst e;cases hv:lk st.env k' with
      |none=>rfl
      | some v=>
       cases v with
       |own nw z es=>exact absurd ⟨nw,z,es,hv⟩ h
       |_=>rfl
    · rfl
   |cell c=>rfl
theorem Rel.S0:∀ (ls:List Nat) {st:St} {x:Cx},Rel cfg x N st.get a w→∃ x',Rel cfg x' N (St.get {st with env:=ls.foldl (fun e k=>BR k e) st.env}) a w∧Fr dep x x' w w
 | [],st,x,R=>⟨x,R,.refl _ _ _⟩
 | k::ls,st,x,R=>by
  obtain⟨x1,R1,F1⟩:=R.Bw (dep:=dep) k;obtain⟨x2,R2,F2⟩:=Rel.S0 ls R1;exact⟨x2,R2,F1.trans F2⟩
theorem beq (d k j:Nat):∀ m:List (Nat×V),lk (DQ d k m) j=(lk m j).map (V.free d k)
 | []=>rfl
 | (j0,v)::r=>by
  simp only[DQ,lk];split
  · rfl
  · exact beq d k j r
theorem sw (d k:Nat) (c:Cel):∀ m:List (Cel×V),lk (Bq d k m) c=if c.d=d∧c.k=k then none else(lk m c).map (V.free d k)
 | []=>by simp[Bq,lk]
 | (c0,v)::r=>by
  have ih:=sw d k c r;unfold Bq;split
  · rename_i h
    rw[ih];simp only[lk];by_cases e:c0=c
    · subst e;simp[h]
    · simp[e]
  · rename_i h
    simp only[lk];by_cases e:c0=c
    · subst e;simp[h]
    · simp[e,ih]
theorem j8 {d k:Nat}:∀ {l:List V},V.DV d k l=true→∀ (i:Nat) y,l[i]? =some y→y.apart d k=true
 | [],_,i,y,h=>by simp at h
 | v::r,ha,i,y,h=>by
  simp only[V.DV,abe] at ha;cases i with
  |zero=>simp at h;rw[← h];exact ha.1
  |succ i=>exact j8 ha.2 i y (by simpa using h)
theorem RdV.GA {x:Cx} {s s':Get} {cv:Loc→Option Value} {w:World} {d k:Nat} (hown:∀ l z es,s' l=some (.own false z es)→s l=some (.own false z es))
  (hal:∀ d' j,¬ (d'=d∧j=k)→(s (.cell ⟨d',j,0⟩)).isSome→(s' (.cell ⟨d',j,0⟩)).isSome) {l:Option Loc} {u:Value} {y:V} (h:RdV x s cv w l u y):y.apart d k=true→RdV x s' cv w l u y:=by
 induction h with
 |d _ _ y h=>exact fun _=> .d _ _ _ h
 |own _ b o len cap z nw es how hlen hcap A=>exact fun _=> .own _ _ _ _ _ _ _ _ how hlen hcap A
 |bor _ l' off len b o' cap' hcap h=>exact fun _=> .bor _ _ _ _ _ _ _ hcap fun z es hs=>h z es (hown _ _ _ hs)
 |Az _ l' i off b o' h=>exact fun _=> .Az _ _ _ _ _ _ fun z es hs=>h z es (hown _ _ _ hs)
 |Ax _ b o off e h=>exact fun _=> .Ax _ _ _ _ _ h
 | ref _ d' j off h=>
  intro ha;refine .ref _ _ _ _ (hal d' j (fun⟨e1,e2⟩=> ?_) h)
  subst e1 e2;simp[V.apart] at ha
 | clo _ f va vb xs ys hl hl' _ _ ih ih'=>
  intro ha;simp only[V.apart,abe] at ha;exact .clo _ _ _ _ _ _ hl hl' (fun i v y h1 h2=>ih i v y h1 h2 (j8 ha.1 i y h2)) (fun i v y h1 h2=>ih' i v y h1 h2 (j8 ha.2 i y h2))
 |ifc _ t v y _ ih=>exact fun ha=> .ifc _ _ _ _ (ih ha)
 | vec _ b o cap ys vs hcap hm _ ih=>
  intro ha;simp only[V.apart] at ha;exact .vec _ _ _ _ _ _ hcap hm (fun i y h1=>ih i y h1 (j8 ha i y h1))
 | rcd _ vs ys hl _ hd ih=>
  intro ha;simp only[V.apart] at ha;exact .rcd _ _ _ hl (fun i v y h1 h2=>ih i v y h1 h2 (j8 ha i y h2)) hd
 |B4 _ b o v y hb hm _ ih=>exact fun ha=> .B4 _ _ _ _ _ hb hm (ih ha)
 |AY=>exact fun _=> .AY _ _
theorem Rel.free {st:St} (R:Rel cfg x N st.get a w) (k:Nat):Rel cfg x N (St.get ⟨DQ dep k st.env,Bq dep k st.mem⟩) a w:=by
 have hall:∀ l v',St.get ⟨DQ dep k st.env,Bq dep k st.mem⟩ l=some v'→(∀ c,l= .cell c→¬ (c.d=dep∧c.k=k))∧∃ v,st.get l=some v∧v'=v.free dep k:=fun l v' h=>by
   cases l with
   | slot j=>
    have h':lk (DQ dep k st.env) j=some v':=h;rw[beq,aa6] at h';obtain⟨v,h1,h2⟩:=h';exact⟨(fun c e=>by cases e),v,h1,h2.symm⟩
   | cell c=>
    have h':lk (Bq dep k st.mem) c=some v':=h;rw[sw] at h';split at h'
    · cases h'
    · rename_i hne
      rw[aa6] at h';obtain⟨v,h1,h2⟩:=h';exact⟨fun c' e=>by cases e;exact hne,v,h1,h2.symm⟩
 have hal:∀ d j,¬ (d=dep∧j=k)→(st.get (.cell ⟨d,j,0⟩)).isSome→(St.get ⟨DQ dep k st.env,Bq dep k st.mem⟩ (.cell ⟨d,j,0⟩)).isSome:=fun d j hne h=>by
   show(lk (Bq dep k st.mem) _).isSome;rw[sw,if_neg hne,Option.isSome_map];exact h
 have hown:∀ l z es,St.get ⟨DQ dep k st.env,Bq dep k st.mem⟩ l=some (.own false z es)→st.get l=some (.own false z es):=fun l z es h=>by
   obtain⟨_,v,h1,h2⟩:=hall l _ h;rw[h1];cases v with
   |own nw z' es'=>simpa[V.free] using h2.symm
   | ref d' k' off=>
    simp only[V.free] at h2;split at h2<;>cases h2
   | clo f a b=>
    simp only[V.free] at h2;split at h2<;>cases h2
   | ifc t v=>
    simp only[V.free] at h2;split at h2<;>cases h2
   | vec ys=>
    simp only[V.free] at h2;split at h2<;>cases h2
   | B4 y=>
    simp only[V.free] at h2;split at h2<;>cases h2
   |_=>simp[V.free] at h2
 refine R.same (fun l v' hl=> ?_) (fun c v' h=> ?_)
 · obtain⟨_,v,h1,rfl⟩:=hall l v' hl
   refine⟨v,h1,fun u hr=> ?_⟩
   cases hr with
   |d _ _ y h=>exact .d _ _ _ h
   |own _ b o len cap z nw es how hlen hcap A=>exact .own _ _ _ _ _ _ _ _ how hlen hcap A
   |bor _ l' off len b o' cap' hcap h=>exact .bor _ _ _ _ _ _ _ hcap fun z es hs=>h z es (hown _ _ _ hs)
   |Az _ l' i off b o' h=>exact .Az _ _ _ _ _ _ fun z es hs=>h z es (hown _ _ _ hs)
   |Ax _ b o off e h=>exact .Ax _ _ _ _ _ h
   | ref _ d j off h=>
    simp only[V.free];split
    · exact .AY _ _
    · rename_i hne
      exact .ref _ _ _ _ (hal d j hne h)
   | clo _ f va vb xs ys k1 k2 g g'=>
    simp only[V.free];split
    · rename_i ha
      exact(RdV.clo _ f va vb xs ys k1 k2 g g').GA hown hal (by simpa only[V.apart] using ha)
    · exact .AY _ _
   | ifc _ t v y g=>
    simp only[V.free];split
    · rename_i ha
      exact(RdV.ifc _ t v y g).GA hown hal (by simpa only[V.apart] using ha)
    · exact .AY _ _
   | vec _ b o cap ys vs hcap hm g=>
    simp only[V.free];split
    · rename_i ha
      exact(RdV.vec _ b o cap ys vs hcap hm g).GA hown hal (by simpa only[V.apart] using ha)
    · exact .AY _ _
   |rcd=>exact .AY _ _
   | B4 _ b o v y hb hm g=>
    simp only[V.free];split
    · rename_i ha
      exact(RdV.B4 _ b o v y hb hm g).GA hown hal (by simpa only[V.apart] using ha)
    · exact .AY _ _
   |AY=>exact .AY _ _
 · obtain⟨h0,v,h1,_⟩:=hall _ v' h
   exact hal _ _ (h0 c rfl) (R.box c v h1).2.1
end
end Go.Ev
namespace Go.Ev
open Go
theorem vj {P:Program} {ad:AG} {N:Nat} {ops:Array Oper}:∀ (r:List Oper) (l:List AV),vk P ad N (ops.toList.map (·.dst)) r=some l→
  l.length=r.length∧∀ (j:Nat) io,l[j]? =some io→∃ o,r[j]? =some o∧EX P N ops o io
 | [],l,h=>by cases h;simp
 | o::r,l,h=>by
  unfold vk at h;split at h
  · rename_i io l' h1 h2
    cases h;obtain⟨g1,g2⟩:=vj r l' h2;refine⟨by simp[g1],fun j io' hj=> ?_⟩
    cases j with
    | succ j=>
     obtain⟨o',h3,h4⟩:=g2 j io' (by simpa using hj)
     exact⟨o',by simpa using h3,h4⟩
    | zero=>
     simp only[List.getElem?_cons_zero,Option.some.injEq] at hj;subst hj;refine⟨o,rfl,?_⟩;unfold dO at h1;simp only at h1;split at h1
     · rename_i hok
       have hlt:∀ k,o.dst=some k→k<N:=fun k e=>by rw[e] at hok;simpa[cQ] using hok
       split at h1
       · rename_i hg
         cases h1;exact⟨rfl,hlt,⟨_,_,rfl⟩,by rw[hg]⟩
       · rename_i i b hg
         split at h1
         · rename_i k hk
           cases h1;refine⟨rfl,hlt,⟨_,_,rfl⟩,?_⟩;rw[hg];refine⟨k,?_,rfl⟩;rw[abu] at hk;cases ho:ops[i]? with
           |none=>rw[show ops.toList[i]? =none by simpa using ho] at hk;cases hk
           | some oi=>
            rw[show ops.toList[i]? =some oi by simpa using ho] at hk
            simpa using hk
         · cases h1
     · cases h1
  · cases h
section
variable {P:Program} {cfg:Cfg} {N dep:Nat}
theorem bfv {es:List (List Nat)} (h:bx (bv [] es)=[]) {i j:Nat} (hij:i<j) (hj:j<es.length):∃ b,(bv [] es)[j]? =some b∧i∈b:=by
 have hl:j<(bv [] es).length:=by rw[oy];simpa using hj
 refine⟨_,abd hl,?_⟩;apply Classical.byContradiction;intro hno;have:=ta hij hl hno;rw[h] at this;simp at this
theorem aai {orc:Orc} (hC:CF P cfg) (hO:CE P cfg orc) {ops:Array Oper} {Q:Exit→Act→World→Prop} {L:List AV} (hlen:L.length=ops.size) (hL:∀ (j:Nat) io,L[j]? =some io→∃ o,ops[j]? =some o∧EX P N ops o io)
  (hb:En 0 (ops.toList.map bb)=true) (hun:bx (bv [] (ops.toList.map bb))=[]):
  ∀ (l:List AV) (i:Nat) (listed:Array Bool) (x:Cx) (a:Act) (w:World) (st st':St),l=L.drop i→listed.size=ops.size→(∀ j,j<ops.size→A3 listed j=decide (j<i))→Rel cfg x N st.get a w→CR cfg orc dep l st=some st'→
  (∀ a' w' x',Rel cfg x' N st'.get a' w'→Fr dep x x' w w'→Q .normal a' w')→wpAny P .any ops Q l.length listed a w
 | [],i,listed,x,a,w,st,st',hl,hs,hd,R,h,hQ=>by
  cases h;have hi:ops.size≤i:=by
    have:=congrArg List.length hl;simp at this;omega
  refine⟨?_,hQ a w x R (.refl _ _ _)⟩;cases hr:Region.ready .any ops listed with
  |nil=>rfl
  | cons j r=>
    obtain⟨h1,h2,_⟩:=na hs (i:=j) (by rw[hr];simp)
    rw[hd j h1] at h2;simp at h2;omega
 | io::l,i,listed,x,a,w,st,st',hl,hs,hd,R,h,hQ=>by
  have hi:i<ops.size:=by
    have:=congrArg List.length hl;simp at this;omega
  refine⟨fun hr=> ?_,fun p hp=> ?_⟩
  · have:=aay hs hb hr i hi
    rw[hd i hi] at this;simp at this
  · obtain⟨h1,h2,o,ho,h3⟩:=na hs hp
    have hpi:p=i:=by
      rw[hd p h1] at h2;simp at h2;apply Classical.byContradiction;intro hne;have hip:i<p:=aa1;obtain⟨b,hb1,hb2⟩:=bfv hun hip (by simpa using h1)
      have hclosed:∀ (j:Nat) e,(ops.toList.map bb)[j]? =some e→A3 listed j=true→∀ q∈e,A3 listed q=true:=by
        intro j e he hdj q hq;have hj:j<ops.size:=by have:=(abg.1 he).1;simpa using this
        have hlt:=ro _ 0 hb j e he q hq;rw[hd j hj] at hdj;simp at hdj;rw[hd q aa1];simp;omega
      obtain⟨e,he,hpp⟩:=jq (ops.toList.map bb) (ops.toList.map bb) [] (fun i e h=>by rw[List.length_nil,Nat.zero_add];exact h) (fun j b h=>by simp at h) p b hb1 i hb2
      have hee:e=bb o:=by
        rw[abu] at he;rw[show ops.toList[p]? =some o by simpa using ho] at he
        cases he;rfl
      subst hee;have hdi:A3 listed i=true:=by
        rcases hpp with hpp|⟨q,hq1,_,b',hq3,hq4⟩
        · exact h3 i hpp
        · exact n7 hclosed q b' hq3 (h3 q hq1) i hq4
      rw[hd i hi] at hdi;simp at hdi
    subst hpi;have hio:L[p]? =some io:=by
      have:=congrArg (fun l=>l[0]?) hl
      simpa using this.symm
    obtain⟨o',ho',hc⟩:=hL p io hio;rw[ho] at ho';cases ho';unfold CR at h;split at h
    · rename_i st1 hst
      have hrest:∀ v w' x',Rel cfg x' N st1.get (a.put o.dst v) w'→Fr dep x x' w w'→wpAny P .any ops Q l.length (listed.setIfInBounds p true) (a.put o.dst v) w':=fun v w' x' R' F=>
        aai hC hO hlen hL hb hun l (p+1) _ x' _ w' st1 st' (by
          have:=congrArg List.tail hl;simpa using this) (by simpa using hs) (fun j hj=>by
           rw[ao8 aa1,hd j hj];by_cases e:j=p
           · simp[e]
           · rw[if_neg e]
             congr 1
             exact propext ⟨fun h=>by omega,fun h=>by omega⟩) R' h (fun a' w'' x'' R'' F'=>hQ a' w'' x'' R'' (F.trans F'))
      unfold wpOp;rw[ho];simp only;rcases bhf hC hO R hc hst (Q:=Q) hrest with⟨h1,h2⟩|⟨h1,h2⟩
      · rw[if_pos h1];exact .inl h2
      · rw[if_neg (by rw[h1];simp)];exact h2
    · cases h
end
end Go.Ev
namespace Go.Ev
open Go
theorem D.Sh {a b:D} (h:a.same b=true):a=b:=by
 unfold D.same at h;split at h<;>first|rfl| (simp only[abm] at h;rw[h])| (simp only[abe,aa9,abm] at h;rw[h.1,h.2])|cases h
theorem ra:∀ {a b:List (Nat×V)},Cz a b=true→a=b
 | [],[],_=>rfl
 | (k,.d x)::r,(k',.d y)::r',h=>by
  simp only[Cz,abe,abm] at h;rw[h.1.1,D.Sh h.1.2,ra h.2]
 | [],_::_,h=>by simp[Cz] at h
 | (_,v)::_,[],h=>by cases v<;>simp[Cz] at h
 | (_,.d _)::_,(_,v)::_,h=>by cases v<;>first| (simp[Cz] at h;done)|skip;rename_i y;rename_i k x r k' r';simp only[Cz,abe,abm] at h;rw[h.1.1,D.Sh h.1.2,ra h.2]
 | (_,.own _ _ _)::_,_::_,h| (_,.bor _ _ _)::_,_::_,h| (_,.Az _ _ _)::_,_::_,h| (_,.Ax _ _)::_,_::_,h| (_,.ref _ _ _)::_,_::_,h| (_,.clo _ _ _)::_,_::_,h| (_,.ifc _ _)::_,_::_,h| (_,.AY)::_,_::_,h=>by simp[Cz] at h
theorem bsx {a b:Ex} (h:SI a b=true):a=b:=by
 unfold SI at h;split at h<;>first|rfl| (simp only[abm] at h;rw[h])|cases h
theorem fo {a b:Option (Ex×St)} {r:Ex×St} (h:DC a b=some r):a=some r∧b=some r:=by
 unfold DC at h;split at h
 · rename_i e s e' s'
   split at h
   · rename_i hq
     cases h;simp only[abe,List.isEmpty_iff] at hq;obtain⟨⟨⟨h1,h2⟩,h3⟩,h4⟩:=hq;have:=bsx h1;subst this;obtain⟨e1,m1⟩:=s;obtain⟨e2,m2⟩:=s';have:=ra h2;simp only at this h3 h4;subst this;subst h3;subst h4;exact⟨rfl,rfl⟩
   · cases h
 · cases h
theorem vo {a b a' b':Option (Ex×St)} (ha:∀ r,a=some r→a'=some r) (hb:∀ r,b=some r→b'=some r) {r:Ex×St} (h:DC a b=some r):DC a' b'=some r:=by
 obtain⟨h1,h2⟩:=fo h;rw[ha r h1,hb r h2];rw[h1,h2] at h;exact h
def p6:Ex→Exit
 | .normal=> .normal
 | .ret=> .ret
 | .exit id=> .exit id
section
variable {P:Program} {cfg:Cfg} {N dep:Nat}
theorem wn {orc:Orc} (hC:CF P cfg) (hO:CE P cfg orc) {ops:Array Oper} {draw:Bool} {ad:AG} {l:List AV} (hl:vk P ad N (ops.toList.map (·.dst)) ops.toList=some l)
  (hb:draw=true→En 0 (ops.toList.map bb)=true) {st st':St} {x:Cx} {a:Act} {w:World} (R:Rel cfg x N st.get a w)
  (hev:A8 cfg orc dep l (if draw then bx (bv [] (ops.toList.map bb)) else[]) st=some st') {Q:Exit→Act→World→Prop}
  (hQ:∀ a' w' x',Rel cfg x' N st'.get a' w'→Fr dep x x' w w'→Q .normal a' w'):
  if draw then wpAny P .any ops Q ops.size (Array.replicate ops.size false) a {w with drawn:=w.drawn+1} else wpOps P ops Q (List.range ops.size) a w:=by
 obtain⟨hlen,hspec⟩:=vj ops.toList l hl;have hspec':∀ (j:Nat) io,l[j]? =some io→∃ o,ops[j]? =some o∧EX P N ops o io:=fun j io h=>by
  obtain⟨o,h1,h2⟩:=hspec j io h;exact⟨o,by simpa using h1,h2⟩
 have hlen':l.length=ops.size:=by simpa using hlen
 cases draw with
 | false=>
  have hev':CR cfg orc dep l st=some st':=hev;show wpOps P ops Q (List.range ops.size) a w;rw[List.range_eq_range',← hlen'];exact av7 hC hO l 0 x a w st st' R (fun j io h=>by rw[Nat.zero_add];exact hspec' j io h) hev' hQ
 | true=>
  show wpAny P .any ops Q ops.size (Array.replicate ops.size false) a {w with drawn:=w.drawn+1};have hdone:∀ j,A3 (Array.replicate ops.size false) j=false:=fun j=>by
    unfold A3;rw[Array.getD_eq_getD_getElem?,Array.getElem?_replicate];split<;>rfl
  have hQ':∀ a' w' x',Rel cfg x' N st'.get a' w'→Fr dep x x' {w with drawn:=w.drawn+1} w'→Q .normal a' w':=fun a' w' x' R' F=>hQ a' w' x' R' (Fr.drew.trans F)
  have hev:A8 cfg orc dep l (bx (bv [] (ops.toList.map bb))) st=some st':=hev;unfold A8 at hev;split at hev
  · rename_i un hun
    rw[← hlen'];have:=aai hC hO (Q:=Q) hlen' hspec' (hb rfl) hun l 0 (Array.replicate ops.size false) x a {w with drawn:=w.drawn+1} st st' rfl aa3 (fun j _=>by rw[hdone];simp) R.drew hev hQ'
    rwa [hlen'] at this ⊢
  · split at hev
    · rename_i rw_ st2 hst2
      split at hev
      · rename_i hok
        cases hev;obtain⟨us,hul,h⟩:=UY hC hO (Q:=Q) hlen' hspec' (hb rfl) hst2 hok;refine h ops.size (Array.replicate ops.size false) x a _ aa3 (fun j o _ hd=>by rw[hdone] at hd;cases hd) ?_ ?_ hQ'
        · unfold left
          refine abo (List.length_filter_le _ _) ?_;simp
        · have:part us (A3 (Array.replicate ops.size false)) 0 st.get=st.get:=by
           funext lc
           exact zf _ _ _ _ _ (fun j u _ hd=>by rw[hdone] at hd;cases hd)
          rw[this];exact R.drew
      · cases hev
    · cases hev
theorem bhy {orc:Orc} (hm:P.follows .mixedOrders=true) (hC:CF P cfg) (hO:CE P cfg orc) {id:Nat} {ops:Array Oper} {draw:Bool} {ad:AG} {l:List AV} (hl:vk P ad N (ops.toList.map (·.dst)) ops.toList=some l)
   (hb:draw=true→En 0 (ops.toList.map bb)=true) {st st':St} {x:Cx} {a:Act} {w:World} (R:Rel cfg x N st.get a w)
   (hev:A8 cfg orc dep l (if draw then bx (bv [] (ops.toList.map bb)) else[]) st=some st') {Q:Exit→Act→World→Prop}
   (hQ:∀ a' w' x',Rel cfg x' N st'.get a' w'→Fr dep x x' w w'→Q .normal a' w'):(Code.region id ops draw).wp P Q a w:=by
 have h:=wn hC hO hl hb R hev hQ;cases draw
 · exact wp_region h
 · exact wp_region_any hm h
end
end Go.Ev
namespace Go.Ev
open Go
abbrev rnd (r:Nat):Fence:=Fence.wide.inRound r
theorem apo {P:Program} {r:Nat} {m m':Machine}:StepsIn (Machine.fenced P (rnd r)) P m m'↔Steps P m m':=stepsIn_wide (P:=P)
section
variable {P:Program} {ops:Array Oper} {Q:Exit→Act→World→Prop} {r n:Nat}
theorem bg7 {o:Oper} {a:Act} {next next':Act→World→Prop} {res:Result Next} (hQ:¬ LetsOut Q) (hn:∀ a w,next a w→next' a w) (h:o.upon P a next Q res):o.uponIn (rnd r) n P a next' Q res:=by
 unfold Oper.upon at h;split at h
 · exact hn _ _ h
 · exact hn _ _ h
 · exact hn _ _ h
 · refine⟨(fun h=>by cases h),CallsIn.mono (F:=rnd r) (show CallsIn (rnd r) _ _ _ _ _ _ from callsIn_wide.2 h) fun e w' hr=> ?_⟩
   cases e with
   |returned v=>exact hn _ _ hr
   |panicked c=>exact hr
   |outgrown=>exact hr
 · refine⟨(fun h=>by cases h),fun c cs _=> ?_⟩
   obtain⟨v,w',h1,h2⟩:=h c cs;exact⟨v,w',hn _ _ h1,apo.2 h2⟩
 · exact h
 · exact h.elim
theorem aoa {o:Oper} {a:Act} {w:World} {next next':Act→World→Prop} (hd:∀ c,o.op≠ .defer c) (hQ:¬ LetsOut Q) (hn:∀ a w,next a w→next' a w) (h:o.wp P a w next Q):o.wpIn (rnd r) n P a w next' Q:=by
 refine⟨fun _ _=>trivial,?_⟩
 rw[Oper.semAt_eq _ _ _ hd];exact bg7 hQ hn h
theorem sr (hd:∀ (j:Nat) o,ops[j]? =some o→∀ c,o.op≠ .defer c) (hQ:¬ LetsOut Q):∀ (l:List Nat) (a:Act) (w:World),wpOps P ops Q l a w→wpOpsIn (rnd r) n P ops Q l a w
 | [],_,_,h=>h
 | i::l,a,w,h=>by
  unfold wpOps at h;unfold wpOpsIn;split at h
  · rename_i e;rw[e];exact sr hd hQ l a w h
  · rename_i o e
    rw[e];simp only;split at h
    · rename_i hw
      rw[if_pos hw];rcases h with h|h
      · exact aoa (hd i o e) hQ (fun a w h=>sr hd hQ l a w h) h
      · exact absurd h.2 hQ
    · rename_i hw
      rw[if_neg hw];exact⟨fun _ _=>trivial,sr hd hQ l _ w h⟩
theorem sy (hd:∀ (j:Nat) o,ops[j]? =some o→∀ c,o.op≠ .defer c) (hQ:¬ LetsOut Q) (md:Region.Mode):∀ (fuel:Nat) (listed:Array Bool) (a:Act) (w:World),wpAny P md ops Q fuel listed a w→wpAnyIn (rnd r) n P md ops Q fuel listed a w
 |0,_,_,_,h=>h
 | fuel+1,listed,a,w,h=>by
  refine⟨h.1,fun i hi=> ?_⟩
  have h2:=h.2 i hi;unfold wpOp at h2;unfold wpOpIn;split at h2
  · rename_i e;rw[e];exact sy hd hQ md fuel _ a w h2
  · rename_i o e
    rw[e];simp only;split at h2
    · rename_i hw
      rw[if_pos hw];rcases h2 with h2|h2
      · exact aoa (hd i o e) hQ (fun a w h=>sy hd hQ md fuel _ a w h) h2
      · exact absurd h2.2 hQ
    · rename_i hw
      rw[if_neg hw];exact⟨fun _ _=>trivial,sy hd hQ md fuel _ _ w h2⟩
theorem bf3 {cfg:Cfg} {N dep:Nat} {orc:Orc} (hm:P.follows .mixedOrders=true) (hC:CF P cfg) (hO:CE P cfg orc) {id:Nat} {draw:Bool} {ad:AG} {l:List AV} (hl:vk P ad N (ops.toList.map (·.dst)) ops.toList=some l)
   (hb:draw=true→En 0 (ops.toList.map bb)=true) (hd:∀ (j:Nat) o,ops[j]? =some o→∀ c,o.op≠ .defer c) {st st':St} {x:Cx} {a:Act} {w:World} (R:Rel cfg x N st.get a w)
   (hev:A8 cfg orc dep l (if draw then bx (bv [] (ops.toList.map bb)) else[]) st=some st')
   (hQ:∀ a' w' x',Rel cfg x' N st'.get a' w'→Fr dep x x' w w'→Q .normal a' w'):(Code.region id ops draw).wpIn (rnd r) n P Q a w:=by
 have h:=wn hC hO hl hb R hev (Q:=fun e a' w'=>e= .normal∧∃ x',Rel cfg x' N st'.get a' w'∧Fr dep x x' w w') (fun a' w' x' R' F'=>⟨rfl,x',R',F'⟩)
 have hno:¬ LetsOut (fun e a' w'=>e= .normal∧∃ x',Rel cfg x' N st'.get a' w'∧Fr dep x x' w w'):=by
   rintro ⟨_,_,h,_⟩;cases h
 refine wpIn_mono ?_ (Q:=fun e a' w'=>e= .normal∧∃ x',Rel cfg x' N st'.get a' w'∧Fr dep x x' w w') (fun e a' w' ⟨he,x',R',F'⟩=>he ▸ hQ a' w' x' R' F')
 cases draw
 · exact wpIn_region (sr hd hno _ _ _ h)
 · exact wpIn_region_any hm (sy hd hno _ _ _ _ _ h)
theorem fY {F:Fence} {c:Code} (J:Nat→Act→World→Prop) (hz:∀ a w,¬ J 0 a w) (round:∀ m a w,J (m+1) a w→c.wpIn F n P (Exit.then (J m) Q) a w) {m:Nat} {a:Act} {w:World} (h:J m a w):(Code.loop c).wpIn F n P Q a w:=by
 intro b k cs hro hb hr;have key:∀ m a w,J m a w→∃ e a' w',Q e a' w'∧ArrivesIn (Machine.fenced P F) P (lone (b.atR a (.code c:: .inLoop c::k)) cs w) b k cs e a' w':=by
  intro m
  induction m with
  |zero=>intro a w h;exact absurd h (hz a w)
  | succ m ih=>
   intro a w h;obtain⟨e,a₁,w₁,hq,harr⟩:=round m a w h b (.inLoop c::k) cs hro hb hr;have out:e≠ .normal→∃ e a' w',Q e a' w'∧ArrivesIn (Machine.fenced P F) P (lone (b.atR a (.code c:: .inLoop c::k)) cs w) b k cs e a' w':=fun hne=>by
    refine⟨e,a₁,w₁,?_,.pass (x:= .inLoop c) rfl (fun _ _=> .inl hne) harr⟩
    cases e<;>first|exact absurd rfl hne|exact hq
   cases e with
   | normal=>
    obtain⟨e₂,a₂,w₂,hq₂,harr₂⟩:=ih a₁ w₁ hq;exact⟨e₂,a₂,w₂,hq₂,.of_steps (StepsIn.trans harr (.one (fenced_calm hb hr rfl) stepR_inLoop)) harr₂⟩
   |_=>exact out aa3
 obtain⟨e,a',w',hq,harr⟩:=key m a w h;exact⟨e,a',w',hq,.of_steps (.one (fenced_calm hb hr rfl) stepR_loop) harr⟩
end
