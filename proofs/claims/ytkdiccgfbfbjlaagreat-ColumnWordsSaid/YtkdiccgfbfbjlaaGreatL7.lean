import Derived.Test.YtkdiccgfbfbjlaaGreatL6
import Derived.Attr
import Derived.ChangeArms
import Derived.ChangeOld
import Derived.Below
import Derived.Lib.ItoaNum
import Derived.Lib.Repeat
import Derived.Lib.Bytealg
import Derived.Lib.SlTrimSet
namespace Go.Ev
open Go
def Le (o o':Orc):Prop:=∀ f d vs m r,o f d vs m=some r→o' f d vs m=some r
section
variable {cfg:Cfg} {o o':Orc} {dep:Nat}
theorem w7 (h:Le o o') {s:Get} {dst:Option Nat} {own:Bool} {f:FuncId} {vs:List V} {u} (hu:callU o s dst own f vs=some u):callU o' s dst own f vs=some u:=by
 unfold callU at hu ⊢;split at hu
 · rename_i ds sh hd
   split at hu
   · rename_i r m hr
     simp only[h _ _ _ _ _ hr];exact hu
   · cases hu
 · cases hu
theorem callT_le (h:Le o o') {s:Get} {dst:Option Nat} {own:Bool} {f:FuncId} {args:List IOpd} {u} (hu:callT cfg o s dst own f args=some u):callT cfg o' s dst own f args=some u:=by
 unfold callT at hu ⊢;simp only[y8,yw] at hu ⊢;obtain⟨vs,h1,u',h2,h3⟩:=hu;exact⟨vs,h1,u',w7 h h2,h3⟩
theorem qz {s:Get} {dst:Option Nat} {op:IOp} {vs:List V} {u} (hu:callR cfg o s dst op vs=some u):∃ own f args ds r,op= .call own f args∧argsD s vs=some (ds,true)∧o f 0 (ds.map .d) []=some r∧callT cfg o s dst own f args=some u:=by
 unfold callR at hu;split at hu
 · rename_i own f args
   split at hu
   · rename_i ds hd
     split at hu
     · rename_i r hr
       exact⟨own,f,args,ds,r,rfl,hd,hr,hu⟩
     · cases hu
   · cases hu
 · cases hu
theorem au3 {s:Get} {dst:Option Nat} {own:Bool} {f:FuncId} {args:List IOpd} {vs:List V} {ds:List D} {r} (hd:argsD s vs=some (ds,true)) (hr:o f 0 (ds.map .d) []=some r):
  callR cfg o s dst (.call own f args) vs=callT cfg o s dst own f args:=by
 unfold callR;simp only[hd,hr]
theorem a4t (h:Le o o') {s:Get} {dst:Option Nat} {own:Bool} {f:FuncId} {op:IOp} {vs:List V} (hop:∀ own' f' args,op= .call own' f' args→f'=f) {u} (hu:(match callU o s dst own f vs with|some u=>some u|none=>callR cfg o s dst op vs)=some u):
   (match callU o' s dst own f vs with|some u=>some u|none=>callR cfg o' s dst op vs)=some u:=by
 split at hu
 · rename_i u' h1
   simp only[w7 h h1];exact hu
 · rename_i h1
   obtain⟨own',f',args,ds,r,rfl,hd,hr,ht⟩:=qz hu;cases hop _ _ _ rfl;have h2:callU o' s dst own f vs=none:=by
    unfold callU at h1 ⊢;simp only[hd,hr] at h1;simp only[hd,h _ _ _ _ _ hr];exact h1
   simp only[h2];rw[au3 hd (h _ _ _ _ _ hr)];exact callT_le h ht
theorem callG_le (h:Le o o') {s:Get} {dst:Option Nat} {own:Bool} {f:FuncId} {args:List IOpd} {i:Nat} {u} (hu:callG cfg o s dst own f args i=some u):callG cfg o' s dst own f args i=some u:=by
 unfold callG at hu ⊢;simp only[y8] at hu ⊢;obtain⟨ix,hix,v,hv,g,hg,vs,hvs,q,hq,⟨r,m⟩,hor,hl⟩:=hu;exact⟨ix,hix,v,hv,g,hg,vs,hvs,q,hq,⟨r,m⟩,h _ _ _ _ _ hor,hl⟩
theorem evOpG_le (h:Le o o') {s:Get} {dst:Option Nat} {op:IOp} {u} (hu:evOpG cfg o dep s dst op=some u):evOpG cfg o' dep s dst op=some u:=by
 unfold evOpG at hu ⊢;split at hu
 · exact callG_le h hu
 · exact hu
theorem akc (h:Le o o') {s:Get} {io:IOper} {u} (hu:stepU cfg o dep s io=some u):stepU cfg o' dep s io=some u:=by
 unfold stepU at hu ⊢;split at hu
 · cases hu
 · exact hu
 · split at hu
   · cases hu
   · rename_i hno
     rw[if_neg hno];split at hu
     · rename_i hcl
       rw[if_pos hcl];split at hu
       · exact hu
       · split at hu
         · rename_i own f vs ht
           refine a4t h (fun own' f' args e=> ?_) hu
           rw[e] at ht;simp only[target,yw] at ht;obtain⟨_,_,h⟩:=ht;cases h;rfl
         · cases hu
     · rename_i hcl
       rw[if_neg hcl];exact evOpG_le h hu
theorem callM_le (h:Le o o') {s:St} {dst:Option Nat} {own:Bool} {f:FuncId} {vs:List V} {s'} (hu:callM o dep s dst own f vs=some s'):callM o' dep s dst own f vs=some s':=by
 unfold callM at hu ⊢;split at hu
 · rename_i hc
   rw[if_pos hc];split at hu
   · rename_i r m hr
     simp only[h _ _ _ _ _ hr];exact hu
   · cases hu
 · cases hu
theorem pm {s s':St} {io:IOper} (hu:stepM cfg o dep s io=some s'):∃ own f vs,guardOk s.get io.guard=some true∧(io.dst.isSome&&isCallOp io.op&&(clipArg cfg io.op).isNone)=true∧target cfg s.get io.op=some (own,f,vs)∧
   callM o dep s io.dst own f vs=some s':=by
 unfold stepM at hu;split at hu
 · rename_i hg
   split at hu
   · rename_i hc
     split at hu
     · rename_i own f vs ht
       exact⟨own,f,vs,hg,hc,ht,hu⟩
     · cases hu
   · cases hu
 · cases hu
theorem ake (h:Le o o') {s s':St} {io:IOper} (hu:stepM cfg o dep s io=some s'):stepM cfg o' dep s io=some s':=by
 obtain⟨own,f,vs,hg,hc,ht,hm⟩:=pm hu;unfold stepM;simp only[hg,hc,ht,if_true];exact callM_le h hm
theorem mr {o'':Orc} {s s':St} {io:IOper} (hu:stepM cfg o dep s io=some s'):stepU cfg o'' dep s.get io=none:=by
 obtain⟨own,f,vs,hg,hc,ht,hm⟩:=pm hu;simp only[ze,Option.isNone_iff_eq_none] at hc;obtain⟨⟨h1,h2⟩,h3⟩:=hc;have hn:argsD s.get vs=none:=by
  unfold callM at hm;split at hm
  · rename_i hq
    simp only[ze,Option.isNone_iff_eq_none] at hq;exact hq.1
  · cases hm
 unfold stepU;have h1':io.dst.isNone=false:=by cases hd:io.dst<;>simp_all
 simp only[hg,h1',Bool.false_and,zf,if_false,h2,if_true,h3,ht,callU,hn];cases hr:callR cfg o'' s.get io.dst io.op vs with
 |none=>rfl
 | some u=>
  obtain⟨_,_,_,_,_,_,hd,_⟩:=qz hr;rw[hn] at hd;cases hd
theorem aem (h:Le o o') {s s':St} {io:IOper} (hu:evStep cfg o dep s io=some s'):evStep cfg o' dep s io=some s':=by
 unfold evStep at hu ⊢;split at hu
 · rename_i u h1
   simp only[akc h h1];exact hu
 · simp only[mr (o'':=o') hu]
   exact ake h hu
theorem wt (h:Le o o'):∀ (l:List IOper) {s s':St},evOps cfg o dep l s=some s'→evOps cfg o' dep l s=some s'
 | [],_,_,hu=>hu
 | io::l,s,s',hu=>by
  unfold evOps at hu ⊢;split at hu
  · rename_i s1 h1
    simp only[aem h h1];exact wt h l hu
  · cases hu
theorem xx {e0:List (Nat×V)} {pre:Bool} {s:St} {io:IOper} {r:Bool×List (Loc×V)} (hu:stepX cfg o dep e0 pre s io=some r):(∃ u,r=(false,u)∧stepU cfg o dep s.get io=some u)∨
   ∃ s',stepM cfg o dep s io=some s'∧∀ o'',stepM cfg o'' dep s io=some s'→stepX cfg o'' dep e0 pre s io=some r:=by
 unfold stepX at hu;split at hu
 · rename_i u h1
   cases hu;exact .inl ⟨u,rfl,h1⟩
 · split at hu
   · rename_i hq
     split at hu
     · rename_i s' hs'
       refine .inr ⟨s',hs',fun o'' h2=> ?_⟩
       unfold stepX;simp only[mr (o'':=o'') h2,hq,if_true,h2];exact hu
     · cases hu
   · cases hu
theorem aka (h:Le o o') {e0:List (Nat×V)} {pre:Bool} {s:St} {io:IOper} {r:Bool×List (Loc×V)} (hu:stepX cfg o dep e0 pre s io=some r):stepX cfg o' dep e0 pre s io=some r:=by
 rcases xx hu with⟨u,rfl,h1⟩|⟨s',h1,h2⟩
 · unfold stepX
   simp only[akc h h1]
 · exact h2 o' (ake h h1)
theorem qr (h:Le o o') {e0:List (Nat×V)}:∀ (l:List IOper) {pre:Bool} {s:St} {r},evOpsU cfg o dep e0 pre l s=some r→evOpsU cfg o' dep e0 pre l s=some r
 | [],_,_,_,hu=>hu
 | io::l,pre,s,r,hu=>by
  unfold evOpsU at hu ⊢;split at hu
  · rename_i b u h1
    split at hu
    · rename_i l' s' h2
      simp only[aka h h1,qr h l h2];exact hu
    · cases hu
  · cases hu
theorem ajb (h:Le o o') {l:List IOper} {un:List (Nat×Nat)} {s s':St} (hu:evRegion cfg o dep l un s=some s'):evRegion cfg o' dep l un s=some s':=by
 unfold evRegion at hu ⊢;split at hu
 · exact wt h l hu
 · split at hu
   · rename_i l' s1 h1
     simp only[qr h _ h1];exact hu
   · cases hu
theorem jr {f g:St→Option (Ex×St)} (h:∀ s r,f s=some r→g s=some r):∀ {n n':Nat},n≤n'→∀ {s:St} {r},evLoop f n s=some r→evLoop g n' s=some r
 |0,_,_,_,_,hu=>by cases hu
 | n+1,n',hn,s,r,hu=>by
  obtain⟨k,rfl⟩:∃ k,n'=k+1:=⟨n'-1,by omega⟩
  unfold evLoop at hu ⊢;split at hu
  · rename_i s1 h1
    simp only[h _ _ h1];exact jr h yp hu
  · rename_i hno
    cases hf:f s with
    |none=>rw[hf] at hu;cases hu
    | some q=>
     rw[hf] at hu;cases hu;rw[h _ _ hf];split
     · rename_i s1 he
       cases he;exact absurd hf (hno s1)
     · rfl
theorem mb {f g:List D→List (Cel×V)→Option (Ex×List (Cel×V))} (h:∀ x m r,f x m=some r→g x m=some r):∀ (l:List (List D)) {m:List (Cel×V)} {r},evEach f l m=some r→evEach g l m=some r
 | [],_,_,hu=>hu
 | x::l,m,r,hu=>by
  unfold evEach at hu ⊢;split at hu
  · rename_i m1 h1
    simp only[h _ _ _ h1];exact mb h l hu
  · rename_i hno
    rw[h _ _ _ hu];split
    · rename_i m1 he;cases he;exact absurd hu (hno m1)
    · rfl
theorem kd {ca cb ca' cb':St→Option (Ex×St)} (ha:∀ s r,ca s=some r→ca' s=some r) (hb:∀ s r,cb s=some r→cb' s=some r) {dep:Nat} {ps:List Nat} {e:List (Nat×V)} {x:List D} {m:List (Cel×V)} {r} (h:evRound ca cb dep ps e x m=some r):
   evRound ca' cb' dep ps e x m=some r:=by
 unfold evRound at h ⊢;split at h
 · rename_i e1 _
   split at h
   · rename_i s1 h1
     simp only[ha _ _ h1];split at h
     · rename_i q s2 h2
       simp only[hb _ _ h2];exact h
     · cases h
   · cases h
 · cases h
theorem bk (h:Le o o') {n n':Nat} (hn:n≤n'):∀ (c:ICode) {dep:Nat} {s:St} {r},evCode cfg o dep n c s=some r→evCode cfg o' dep n' c s=some r:=by
 intro c
 induction c with
 |skip=>intro dep s r hu;simpa only[evCode] using hu
 | region ops un keep=>
  intro dep s r hu;simp only[evCode] at hu ⊢;split at hu
  · rename_i s1 h1
    simp only[ajb h h1];exact hu
  · cases hu
 | seq a b iha ihb=>
  intro dep s r hu;simp only[evCode] at hu ⊢;split at hu
  · rename_i s1 h1
    simp only[iha h1];exact ihb hu
  · rename_i hno
    have:=iha hu;rw[this];split
    · rename_i s1 he
      cases he;exact absurd hu (hno s1)
    · rfl
 | cond x a b iha ihb=>
  intro dep s r hu;simp only[evCode] at hu ⊢;split at hu
  · split at hu
    · rename_i ht;rw[if_pos ht];exact iha hu
    · rename_i ht;rw[if_neg ht];exact ihb hu
  · exact rb (fun r h=>iha h) (fun r h=>ihb h) hu
  · cases hu
 | block id b ih=>
  intro dep s r hu;simp only[evCode] at hu ⊢;split at hu
  · rename_i id' s1 h1
    simp only[ih h1];exact hu
  · rename_i hno
    rw[ih hu];split
    · rename_i id' s1 he
      cases he;exact absurd hu (hno _ _)
    · rfl
 | loop b ih=>
  intro dep s r hu;simp only[evCode] at hu ⊢;exact jr (fun s r h=>ih h) hn hu
 |exit id=>intro dep s r hu;simpa only[evCode] using hu
 |ret=>intro dep s r hu;simpa only[evCode] using hu
 |demote ls=>intro dep s r hu;simpa only[evCode] using hu
 |give ls=>intro dep s r hu;simpa only[evCode] using hu
 | each x ps a b iha ihb=>
  intro dep s r hu;simp only[evCode] at hu ⊢;split at hu
  · rename_i l hl
    split at hu
    · rename_i e m h1
      rw[mb (fun x m r h=>kd (fun s r h=>iha h) (fun s r h=>ihb h) h) l h1]
      exact hu
    · cases hu
  · cases hu
 |free k=>intro dep s r hu;simpa only[evCode] using hu
 |bad=>intro dep s r hu;simp[evCode] at hu
theorem aes (h:Le o o') {n n':Nat} (hn:n≤n') {fn:IFunc} {vs:List V} {m:List (Cel×V)} {r} (hu:evBody cfg o n fn dep vs m=some r):evBody cfg o' n' fn dep vs m=some r:=by
 unfold evBody at hu ⊢;split at hu
 · rename_i hc
   rw[if_pos hc];split at hu
   · rename_i s h1
     simp only[bk h hn _ h1];exact hu
   · rename_i s h1
     simp only[bk h hn _ h1];exact hu
   · cases hu
 · cases hu
theorem bt (cfg:Cfg):∀ {n n':Nat},n≤n'→Le (evFn cfg n) (evFn cfg n')
 |0,_,_=>fun _ _ _ _ _ h=>by cases h
 | n+1,n',hn=>fun f d vs m r h=>by
  obtain⟨k,rfl⟩:∃ k,n'=k+1:=⟨n'-1,by omega⟩
  unfold evFn at h ⊢;split at h
  · exact h
  · split at h
    · exact aes (bt cfg yp) yp h
    · cases h
open Classical in
noncomputable def Lim {β:Type} (f:Nat→Option β):Option β:=if h:∃ r n,f n=some r then some h.choose else none
def Up {β:Type} (f:Nat→Option β):Prop:=∀ n n' r,n≤n'→f n=some r→f n'=some r
theorem a5p {β:Type} {f:Nat→Option β} (hf:Up f) {r:β}:Lim f=some r↔∃ n,f n=some r:=by
 unfold Lim;constructor
 · intro h
   split at h
   · rename_i hx
     cases h;exact hx.choose_spec
   · cases h
 · rintro ⟨n,hn⟩
   have hx:∃ r n,f n=some r:=⟨r,n,hn⟩
   rw[dif_pos hx];obtain⟨k,hk⟩:=hx.choose_spec;have h1:=hf n (max n k) _ (aaq _ _) hn;have h2:=hf k (max n k) _ (Nat.le_max_right _ _) hk;rw[h1] at h2;exact h2.symm
noncomputable def evL (cfg:Cfg):Orc:=fun f d vs m=>Lim fun n=>evFn cfg n f d vs m
theorem iu {cfg:Cfg} {f:FuncId} {d:Nat} {vs:List V} {m:List (Cel×V)} {r}:evL cfg f d vs m=some r↔∃ n,evFn cfg n f d vs m=some r:=
 a5p fun n n' r hn h=>bt cfg hn _ _ _ _ _ h
theorem evFn_evL (cfg:Cfg) (n:Nat):Le (evFn cfg n) (evL cfg):=fun _ _ _ _ _ h=>iu.2 ⟨n,h⟩
theorem au2 {s:Get} {dst:Option Nat} {own:Bool} {f:FuncId} {vs:List V} {u} (hu:callU (evL cfg) s dst own f vs=some u):∃ k,callU (evFn cfg k) s dst own f vs=some u:=by
 unfold callU at hu;split at hu
 · rename_i ds sh hd
   split at hu
   · rename_i r m hr
     obtain⟨k,hk⟩:=iu.1 hr;refine⟨k,?_⟩;unfold callU;simp only[hd,hk];exact hu
   · cases hu
 · cases hu
theorem a4s {s:Get} {dst:Option Nat} {own:Bool} {f:FuncId} {op:IOp} {vs:List V} (hop:∀ own' f' args,op= .call own' f' args→f'=f) {u} (hu:(match callU (evL cfg) s dst own f vs with|some u=>some u|none=>callR cfg (evL cfg) s dst op vs)=some u):
   ∃ k,(match callU (evFn cfg k) s dst own f vs with|some u=>some u|none=>callR cfg (evFn cfg k) s dst op vs)=some u:=by
 split at hu
 · rename_i u' h1
   obtain⟨k,hk⟩:=au2 h1;exact⟨k,by simp only[hk];exact hu⟩
 · rename_i h1
   obtain⟨own',f',args,ds,r,rfl,hd,hr,ht⟩:=qz hu;cases hop _ _ _ rfl;obtain⟨k1,hk1⟩:=iu.1 hr;unfold callT at ht;simp only[y8,yw] at ht;obtain⟨vs',h2,u',h3,h4⟩:=ht;obtain⟨k2,hk2⟩:=au2 h3;have g1:=bt cfg (aaq k1 k2) _ _ _ _ _ hk1;refine⟨max k1 k2,?_⟩;have h5:callU (evFn cfg (max k1 k2)) s dst own f vs=none:=by
    unfold callU at h1 ⊢;simp only[hd,hr] at h1;simp only[hd,g1];exact h1
   simp only[h5];rw[au3 hd g1];unfold callT;simp only[y8,yw];exact⟨vs',h2,u',w7 (bt cfg (Nat.le_max_right k1 k2)) hk2,h4⟩
theorem callG_on {s:Get} {dst:Option Nat} {own:Bool} {f:FuncId} {args:List IOpd} {i:Nat} {u} (hu:callG cfg (evL cfg) s dst own f args i=some u):∃ k,callG cfg (evFn cfg k) s dst own f args i=some u:=by
 unfold callG at hu;simp only[y8] at hu;obtain⟨ix,hix,v,hv,g,hg,vs,hvs,q,hq,⟨r,m⟩,hor,hl⟩:=hu;obtain⟨k,hk⟩:=iu.1 hor;refine⟨k,?_⟩;unfold callG;simp only[y8];exact⟨ix,hix,v,hv,g,hg,vs,hvs,q,hq,⟨r,m⟩,hk,hl⟩
theorem evOpG_on {s:Get} {dst:Option Nat} {op:IOp} {u} (hu:evOpG cfg (evL cfg) dep s dst op=some u):∃ k,evOpG cfg (evFn cfg k) dep s dst op=some u:=by
 unfold evOpG at hu;split at hu
 · obtain⟨k,hk⟩:=callG_on hu
   exact⟨k,by simp only[evOpG];exact hk⟩
 · rename_i hng
   refine⟨0,?_⟩;unfold evOpG;split
   · rename_i own f args i;exact absurd rfl (hng own f args i)
   · exact hu
theorem akb {s:Get} {io:IOper} {u} (hu:stepU cfg (evL cfg) dep s io=some u):∃ k,stepU cfg (evFn cfg k) dep s io=some u:=by
 have hu':=hu;unfold stepU at hu;split at hu
 · cases hu
 · rename_i hg
   refine⟨0,?_⟩;unfold stepU;simp only[hg];exact hu
 · rename_i hg
   split at hu
   · cases hu
   · rename_i hno
     split at hu
     · rename_i hcl
       split at hu
       · rename_i x hx
         refine⟨0,?_⟩;unfold stepU;simp only[hg,hcl,hx,if_true];rw[if_neg hno];exact hu
       · rename_i hx
         split at hu
         · rename_i own f vs ht
           obtain⟨k,hk⟩:=a4s (fun own' f' args e=>by
            rw[e] at ht;simp only[target,yw] at ht;obtain⟨_,_,h⟩:=ht;cases h;rfl) hu
           refine⟨k,?_⟩;unfold stepU;simp only[hg,hcl,hx,ht,if_true];rw[if_neg hno];exact hk
         · cases hu
     · rename_i hcl
       obtain⟨k,hk⟩:=evOpG_on hu;refine⟨k,?_⟩;unfold stepU;simp only[hg];rw[if_neg hno,if_neg hcl];exact hk
theorem akd {s s':St} {io:IOper} (hu:stepM cfg (evL cfg) dep s io=some s'):∃ k,stepM cfg (evFn cfg k) dep s io=some s':=by
 obtain⟨own,f,vs,hg,hc,ht,hm⟩:=pm hu;unfold callM at hm;split at hm
 · rename_i hq
   split at hm
   · rename_i r m hr
     obtain⟨k,hk⟩:=iu.1 hr;refine⟨k,?_⟩;unfold stepM;simp only[hg,hc,ht,if_true];unfold callM;rw[if_pos hq];simp only[hk];exact hm
   · cases hm
 · cases hm
theorem a3x {s s':St} {io:IOper} (hu:evStep cfg (evL cfg) dep s io=some s'):∃ k,evStep cfg (evFn cfg k) dep s io=some s':=by
 unfold evStep at hu;split at hu
 · rename_i u h1
   obtain⟨k,hk⟩:=akb h1;refine⟨k,?_⟩;unfold evStep;simp only[hk];exact hu
 · obtain⟨k,h2⟩:=akd hu
   refine⟨k,?_⟩;unfold evStep;simp only[mr (o'':=evFn cfg k) h2];exact h2
theorem aun:∀ (l:List IOper) {s s':St},evOps cfg (evL cfg) dep l s=some s'→∃ k,evOps cfg (evFn cfg k) dep l s=some s'
 | [],_,_,hu=>⟨0,hu⟩
 | io::l,s,s',hu=>by
  unfold evOps at hu;split at hu
  · rename_i s1 h1
    obtain⟨k1,g1⟩:=a3x h1;obtain⟨k2,g2⟩:=aun l hu;refine⟨max k1 k2,?_⟩;unfold evOps;simp only[aem (bt cfg (aaq k1 k2)) g1];exact wt (bt cfg (Nat.le_max_right k1 k2)) l g2
  · cases hu
theorem stepX_on {e0:List (Nat×V)} {pre:Bool} {s:St} {io:IOper} {r:Bool×List (Loc×V)} (hu:stepX cfg (evL cfg) dep e0 pre s io=some r):∃ k,stepX cfg (evFn cfg k) dep e0 pre s io=some r:=by
 rcases xx hu with⟨u,rfl,h1⟩|⟨s',h1,h2⟩
 · obtain⟨k,hk⟩:=akb h1
   refine⟨k,?_⟩;unfold stepX;simp only[hk]
 · obtain⟨k,hk⟩:=akd h1
   exact⟨k,h2 _ hk⟩
theorem aep {e0:List (Nat×V)}:∀ (l:List IOper) {pre:Bool} {s:St} {r},evOpsU cfg (evL cfg) dep e0 pre l s=some r→∃ k,evOpsU cfg (evFn cfg k) dep e0 pre l s=some r
 | [],_,_,_,hu=>⟨0,hu⟩
 | io::l,pre,s,r,hu=>by
  unfold evOpsU at hu;split at hu
  · rename_i b u h1
    split at hu
    · rename_i l' s1 h2
      obtain⟨k1,g1⟩:=stepX_on h1;obtain⟨k2,g2⟩:=aep l h2;refine⟨max k1 k2,?_⟩;unfold evOpsU;simp only[aka (bt cfg (aaq k1 k2)) g1,qr (bt cfg (Nat.le_max_right k1 k2)) l g2];exact hu
    · cases hu
  · cases hu
theorem aja {l:List IOper} {un:List (Nat×Nat)} {s s':St} (hu:evRegion cfg (evL cfg) dep l un s=some s'):∃ k,evRegion cfg (evFn cfg k) dep l un s=some s':=by
 unfold evRegion at hu;split at hu
 · exact aun l hu
 · split at hu
   · rename_i hno l' s1 h1
     obtain⟨k,hk⟩:=aep _ h1;refine⟨k,?_⟩;unfold evRegion;simp only[hk];exact hu
   · cases hu
theorem aeq {f:St→Option (Ex×St)} {g:Nat→St→Option (Ex×St)} (hup:∀ k k',k≤k'→∀ s r,g k s=some r→g k' s=some r) (h:∀ s r,f s=some r→∃ k,g k s=some r):∀ (n:Nat) {s:St} {r},evLoop f n s=some r→∃ k,evLoop (g k) n s=some r
 |0,_,_,hu=>by cases hu
 | n+1,s,r,hu=>by
  unfold evLoop at hu;split at hu
  · rename_i s1 h1
    obtain⟨k1,g1⟩:=h _ _ h1;obtain⟨k2,g2⟩:=aeq hup h n hu;refine⟨max k1 k2,?_⟩;unfold evLoop;simp only[hup _ _ (aaq k1 k2) _ _ g1];exact jr (hup _ _ (Nat.le_max_right k1 k2)) (y7 _) g2
  · rename_i hno
    obtain⟨k,hk⟩:=h _ _ hu;refine⟨k,?_⟩;unfold evLoop;rw[hk];split
    · rename_i s1 he
      cases he;exact absurd hu (hno s1)
    · rfl
theorem qs {f:List D→List (Cel×V)→Option (Ex×List (Cel×V))} {g:Nat→List D→List (Cel×V)→Option (Ex×List (Cel×V))} (hup:∀ k k',k≤k'→∀ x m r,g k x m=some r→g k' x m=some r) (h:∀ x m r,f x m=some r→∃ k,g k x m=some r):
  ∀ (l:List (List D)) {m:List (Cel×V)} {r},evEach f l m=some r→∃ k,evEach (g k) l m=some r
 | [],_,_,hu=>⟨0,hu⟩
 | x::l,m,r,hu=>by
  unfold evEach at hu;split at hu
  · rename_i m1 h1
    obtain⟨k1,g1⟩:=h _ _ _ h1;obtain⟨k2,g2⟩:=qs hup h l hu;refine⟨max k1 k2,?_⟩;unfold evEach;simp only[hup _ _ (aaq k1 k2) _ _ _ g1];exact mb (hup _ _ (Nat.le_max_right k1 k2)) l g2
  · rename_i hno
    obtain⟨k,hk⟩:=h _ _ _ hu;refine⟨k,?_⟩;unfold evEach;rw[hk];split
    · rename_i m1 he;cases he;exact absurd hu (hno m1)
    · rfl
theorem a35 {n:Nat}:∀ (c:ICode) {dep:Nat} {s:St} {r},evCode cfg (evL cfg) dep n c s=some r→∃ k,evCode cfg (evFn cfg k) dep n c s=some r:=by
 intro c
 induction c with
 | region ops un keep=>
  intro dep s r hu;simp only[evCode] at hu ⊢;split at hu
  · rename_i s1 h1
    obtain⟨k,hk⟩:=aja h1;exact⟨k,by simp only[hk];exact hu⟩
  · cases hu
 | seq a b iha ihb=>
  intro dep s r hu;simp only[evCode] at hu ⊢;split at hu
  · rename_i s1 h1
    obtain⟨k1,g1⟩:=iha h1;obtain⟨k2,g2⟩:=ihb hu;refine⟨max k1 k2,?_⟩;simp only[bk (bt cfg (aaq k1 k2)) (y7 n) a g1];exact bk (bt cfg (Nat.le_max_right k1 k2)) (y7 n) b g2
  · rename_i hno
    obtain⟨k,hk⟩:=iha hu;refine⟨k,?_⟩;rw[hk];split
    · rename_i s1 he
      cases he;exact absurd hu (hno s1)
    · rfl
 | cond x a b iha ihb=>
  intro dep s r hu;simp only[evCode] at hu ⊢;split at hu
  · split at hu
    · rename_i ht;obtain⟨k,hk⟩:=iha hu;exact⟨k,by rw[if_pos ht];exact hk⟩
    · rename_i ht;obtain⟨k,hk⟩:=ihb hu;exact⟨k,by rw[if_neg ht];exact hk⟩
  · obtain⟨h1,h2⟩:=dj hu
    obtain⟨k1,g1⟩:=iha h1;obtain⟨k2,g2⟩:=ihb h2;refine⟨max k1 k2,?_⟩;rw[bk (bt cfg (aaq k1 k2)) (y7 n) a g1,bk (bt cfg (Nat.le_max_right k1 k2)) (y7 n) b g2];rw[h1,h2] at hu;exact hu
  · cases hu
 | block id b ih=>
  intro dep s r hu;simp only[evCode] at hu ⊢;split at hu
  · rename_i id' s1 h1
    obtain⟨k,hk⟩:=ih h1;exact⟨k,by simp only[hk];exact hu⟩
  · rename_i hno
    obtain⟨k,hk⟩:=ih hu;refine⟨k,?_⟩;rw[hk];split
    · rename_i id' s1 he
      cases he;exact absurd hu (hno _ _)
    · rfl
 | loop b ih=>
  intro dep s r hu;simp only[evCode] at hu ⊢;exact aeq (f:=evCode cfg (evL cfg) dep n b) (g:=fun k=>evCode cfg (evFn cfg k) dep n b) (fun k k' hk s r h=>bk (bt cfg hk) (y7 n) b h) (fun s r h=>ih h) n hu
 | each x ps a b iha ihb=>
  intro dep s r hu;simp only[evCode] at hu ⊢;split at hu
  · rename_i l hl
    split at hu
    · rename_i e m h1
      obtain⟨k,hk⟩:=qs (g:=fun k=>evRound (evCode cfg (evFn cfg k) (dep+1) n a) (evCode cfg (evFn cfg k) (dep+1) n b) dep ps (dropBor dep s.env))
       (fun k k' hk x m r h=>kd (fun s r h=>bk (bt cfg hk) (y7 n) a h) (fun s r h=>bk (bt cfg hk) (y7 n) b h) h)
       (fun x m r h=>by
        obtain⟨e1,s1,s2,h3,h4,h5,h6⟩:=f9 (e:=r.1) (m':=r.2) h;obtain⟨k1,g1⟩:=iha h4;obtain⟨k2,g2⟩:=ihb h5;refine⟨max k1 k2,?_⟩;unfold evRound;simp only[h3,bk (bt cfg (aaq k1 k2)) (y7 n) a g1,bk (bt cfg (Nat.le_max_right k1 k2)) (y7 n) b g2];rw[← h6]) l h1
      exact⟨k,by rw[hk];exact hu⟩
    · cases hu
  · cases hu
 |bad=>intro dep s r hu;simp[evCode] at hu
 |_=>intro dep s r hu;exact⟨0,by simpa only[evCode] using hu⟩
noncomputable def evC (cfg:Cfg) (dep:Nat) (c:ICode) (s:St):Option (Ex×St):=Lim fun n=>evCode cfg (evL cfg) dep n c s
theorem ac {c:ICode} {s:St} {r}:evC cfg dep c s=some r↔∃ n,evCode cfg (evL cfg) dep n c s=some r:=
 a5p fun _ _ _ hn h=>bk (fun _ _ _ _ _ h=>h) hn c h
theorem b4 {n n':Nat} (hn:n≤n') {c:ICode} {s:St} {r} (h:evCode cfg (evL cfg) dep n c s=some r):evCode cfg (evL cfg) dep n' c s=some r:=bk (fun _ _ _ _ _ h=>h) hn c h
theorem f6 {β:Type} {a b:Option β} (h1:∀ r,a=some r→b=some r) (h2:∀ r,b=some r→a=some r):a=b:=by
 cases a with
 |some r=>exact(h1 r rfl).symm
 | none=>cases b with
  |some r=>exact absurd (h2 r rfl) yt
  |none=>rfl
theorem ga {c:ICode} {s:St} {X:Option (Ex×St)} (h:∀ n,evCode cfg (evL cfg) dep n c s=X):evC cfg dep c s=X:=
 f6 (fun r hr=>by obtain⟨n,hn⟩:=ac.1 hr;rw[← h n];exact hn) (fun r hr=>ac.2 ⟨0,by rw[h 0];exact hr⟩)
theorem evC_skip (s:St):evC cfg dep .skip s=some (.normal,s):=ga fun n=>by simp only[evCode]
theorem evC_exit (id:Nat) (s:St):evC cfg dep (.exit id) s=some (.exit id,s):=ga fun n=>by simp only[evCode]
theorem evC_ret (s:St):evC cfg dep .ret s=some (.ret,s):=ga fun n=>by simp only[evCode]
theorem aws (ls:List Nat) (s:St):evC cfg dep (.demote ls) s=some (.normal,{s with env:=ls.foldl (fun e k=>demoteE k e) s.env}):=ga fun n=>by simp only[evCode]
theorem evC_give (ls:List Nat) (s:St):evC cfg dep (.give ls) s=some (.normal,givesB s ls):=ga fun n=>by simp only[evCode]
theorem tv (ops:List IOper) (un:List (Nat×Nat)) (keep:List Nat) (s:St):evC cfg dep (.region ops un keep) s=(match evRegion cfg (evL cfg) dep ops un s with
 |some s'=>some (.normal,settle dep keep s')
 |none=>none):=ga fun n=>by simp only[evCode];cases evRegion cfg (evL cfg) dep ops un s<;>rfl
theorem evC_cond (x:IOpd) (a b:ICode) (s:St):evC cfg dep (.cond x a b) s=(match val cfg s.get x with
   |some (.d (.bool t))=>if t then evC cfg dep a s else evC cfg dep b s
   |some (.d .unkB)=>bothWays (evC cfg dep a s) (evC cfg dep b s)
   |_=>none):=by
 split
 · rename_i t ht
   refine f6 (fun r hr=> ?_) (fun r hr=> ?_)
   · obtain⟨n,hn⟩:=ac.1 hr
     simp only[evCode,ht] at hn;cases t
     · exact ac.2 ⟨n,by simpa using hn⟩
     · exact ac.2 ⟨n,by simpa using hn⟩
   · cases t
     · obtain⟨n,hn⟩:=ac.1 hr
       exact ac.2 ⟨n,by simp only[evCode,ht];exact hn⟩
     · obtain⟨n,hn⟩:=ac.1 hr
       exact ac.2 ⟨n,by simp only[evCode,ht];exact hn⟩
 · rename_i ht
   refine f6 (fun r hr=> ?_) (fun r hr=> ?_)
   · obtain⟨n,hn⟩:=ac.1 hr
     simp only[evCode,ht] at hn;exact rb (fun r h=>ac.2 ⟨n,h⟩) (fun r h=>ac.2 ⟨n,h⟩) hn
   · obtain⟨h1,h2⟩:=dj hr
     obtain⟨n1,g1⟩:=ac.1 h1;obtain⟨n2,g2⟩:=ac.1 h2;refine ac.2 ⟨max n1 n2,?_⟩;simp only[evCode,ht];rw[b4 (aaq n1 n2) g1,b4 (Nat.le_max_right n1 n2) g2];rw[h1,h2] at hr;exact hr
 · rename_i hno hno'
   refine ga fun n=> ?_
   simp only[evCode]
theorem evC_seq (a b:ICode) (s:St):evC cfg dep (.seq a b) s=(match evC cfg dep a s with
   |some (.normal,s')=>evC cfg dep b s'
   |r=>r):=by
 refine f6 (fun r hr=> ?_) (fun r hr=> ?_)
 · obtain⟨n,hn⟩:=ac.1 hr
   simp only[evCode] at hn;split at hn
   · rename_i s1 h1
     rw[ac.2 ⟨n,h1⟩];exact ac.2 ⟨n,hn⟩
   · rename_i hno
     rw[ac.2 ⟨n,hn⟩];split
     · rename_i s1 he
       cases he;exact absurd hn (hno s1)
     · rfl
 · split at hr
   · rename_i s1 h1
     obtain⟨n1,g1⟩:=ac.1 h1;obtain⟨n2,g2⟩:=ac.1 hr;refine ac.2 ⟨max n1 n2,?_⟩;simp only[evCode,b4 (aaq n1 n2) g1];exact b4 (Nat.le_max_right n1 n2) g2
   · rename_i hno
     obtain⟨n,hn⟩:=ac.1 hr;refine ac.2 ⟨n,?_⟩;simp only[evCode];rw[hn];split
     · rename_i s1 he
       cases he;exact absurd hr (hno s1)
     · rfl
theorem a36 (id:Nat) (b:ICode) (s:St):evC cfg dep (.block id b) s=(match evC cfg dep b s with
   |some (.exit id',s')=>if id'=id then some (.normal,s') else some (.exit id',s')
   |r=>r):=by
 refine f6 (fun r hr=> ?_) (fun r hr=> ?_)
 · obtain⟨n,hn⟩:=ac.1 hr
   simp only[evCode] at hn;split at hn
   · rename_i id' s1 h1
     rw[ac.2 ⟨n,h1⟩];exact hn
   · rename_i hno
     rw[ac.2 ⟨n,hn⟩];split
     · rename_i id' s1 he
       cases he;exact absurd hn (hno _ _)
     · rfl
 · split at hr
   · rename_i id' s1 h1
     obtain⟨n,hn⟩:=ac.1 h1;refine ac.2 ⟨n,?_⟩;simp only[evCode,hn];exact hr
   · rename_i hno
     obtain⟨n,hn⟩:=ac.1 hr;refine ac.2 ⟨n,?_⟩;simp only[evCode];rw[hn];split
     · rename_i id' s1 he
       cases he;exact absurd hr (hno _ _)
     · rfl
theorem evC_loop (b:ICode) (s:St):evC cfg dep (.loop b) s=(match evC cfg dep b s with
   |some (.normal,s')=>evC cfg dep (.loop b) s'
   |r=>r):=by
 refine f6 (fun r hr=> ?_) (fun r hr=> ?_)
 · obtain⟨n,hn⟩:=ac.1 hr
   cases n with
   |zero=>simp[evCode,evLoop] at hn
   | succ n=>
     simp only[evCode,evLoop] at hn;split at hn
     · rename_i s1 h1
       rw[ac.2 ⟨n+1,h1⟩];exact ac.2 ⟨n+1,by simp only[evCode];exact jr (fun _ _ h=>h) (Nat.le_succ n) hn⟩
     · rename_i hno
       rw[ac.2 ⟨n+1,hn⟩];split
       · rename_i s1 he
         cases he;exact absurd hn (hno s1)
       · rfl
 · split at hr
   · rename_i s1 h1
     obtain⟨n1,g1⟩:=ac.1 h1;obtain⟨n2,g2⟩:=ac.1 hr;refine ac.2 ⟨max n1 n2+1,?_⟩;simp only[evCode,evLoop,b4 (show n1≤max n1 n2+1 by omega) g1]
     simp only[evCode] at g2;exact jr (fun s r h=>b4 (show n2≤max n1 n2+1 by omega) h) (Nat.le_max_right n1 n2) g2
   · rename_i hno
     obtain⟨n,hn⟩:=ac.1 hr;refine ac.2 ⟨n+1,?_⟩;simp only[evCode,evLoop];rw[b4 (Nat.le_succ n) hn];split
     · rename_i s1 he
       cases he;exact absurd hr (hno s1)
     · rfl
noncomputable def evB (cfg:Cfg) (fn:IFunc) (dep:Nat) (vs:List V) (m:List (Cel×V)):Option (V×List (Cel×V)):=
 if vs.length=fn.arity∧argsOk vs m then
  match evC cfg dep fn.body ⟨entry 0 vs,m⟩ with
  |some (.normal,s)|some (.ret,s)=>(resAll dep s.get fn.results).bind fun v=>leaveR dep v s.mem
  |_=>none
 else none
theorem evL_fn {f:FuncId} {fn:IFunc} (hx:cfg.ext f=none) (hf:cfg.funcs f=some fn) (dep:Nat) (vs:List V) (m:List (Cel×V)):evL cfg f dep vs m=evB cfg fn dep vs m:=by
 refine f6 (fun r hr=> ?_) (fun r hr=> ?_)
 · obtain⟨n,hn⟩:=iu.1 hr
   cases n with
   |zero=>cases hn
   | succ n=>
     simp only[evFn,hx,hf] at hn;have h2:=aes (evFn_evL cfg n) (y7 n) hn;unfold evBody at h2;unfold evB;split at h2
     · rename_i hc
       rw[if_pos hc];split at h2
       · rename_i s h1
         rw[ac.2 ⟨n,h1⟩];exact h2
       · rename_i s h1
         rw[ac.2 ⟨n,h1⟩];exact h2
       · cases h2
     · cases h2
 · unfold evB at hr
   have key:∀ {n:Nat} {e s},evCode cfg (evL cfg) dep n fn.body ⟨entry 0 vs,m⟩=some (e,s)→(vs.length=fn.arity∧argsOk vs m=true)→(e= .normal∨e= .ret)→((resAll dep s.get fn.results).bind fun v=>leaveR dep v s.mem)=some r→evL cfg f dep vs m=some r:=by
     intro n e s h1 hc he h2;obtain⟨k,hk⟩:=a35 fn.body h1;refine iu.2 ⟨max k n+1,?_⟩;simp only[evFn,hx,hf];unfold evBody;rw[if_pos hc,bk (bt cfg (aaq k n)) (Nat.le_max_right k n) fn.body hk];rcases he with rfl|rfl<;>exact h2
   split at hr
   · rename_i hc
     split at hr
     · rename_i s h1
       obtain⟨n,hn⟩:=ac.1 h1;exact key hn hc (.inl rfl) hr
     · rename_i s h1
       obtain⟨n,hn⟩:=ac.1 h1;exact key hn hc (.inr rfl) hr
     · cases hr
   · cases hr
theorem evL_ok {P:Program} (hm:P.follows .mixedOrders=true) (hC:CfgOk P cfg) (hF:rl P cfg) (hX:ExtOk P cfg):OrcOk P cfg (evL cfg):=
 fun f dep vs m r m' h x w args E=>by
  obtain⟨n,hn⟩:=iu.1 h;exact fn_ok hm hC hF hX n f dep vs m r m' hn x w args E
theorem evC_each (x:IOpd) (ps:List Nat) (a b:ICode) (s:St):evC cfg dep (.each x ps a b) s=(match(val cfg s.get x).bind (itemsOf cfg) with
  | some l=>match evEach (evRound (evC cfg (dep+1) a) (evC cfg (dep+1) b) dep ps (dropBor dep s.env)) l s.mem with
    |some (e,m)=>some (e,⟨dropBor dep s.env,m⟩)
    |none=>none
  |none=>none):=by
 cases hl:(val cfg s.get x).bind (itemsOf cfg) with
 |none=>exact ga fun n=>by simp only[evCode,hl]
 | some l=>
  refine f6 (fun r hr=> ?_) (fun r hr=> ?_)
  · obtain⟨n,hn⟩:=ac.1 hr
    simp only[evCode,hl] at hn;split at hn
    · rename_i e m h1
      simp only[mb (fun x m r h=>kd (fun s r h=>ac.2 ⟨n,h⟩) (fun s r h=>ac.2 ⟨n,h⟩) h) l h1]
      exact hn
    · cases hn
  · simp only at hr
    split at hr
    · rename_i e m h1
      obtain⟨n,hn⟩:=qs (g:=fun n=>evRound (evCode cfg (evL cfg) (dep+1) n a) (evCode cfg (evL cfg) (dep+1) n b) dep ps (dropBor dep s.env))
       (fun k k' hk x m r h=>kd (fun s r h=>b4 hk h) (fun s r h=>b4 hk h) h)
       (fun x m r h=>by
        obtain⟨e1,s1,s2,h3,h4,h5,h6⟩:=f9 (e:=r.1) (m':=r.2) h;obtain⟨k1,g1⟩:=ac.1 h4;obtain⟨k2,g2⟩:=ac.1 h5;refine⟨max k1 k2,?_⟩;unfold evRound;simp only[h3,b4 (aaq k1 k2) g1,b4 (Nat.le_max_right k1 k2) g2];rw[← h6]) l h1
      refine ac.2 ⟨n,?_⟩;simp only[evCode,hl,hn];exact hr
    · cases hr
end
end Go.Ev
namespace Go.Ev
open Go
inductive Kf where
 |c (c:ICode)
 |b (id:Nat)
abbrev Ans:=Option (V×List (Cel×V))
structure Kx where
 cfg:Cfg
 dep:Nat
 k:Ex→St→Ans
def finR (dep:Nat) (res:List IRes):Ex→St→Ans
 | .normal,s| .ret,s=>(resAll dep s.get res).bind fun v=>leaveR dep v s.mem
 | .exit _,_=>none
abbrev fx (cfg:Cfg) (dep:Nat) (res:List IRes):Kx:=⟨cfg,dep,finR dep res⟩
noncomputable def aj (X:Kx):List Kf→Option (Ex×St)→Ans
 | [],some (e,s)=>X.k e s
 | [],none=>none
 | .c c::K,some (.normal,s)=>aj X K (evC X.cfg X.dep c s)
 | .c _::K,r=>aj X K r
 | .b id::K,some (.exit id',s)=>if id'=id then aj X K (some (.normal,s)) else aj X K (some (.exit id',s))
 | .b _::K,r=>aj X K r
noncomputable def go (X:Kx) (K:List Kf) (s:St):Ans:=aj X K (some (.normal,s))
noncomputable def goX (X:Kx) (id:Nat) (K:List Kf) (s:St):Ans:=aj X K (some (.exit id,s))
theorem af (X:Kx):∀ K,aj X K none=none
 | []=>rfl
 | .c _::K=>by rw[aj];exact af X K;simp
 | .b _::K=>by rw[aj];exact af X K;simp
theorem j3 (X:Kx) (s:St):∀ K,aj X K (some (.ret,s))=X.k .ret s
 | []=>rfl
 | .c _::K=>by rw[aj];exact j3 X s K;simp
 | .b _::K=>by rw[aj];exact j3 X s K;simp
variable {X:Kx} {K:List Kf} {s:St}
theorem go_nil:go X [] s=X.k .normal s:=rfl
theorem goX_nil (id:Nat):goX X id [] s=X.k (.exit id) s:=rfl
theorem go_blk (id:Nat):go X (.b id::K) s=go X K s:=by unfold go;rw[aj];simp
theorem go_ret:go X (.c .ret::K) s=X.k .ret s:=by unfold go;rw[aj,evC_ret,j3]
theorem go_skip:go X (.c .skip::K) s=go X K s:=by unfold go;rw[aj,evC_skip]
theorem go_exit (id:Nat):go X (.c (.exit id)::K) s=goX X id K s:=by unfold go goX;rw[aj,evC_exit]
theorem goX_c (id:Nat) (c:ICode):goX X id (.c c::K) s=goX X id K s:=by unfold goX;rw[aj];simp
theorem goX_b (id id':Nat):goX X id (.b id'::K) s=if id=id' then go X K s else goX X id K s:=by unfold goX go;rw[aj]
theorem go_seq (a b:ICode):go X (.c (.seq a b)::K) s=go X (.c a:: .c b::K) s:=by
 unfold go;rw[aj,aj,evC_seq];cases h:evC X.cfg X.dep a s with
 |none=>rw[af,af]
 | some r=>
  obtain⟨e,s'⟩:=r;cases e with
  |normal=>rw[aj]
  |ret=>rw[aj];simp
  |exit id=>rw[aj];simp
theorem go_loop (b:ICode):go X (.c (.loop b)::K) s=go X (.c b:: .c (.loop b)::K) s:=by
 unfold go;rw[aj,aj,evC_loop];cases h:evC X.cfg X.dep b s with
 |none=>rw[af,af]
 | some r=>
  obtain⟨e,s'⟩:=r;cases e with
  |normal=>rw[aj]
  |ret=>rw[aj];simp
  |exit id=>rw[aj];simp
theorem go_block (id:Nat) (b:ICode):go X (.c (.block id b)::K) s=go X (.c b:: .b id::K) s:=by
 unfold go;rw[aj,aj,a36];cases h:evC X.cfg X.dep b s with
 |none=>rw[af,af]
 | some r=>
  obtain⟨e,s'⟩:=r;cases e with
  |normal=>rw[aj];simp
  |ret=>rw[aj];simp
  |exit id'=>rw[aj];simp only;split<;>rfl
theorem go_demote (ls:List Nat):go X (.c (.demote ls)::K) s=go X K {s with env:=ls.foldl (fun e k=>demoteE k e) s.env}:=by unfold go;rw[aj,aws]
theorem go_give (ls:List Nat):go X (.c (.give ls)::K) s=go X K (givesB s ls):=by unfold go;rw[aj,evC_give]
noncomputable def goEnd (X:Kx) (K:List Kf) (E:List (Nat×V)) (f:List (Cel×V)→Ans):Ex→St→Ans
 | .normal,s=>f (leaveM (X.dep+1) s.mem)
 | .ret,s=>X.k .ret ⟨E,leaveM (X.dep+1) s.mem⟩
 | .exit id,s=>goX X id K ⟨E,leaveM (X.dep+1) s.mem⟩
noncomputable def goRnd (X:Kx) (b:ICode) (K:List Kf) (E:List (Nat×V)) (f:List (Cel×V)→Ans):Ex→St→Ans
 | .normal,s=>go ⟨X.cfg,X.dep+1,goEnd X K E f⟩ [.c b] s
 |_,_=>none
noncomputable def goPut (X:Kx) (a b:ICode) (K:List Kf) (E:List (Nat×V)) (m:List (Cel×V)) (f:List (Cel×V)→Ans):Option (List (Nat×V))→Ans
 |some e=>go ⟨X.cfg,X.dep+1,goRnd X b K E f⟩ [.c a] ⟨e,m⟩
 |none=>none
noncomputable def goE (X:Kx) (ps:List Nat) (a b:ICode) (E:List (Nat×V)) (K:List Kf):List (List D)→List (Cel×V)→Ans
 | [],m=>go X K ⟨E,m⟩
 |x::l,m=>goPut X a b K E m (goE X ps a b E K l) (putPs ps x (roundE E))
noncomputable def goEQ (X:Kx) (ps:List Nat) (a b:ICode) (K:List Kf) (s:St):Option (List (List D))→Ans
 |some l=>goE X ps a b (dropBor X.dep s.env) K l s.mem
 |none=>none
theorem goE_ok (ps:List Nat) (a b:ICode) (E:List (Nat×V)):∀ (l:List (List D)) (m:List (Cel×V)),aj X K (match evEach (evRound (evC X.cfg (X.dep+1) a) (evC X.cfg (X.dep+1) b) X.dep ps E) l m with
  |some (e,m)=>some (e,⟨E,m⟩)
  |none=>none)=goE X ps a b E K l m
 | [],m=>rfl
 | x::l,m=>by
  have ih:=goE_ok ps a b E l;unfold goE evEach evRound;cases hp:putPs ps x (roundE E) with
  |none=>exact af _ _
  | some e1=>
   simp only[goPut];unfold go;rw[aj];cases ha:evC X.cfg (X.dep+1) a ⟨e1,m⟩ with
   |none=>exact af _ _
   | some r=>
    obtain⟨e,s1⟩:=r;cases e with
    | normal=>
     show _=goRnd X b K E (goE X ps a b E K l) .normal s1;simp only[goRnd];unfold go;rw[aj];cases hb:evC X.cfg (X.dep+1) b s1 with
     |none=>exact af _ _
     | some r=>
      obtain⟨e,s2⟩:=r;cases e with
      |normal=>exact ih _
      |ret=>exact j3 _ _ _
      |exit id=>rfl
    |ret=>exact af _ _
    |exit id=>exact af _ _
theorem go_each (x:IOpd) (ps:List Nat) (a b:ICode):go X (.c (.each x ps a b)::K) s=goEQ X ps a b K s ((val X.cfg s.get x).bind (itemsOf X.cfg)):=by
 unfold go;rw[aj,evC_each];cases(val X.cfg s.get x).bind (itemsOf X.cfg) with
 |none=>exact af _ _
 |some l=>exact goE_ok ps a b _ l s.mem
noncomputable def goR (X:Kx) (ops:List IOper) (keep:List Nat) (K:List Kf) (s:St):Ans:=
 match evOps X.cfg (evL X.cfg) X.dep ops s with
 |some s'=>go X K (settle X.dep keep s')
 |none=>none
theorem go_region (ops:List IOper) (keep:List Nat):go X (.c (.region ops [] keep)::K) s=goR X ops keep K s:=by
 unfold go goR;rw[aj,tv,evRegion];cases evOps X.cfg (evL X.cfg) X.dep ops s with
 |none=>exact af _ _
 |some s'=>rfl
theorem ag {cfg:Cfg} {f:FuncId} {fn:IFunc} (hx:cfg.ext f=none) (hf:cfg.funcs f=some fn) (dep:Nat) (vs:List V) (m:List (Cel×V)) (ha:vs.length=fn.arity) (hp:argsOk vs m=true):
  evL cfg f dep vs m=go (fx cfg dep fn.results) [.c fn.body] ⟨entry 0 vs,m⟩:=by
 rw[evL_fn hx hf];unfold evB;rw[if_pos ⟨ha,hp⟩];unfold go;rw[aj];cases evC cfg dep fn.body ⟨entry 0 vs,m⟩ with
 |none=>rfl
 | some r=>
  obtain⟨e,s⟩:=r;cases e<;>rfl
end Go.Ev
namespace Go.Ev
open Go
variable {X:Kx} {K:List Kf} {s:St} {cfg:Cfg} {orc:Orc} {dep:Nat}
noncomputable def goQ (X:Kx) (a b:ICode) (K:List Kf) (s:St):Option V→Ans
 |some (.d (.bool t))=>if t then go X (.c a::K) s else go X (.c b::K) s
 |some (.d .unkB)=>aj X K (bothWays (evC X.cfg X.dep a s) (evC X.cfg X.dep b s))
 |_=>none
theorem go_condQ (x:IOpd) (a b:ICode):go X (.c (.cond x a b)::K) s=goQ X a b K s (val X.cfg s.get x):=by
 unfold go;rw[aj,evC_cond];generalize val X.cfg s.get x=v;cases v with
 |none=>exact af _ _
 | some v=>
  cases v with
  | d y=>
   cases y with
   |bool t=>cases t<;>(simp only[goQ];unfold go;simp[aj])
   |unkB=>rfl
   |_=>exact af _ _
  |_=>exact af _ _
theorem goQ_t (a b:ICode):goQ X a b K s (some (.d (.bool true)))=go X (.c a::K) s:=rfl
theorem goQ_f (a b:ICode):goQ X a b K s (some (.d (.bool false)))=go X (.c b::K) s:=rfl
noncomputable def goC (X:Kx) (o:IOper) (r:List IOper) (keep:List Nat) (K:List Kf) (s:St):Option (List (Loc×V))→Ans
 |some u=>goR X r keep K (s.upd u)
 | none=>match stepM X.cfg (evL X.cfg) X.dep s o with
  |some s'=>goR X r keep K s'
  |none=>none
theorem goR_step (o:IOper) (r:List IOper) (keep:List Nat):goR X (o::r) keep K s=goC X o r keep K s (stepU X.cfg (evL X.cfg) X.dep s.get o):=by
 unfold goR;rw[evOps];unfold goC evStep;cases stepU X.cfg (evL X.cfg) X.dep s.get o with
 |some u=>rfl
 | none=>
  simp only;cases stepM X.cfg (evL X.cfg) X.dep s o<;>rfl
theorem goC_some (o:IOper) (r:List IOper) (keep:List Nat) (u:List (Loc×V)):goC X o r keep K s (some u)=goR X r keep K (s.upd u):=rfl
theorem goR_end (keep:List Nat) (e:List (Nat×V)) (m:List (Cel×V)):goR X [] keep K ⟨e,m⟩=go X K ⟨settleE X.dep keep e,settleM X.dep m⟩:=rfl
theorem get_slot (e:List (Nat×V)) (m:List (Cel×V)) (k:Nat):St.get ⟨e,m⟩ (.slot k)=lk e k:=rfl
theorem get_cell (e:List (Nat×V)) (m:List (Cel×V)) (c:Cel):St.get ⟨e,m⟩ (.cell c)=lk m c:=rfl
theorem upd_nil:s.upd []=s:=rfl
theorem upd_slot (e:List (Nat×V)) (m:List (Cel×V)) (k:Nat) (v:V) (u:List (Loc×V)):St.upd ⟨e,m⟩ ((.slot k,v)::u)=St.upd ⟨Go.Ev.st e k v,m⟩ u:=rfl
theorem upd_cell (e:List (Nat×V)) (m:List (Cel×V)) (c:Cel) (v:V) (u:List (Loc×V)):St.upd ⟨e,m⟩ ((.cell c,v)::u)=St.upd ⟨e,Go.Ev.st m c v⟩ u:=rfl
theorem a2p (k:Nat) (v:V):put1 (some k) v=[(.slot k,v)]:=rfl
theorem val_t (s:Get) (k:Nat):val cfg s (.t k)=s (.slot k):=rfl
theorem val_c (s:Get) (x:D):val cfg s (.c x)=some (.d x):=rfl
theorem vals_nil (s:Get):vals cfg s []=some []:=rfl
theorem aw9 (s:Get) (x:IOpd) (r:List IOpd):vals cfg s (x::r)=(val cfg s x).bind fun v=>(vals cfg s r).bind fun vs=>some (v::vs):=by
 rw[vals];cases val cfg s x<;>cases vals cfg s r<;>rfl
theorem dats_nil (s:Get):dats cfg s []=some []:=rfl
theorem a4f (s:Get) (x:IOpd) (r:List IOpd):dats cfg s (x::r)=(dat cfg s x).bind fun v=>(dats cfg s r).bind fun vs=>some (v::vs):=by
 rw[dats];cases dat cfg s x<;>cases dats cfg s r<;>rfl
theorem bind_some {α β:Type} (a:α) (f:α→Option β):(some a).bind f=f a:=rfl
theorem U_guard (s:Get) (dst:Option Nat) (k:Nat) (b t:Bool) (op:IOp) (h:s (.slot k)=some (.d (.bool t))):stepU cfg orc dep s ⟨dst,some (k,b),op⟩=if t==b then stepU cfg orc dep s ⟨dst,none,op⟩ else some (put1 dst (.d (.tup []))):=by
 unfold stepU;simp only[guardOk,h];cases t<;>cases b<;>rfl
theorem U_guard0 (s:Get) (dst:Option Nat) (k:Nat) (b:Bool) (op:IOp) (h:s (.slot k)=some (.d (.tup []))):stepU cfg orc dep s ⟨dst,some (k,b),op⟩=some (put1 dst (.d (.tup []))):=by
 unfold stepU;simp only[guardOk,h]
def gU (cfg:Cfg) (orc:Orc) (dep:Nat) (s:Get) (dst:Option Nat) (b:Bool) (op:IOp):Option V→Option (List (Loc×V))
 |some (.d (.bool t))=>if t==b then stepU cfg orc dep s ⟨dst,none,op⟩ else some (put1 dst (.d (.tup [])))
 |some (.d (.tup []))=>some (put1 dst (.d (.tup [])))
 |_=>none
theorem U_g (s:Get) (dst:Option Nat) (k:Nat) (b:Bool) (op:IOp):stepU cfg orc dep s ⟨dst,some (k,b),op⟩=gU cfg orc dep s dst b op (s (.slot k)):=by
 unfold gU;split
 · rename_i t h;exact U_guard s dst k b t op h
 · rename_i h;exact U_guard0 s dst k b op h
 · rename_i h1 h2
   unfold stepU;have:guardOk s (some (k,b))=none:=by
    unfold guardOk;split
    · rename_i e;cases e
    · rename_i e
      cases e;split
      · rename_i t h;exact absurd h (h1 t)
      · rename_i h;exact absurd h h2
      · rfl
   rw[this]
theorem gU_b (s:Get) (dst:Option Nat) (b t:Bool) (op:IOp):gU cfg orc dep s dst b op (some (.d (.bool t)))=if t==b then stepU cfg orc dep s ⟨dst,none,op⟩ else some (put1 dst (.d (.tup []))):=rfl
theorem gU_u (s:Get) (dst:Option Nat) (b:Bool) (op:IOp):gU cfg orc dep s dst b op (some (.d (.tup [])))=some (put1 dst (.d (.tup []))):=rfl
theorem U_mv (s:Get) (k:Nat) (x:IOpd):stepU cfg orc dep s ⟨some k,none,.mv x⟩=(val cfg s x).bind fun v=>evMv (some k) x v:=rfl
theorem U_asg (s:Get) (k:Nat) (x:IOpd):stepU cfg orc dep s ⟨some k,none,.asg x⟩=(val cfg s x).bind fun v=>evAsg s (some k) x v:=rfl
def aum (dst:Option Nat):Option V→Option (List (Loc×V))
 |some (.d x)=>some (put1 dst (.d x))
 |_=>none
def pickU (dst:Option Nat) (f:Bool→Option V):Option V→Option (List (Loc×V))
 |some (.d (.bool t))=>aum dst (f t)
 |_=>none
theorem pickU_b (dst:Option Nat) (f:Bool→Option V) (t:Bool):pickU dst f (some (.d (.bool t)))=aum dst (f t):=rfl
theorem evPick_d (k:Nat) (x:D):aum (some k) (some (.d x))=some [(.slot k,.d x)]:=rfl
theorem U_pick (s:Get) (k:Nat) (c a b:IOpd):stepU cfg orc dep s ⟨some k,none,.pick c a b⟩=pickU (some k) (fun t=>val cfg s (if t then a else b)) (val cfg s c):=by
 show evOp cfg dep s (some k) (.pick c a b)=_;simp only[evOp];generalize val cfg s c=v;cases v with
 |none=>rfl
 | some v=>
  cases v with
  | d y=>
   cases y with
   |bool t=>simp only[pickU,aum];rfl
   |_=>rfl
  |_=>rfl
theorem U_bin (s:Get) (k:Nat) (op:BinOp) (x y:IOpd):stepU cfg orc dep s ⟨some k,none,.bin op x y⟩=match val cfg s x,val cfg s y with
 |some (.d a),some (.d b)=>(D.bin op a b).map fun r=>[(.slot k,.d r)]
 |_,_=>none:=rfl
theorem U_eqn (s:Get) (k:Nat) (n:Bool) (c:ECls) (x y:IOpd):stepU cfg orc dep s ⟨some k,none,.eqn n c x y⟩=match val cfg s x,val cfg s y with
 |some a,some b=>(V.eqn cfg c a b).map fun r=>[(.slot k,.d (.bool (if n then !r else r)))]
 |_,_=>none:=rfl
theorem U_isNil (s:Get) (k:Nat) (n:Bool) (x:IOpd):stepU cfg orc dep s ⟨some k,none,.isNil n x⟩=(val cfg s x).bind fun v=>(ll n v).map fun r=>[(.slot k,.d r)]:=rfl
theorem U_un (s:Get) (k:Nat) (op:UnOp) (x:IOpd):stepU cfg orc dep s ⟨some k,none,.un op x⟩=match val cfg s x with
 |some (.d a)=>(D.un op a).map fun r=>[(.slot k,.d r)]
 |_=>none:=rfl
theorem U_cvInt (s:Get) (j:Nat) (k:IntKind) (x:IOpd):stepU cfg orc dep s ⟨some j,none,.cvInt k x⟩=match val cfg s x with
 |some (.d (.int _ n))=>some [(.slot j,.d (.int k (k.wrap n)))]
 |_=>none:=rfl
theorem U_b2s (s:Get) (k:Nat) (x:IOpd):stepU cfg orc dep s ⟨some k,none,.b2s x⟩=((val cfg s x).bind (cont s)).bind fun es=>(bu es).map fun b=>[(.slot k,.d (.str b))]:=rfl
theorem U_load (s:Get) (k:Nat) (z:Option Nat) (x:IOpd):stepU cfg orc dep s ⟨some k,none,.load z x⟩=(val cfg s x).bind fun v=>dx s (some k) z v:=rfl
def stoV (cfg:Cfg) (s:Get) (n:Nat) (a x:IOpd):Option (List (Loc×V)):=match val cfg s a,val cfg s x with
 |some a,some v=>br s n a x v
 |_,_=>none
def stoG (cfg:Cfg) (s:Get) (n:Nat) (a x:IOpd):Option V→Option (List (Loc×V))
 |some (.bref _ _ _)=>(stoV cfg (updG s (giveUp s [a,x])) n a x).map (giveUp s [a,x]++ ·)
 |_=>stoV cfg s n a x
theorem U_store (s:Get) (n:Nat) (a x:IOpd):stepU cfg orc dep s ⟨none,none,.store n a x⟩=stoG cfg s n a x (val cfg s a):=by
 show evOpD cfg dep s none (.store n a x)=_;unfold evOpD stoG;cases h:val cfg s a with
 |none=>simp only[gives,h];rfl
 |some v=>cases v<;>(simp only[gives,h];rfl)
theorem axg (s:Get) (n:Nat) (a x:IOpd) (l:Loc) (i o:Nat):stoG cfg s n a x (some (.bref l i o))=(stoV cfg (updG s (giveUp s [a,x])) n a x).map (giveUp s [a,x]++ ·):=rfl
theorem stoG_ref (s:Get) (n:Nat) (a x:IOpd) (d k o:Nat):stoG cfg s n a x (some (.ref d k o))=stoV cfg s n a x:=rfl
theorem stoV_def (s:Get) (n:Nat) (a x:IOpd):stoV cfg s n a x=(val cfg s a).bind fun p=>(val cfg s x).bind fun v=>br s n p x v:=by
 unfold stoV;cases val cfg s a with
 |none=>rfl
 |some p=>cases val cfg s x<;>rfl
def tp (l:Loc) (r:List (Loc×V)):Option V→List (Loc×V)
 |some (.own false _ es)=>(l,.d (.sl es))::r
 |_=>r
def gz (s:Get) (k:Nat) (r:List (Loc×V)):Option V→List (Loc×V)
 |some (.own _ _ es)=>(.slot k,.d (.sl es))::r
 |some (.bor l _ _)=>tp l r (s l)
 |_=>r
def tn (k o n:Nat) (r:List (Loc×V)):Option V→List (Loc×V)
 |some (.own false _ es)=>(.slot k,.d (.sl ((es.drop o).take n)))::r
 |_=>r
def gy (s:Get) (k:Nat) (r:List (Loc×V)):Option V→List (Loc×V)
 |some (.bor l o n)=>tn k o n r (s l)
 |_=>r
theorem awb (s:Get) (l:List IOpd):giveUp s l=giveL s l++giveP s l:=rfl
theorem a3q (s:Get):giveL s []=[]:=rfl
theorem giveL_c (s:Get) (d:D) (r:List IOpd):giveL s (.c d::r)=giveL s r:=rfl
theorem giveL_g (s:Get) (n:Nat) (r:List IOpd):giveL s (.g n::r)=giveL s r:=rfl
theorem a3p (s:Get):giveP s []=[]:=rfl
theorem giveP_c (s:Get) (d:D) (r:List IOpd):giveP s (.c d::r)=giveP s r:=rfl
theorem giveP_g (s:Get) (n:Nat) (r:List IOpd):giveP s (.g n::r)=giveP s r:=rfl
theorem giveL_t (s:Get) (k:Nat) (r:List IOpd):giveL s (.t k::r)=gz s k (giveL s r) (s (.slot k)):=by
 unfold gz tp;rw[giveL];cases s (.slot k) with
 |none=>rfl
 |some v=>cases v<;>rfl
theorem giveP_t (s:Get) (k:Nat) (r:List IOpd):giveP s (.t k::r)=gy s k (giveP s r) (s (.slot k)):=by
 unfold gy tn;rw[giveP];cases s (.slot k) with
 |none=>rfl
 |some v=>cases v<;>rfl
theorem awl (s:Get) (k:Nat) (r:List (Loc×V)) (nw:Bool) (z:Nat) (es:List D):gz s k r (some (.own nw z es))=(.slot k,.d (.sl es))::r:=rfl
theorem awo (s:Get) (k:Nat) (r:List (Loc×V)) (l:Loc) (o n:Nat):gz s k r (some (.bor l o n))=tp l r (s l):=rfl
theorem awe (s:Get) (k:Nat) (r:List (Loc×V)) (nw:Bool) (z:Nat) (es:List D):gy s k r (some (.own nw z es))=r:=rfl
theorem awh (s:Get) (k:Nat) (r:List (Loc×V)) (l:Loc) (o n:Nat):gy s k r (some (.bor l o n))=tn k o n r (s l):=rfl
theorem awp (l:Loc) (r:List (Loc×V)) (z:Nat) (es:List D):tp l r (some (.own false z es))=(l,.d (.sl es))::r:=rfl
theorem awi (k o n:Nat) (r:List (Loc×V)) (z:Nat) (es:List D):tn k o n r (some (.own false z es))=(.slot k,.d (.sl ((es.drop o).take n)))::r:=rfl
theorem giveLB_d (l:Loc) (r:List (Loc×V)) (y:D):tp l r (some (.d y))=r:=rfl
theorem givePB_d (k o n:Nat) (r:List (Loc×V)) (y:D):tn k o n r (some (.d y))=r:=rfl
theorem ai4 (l:Loc) (r:List (Loc×V)):tp l r none=r:=rfl
theorem aiz (k o n:Nat) (r:List (Loc×V)):tn k o n r none=r:=rfl
theorem giveLQ_d (s:Get) (k:Nat) (r:List (Loc×V)) (y:D):gz s k r (some (.d y))=r:=rfl
theorem ai3 (s:Get) (k:Nat) (r:List (Loc×V)) (l:Loc) (o n:Nat):gz s k r (some (.bref l o n))=r:=rfl
theorem ai2 (s:Get) (k:Nat) (r:List (Loc×V)) (e:D) (o:Nat):gz s k r (some (.iptr e o))=r:=rfl
theorem awk (s:Get) (k:Nat) (r:List (Loc×V)) (d j o:Nat):gz s k r (some (.ref d j o))=r:=rfl
theorem awn (s:Get) (k:Nat) (r:List (Loc×V)) (f:FuncId) (a b:List V):gz s k r (some (.clo f a b))=r:=rfl
theorem awm (s:Get) (k:Nat) (r:List (Loc×V)) (t:TypeId) (v:V):gz s k r (some (.ifc t v))=r:=rfl
theorem awj (s:Get) (k:Nat) (r:List (Loc×V)) (ys:List V):gz s k r (some (.vec ys))=r:=rfl
theorem ai0 (s:Get) (k:Nat) (r:List (Loc×V)) (y:V):gz s k r (some (.vref y))=r:=rfl
theorem awc (s:Get) (k:Nat) (r:List (Loc×V)) (ys:List V):gy s k r (some (.vec ys))=r:=rfl
theorem aiv (s:Get) (k:Nat) (r:List (Loc×V)) (y:V):gy s k r (some (.vref y))=r:=rfl
theorem ai1 (s:Get) (k:Nat) (r:List (Loc×V)):gz s k r (some (.junk))=r:=rfl
theorem givePQ_d (s:Get) (k:Nat) (r:List (Loc×V)) (y:D):gy s k r (some (.d y))=r:=rfl
theorem aiy (s:Get) (k:Nat) (r:List (Loc×V)) (l:Loc) (o n:Nat):gy s k r (some (.bref l o n))=r:=rfl
theorem aix (s:Get) (k:Nat) (r:List (Loc×V)) (e:D) (o:Nat):gy s k r (some (.iptr e o))=r:=rfl
theorem awd (s:Get) (k:Nat) (r:List (Loc×V)) (d j o:Nat):gy s k r (some (.ref d j o))=r:=rfl
theorem awg (s:Get) (k:Nat) (r:List (Loc×V)) (f:FuncId) (a b:List V):gy s k r (some (.clo f a b))=r:=rfl
theorem awf (s:Get) (k:Nat) (r:List (Loc×V)) (t:TypeId) (v:V):gy s k r (some (.ifc t v))=r:=rfl
theorem aiw (s:Get) (k:Nat) (r:List (Loc×V)):gy s k r (some (.junk))=r:=rfl
theorem U_nilck (s:Get) (k:Nat) (x:IOpd):stepU cfg orc dep s ⟨some k,none,.nilck x⟩=(val cfg s x).bind fun v=>evNil (some k) v:=rfl
theorem U_alloc (s:Get) (k:Nat) (zs:List D):stepU cfg orc dep s ⟨some k,none,.alloc zs⟩=if(s (.cell ⟨dep,k,0⟩)).isSome||zs.isEmpty then none
 else some ((.slot k,.ref dep k 0)::db dep k 0 (zs.map .d)):=rfl
theorem U_box (s:Get) (k n:Nat) (x:IOpd):stepU cfg orc dep s ⟨some k,none,.box n x⟩=(val cfg s x).bind fun v=>evBox dep s k n v:=by
 show evOp cfg dep s (some k) (.box n x)=_;simp only[evOp];cases val cfg s x<;>rfl
def bldV (cfg:Cfg) (s:Get) (k:Nat) (zs:List D) (ps:List (Nat×Nat×IOpd)):Option (List (Loc×V)):=(c8 cfg s ps).bind fun l=>(fillD zs l).map fun cs=>[(.slot k,.d (.agg cs))]
theorem U_build (s:Get) (k:Nat) (zs:List D) (ps:List (Nat×Nat×IOpd)):stepU cfg orc dep s ⟨some k,none,.build zs ps⟩=(bldV cfg (updG s (giveUp s (ps.map fun p=>p.2.2))) k zs ps).map (giveUp s (ps.map fun p=>p.2.2)++ ·):=rfl
theorem bldV_def (s:Get) (k:Nat) (zs:List D) (ps:List (Nat×Nat×IOpd)):bldV cfg s k zs ps=(c8 cfg s ps).bind fun l=>(fillD zs l).map fun cs=>[(.slot k,.d (.agg cs))]:=rfl
def litO (cfg:Cfg) (s:Get) (k:Nat) (own:Bool) (z n:Nat) (zd:D) (ps:List (Nat×IOpd)):Option (List (Loc×V)):=(parts2 cfg s ps).bind fun l=>
 if zd.cells.length=z∧n≤1000∧zd.storable then
  (fillE z (List.replicate n zd) l).map fun es=>[(.slot k,if n=0 then .d .nilS else if own then .own true z es else .d (.sl es))] else none
def litV (cfg:Cfg) (s:Get) (k:Nat) (own:Bool) (z n:Nat) (zd:D) (ps:List (Nat×IOpd)):Option (List (Loc×V)):=
 match evVec cfg s (some k) z n ps with
 |some u=>some u
 |none=>litO cfg s k own z n zd ps
def vecV (cfg:Cfg) (s:Get) (k:Nat) (own:Bool) (z n:Nat) (zd:D) (ps:List (Nat×IOpd)):Option (List V)→Option (List (Loc×V))
 |some (y::ys)=>if z=1∧n=(y::ys).length then some [(.slot k,.vec (y::ys))] else litO cfg s k own z n zd ps
 |_=>litO cfg s k own z n zd ps
def litQ (cfg:Cfg) (s:Get) (k:Nat) (own:Bool) (z n:Nat) (zd:D) (ps:List (Nat×IOpd)):Option V→Option (List (Loc×V))
 |some (.ref _ _ _)=>vecV cfg s k own z n zd ps (cz cfg s 0 ps)
 |_=>litO cfg s k own z n zd ps
theorem U_lit (s:Get) (k:Nat) (own:Bool) (z n:Nat) (zd:D) (ps:List (Nat×IOpd)):stepU cfg orc dep s ⟨some k,none,.lit own z n zd ps⟩=(litV cfg (updG s (giveUp s (ps.map fun p=>p.2))) k own z n zd ps).map (giveUp s (ps.map fun p=>p.2)++ ·):=by
 show(evOp cfg dep (updG s (giveUp s (ps.map fun p=>p.2))) (some k) (.lit own z n zd ps)).map (giveUp s (ps.map fun p=>p.2)++ ·)=_
 congr 1
theorem litV_nil (s:Get) (k:Nat) (own:Bool) (z n:Nat) (zd:D):litV cfg s k own z n zd []=litO cfg s k own z n zd []:=rfl
theorem a23 (s:Get) (k:Nat) (own:Bool) (z n:Nat) (zd:D) (j:Nat) (x:IOpd) (r:List (Nat×IOpd)):litV cfg s k own z n zd ((j,x)::r)=litQ cfg s k own z n zd ((j,x)::r) (val cfg s x):=by
 unfold litV litQ evVec;cases hv:val cfg s x with
 |none=>simp only[cz,hv]
 | some v=>
  cases v with
  | ref d j' o=>
   dsimp only;unfold vecV;cases cz cfg s 0 ((j,x)::r) with
   |none=>rfl
   | some l=>cases l with
    |nil=>rfl
    | cons y ys=>
     dsimp only;by_cases h:z=1∧n=(y::ys).length
     · rw[if_pos h,if_pos h];rfl
     · rw[if_neg h,if_neg h]
  |_=>simp only[cz,hv]
theorem litQ_d (s:Get) (k:Nat) (own:Bool) (z n:Nat) (zd:D) (ps:List (Nat×IOpd)) (y:D):litQ cfg s k own z n zd ps (some (.d y))=litO cfg s k own z n zd ps:=rfl
theorem a24 (s:Get) (k:Nat) (own:Bool) (z n:Nat) (zd:D) (ps:List (Nat×IOpd)) (y:D) (o:Nat):litQ cfg s k own z n zd ps (some (.iptr y o))=litO cfg s k own z n zd ps:=rfl
theorem litQ_ref (s:Get) (k:Nat) (own:Bool) (z n:Nat) (zd:D) (ps:List (Nat×IOpd)) (d j o:Nat):litQ cfg s k own z n zd ps (some (.ref d j o))=vecV cfg s k own z n zd ps (cz cfg s 0 ps):=rfl
theorem aw8 (s:Get) (k:Nat) (own:Bool) (z n:Nat) (zd:D) (ps:List (Nat×IOpd)) (y:V) (ys:List V):vecV cfg s k own z n zd ps (some (y::ys))=if z=1∧n=(y::ys).length then some [(.slot k,.vec (y::ys))] else litO cfg s k own z n zd ps:=rfl
def refsQ (cfg:Cfg) (s:Get) (i j:Nat) (r:List (Nat×IOpd)):Option V→Option (List V)
 |some (.ref d k o)=>if j=i then(cz cfg s (i+1) r).map (.ref d k o:: ·) else none
 |_=>none
theorem avu (s:Get) (i:Nat):cz cfg s i []=some []:=rfl
theorem aft (s:Get) (i j:Nat) (x:IOpd) (r:List (Nat×IOpd)):cz cfg s i ((j,x)::r)=refsQ cfg s i j r (val cfg s x):=by
 unfold refsQ;rw[cz];rfl
theorem ayk (s:Get) (i j:Nat) (r:List (Nat×IOpd)) (d k o:Nat):refsQ cfg s i j r (some (.ref d k o))=if j=i then(cz cfg s (i+1) r).map (.ref d k o:: ·) else none:=rfl
theorem litO_def (s:Get) (k:Nat) (own:Bool) (z n:Nat) (zd:D) (ps:List (Nat×IOpd)):litO cfg s k own z n zd ps=(parts2 cfg s ps).bind fun l=>
 if zd.cells.length=z∧n≤1000∧zd.storable then
  (fillE z (List.replicate n zd) l).map fun es=>[(.slot k,if n=0 then .d .nilS else if own then .own true z es else .d (.sl es))] else none:=rfl
theorem U_mkI (s:Get) (k:Nat) (t:TypeId) (x:IOpd):stepU cfg orc dep s ⟨some k,none,.mkI t x⟩=match val cfg s x with
 |some (.d a)=>some [(.slot k,.d (.ifc t a.canon))]
 |some (.ref d j off)=>some [(.slot k,.ifc t (.ref d j off))]
 |some (.iptr e 0)=>some [(.slot k,.d (.ifc t (.ptr e)))]
 |_=>none:=rfl
theorem U_mkS (s:Get) (k z bytes:Nat) (zd:D) (l c:IOpd):stepU cfg orc dep s ⟨some k,none,.mkS z bytes zd l c⟩=match(dat cfg s l).bind D.toInt?,(dat cfg s c).bind D.toInt? with
 |some n,some m=>if 0≤n∧n≤m∧m≤bh∧bytes≤2048∧zd.cells.length=z∧zd.storable then some [(.slot k,.own true z (List.replicate n.toNat zd))] else none
 |_,_=>none:=rfl
theorem U_slice (s:Get) (k z:Nat) (x:IOpd) (lo hi mx:Option IOpd):stepU cfg orc dep s ⟨some k,none,.slice z x lo hi mx⟩=(val cfg s x).bind fun v=>fl cfg s (some k) z x v lo hi mx:=rfl
theorem U_sliceS (s:Get) (k:Nat) (x:IOpd) (lo hi:Option IOpd):stepU cfg orc dep s ⟨some k,none,.sliceS x lo hi⟩=match val cfg s x with
 |some (.d (.str b))=>(bc cfg s b.length lo hi).map fun(l,h)=>[(.slot k,.d (.str ((b.take h).drop l)))]
 |_=>none:=rfl
theorem U_fieldA (s:Get) (k off:Nat) (x:IOpd):stepU cfg orc dep s ⟨some k,none,.fieldA off x⟩=match val cfg s x with
 |some (.ref d j o)=>some [(.slot k,.ref d j (o+off))]
 |some (.bref l i o)=>some [(.slot k,.bref l i (o+off))]
 |some (.iptr e o)=>some [(.slot k,.iptr e (o+off))]
 |some (.d (.ptr e))=>some [(.slot k,.iptr e off)]
 |_=>none:=rfl
theorem U_field (s:Get) (k off:Nat) (z:Option Nat) (x:IOpd):stepU cfg orc dep s ⟨some k,none,.field off z x⟩=match val cfg s x with
 |some (.d (.agg cs))=>(ldD z (.agg cs) off).map fun r=>[(.slot k,.d r)]
 |_=>none:=rfl
def fldV (k off:Nat) (z:Option Nat):V→Option (List (Loc×V))
 | .d (.agg cs)=>(ldD z (.agg cs) off).map fun r=>[(.slot k,.d r)]
 |_=>none
theorem U_fieldV (s:Get) (k off:Nat) (z:Option Nat) (x:IOpd):stepU cfg orc dep s ⟨some k,none,.field off z x⟩=(val cfg s x).bind (fldV k off z):=by
 rw[U_field];cases val cfg s x with
 |none=>rfl
 | some v=>cases v with
  |d y=>cases y<;>rfl
  |_=>rfl
theorem fldV_agg (k off:Nat) (z:Option Nat) (cs:List D):fldV k off z (.d (.agg cs))=(ldD z (.agg cs) off).map fun r=>[(.slot k,.d r)]:=rfl
theorem U_idxA (s:Get) (k z:Nat) (x i:IOpd):stepU cfg orc dep s ⟨some k,none,.idxA z x i⟩=match val cfg s x,(dat cfg s i).bind D.toInt? with
 |some v,some n=>evIdx s (some k) z x v n
 |_,_=>none:=rfl
theorem U_idxS (s:Get) (k:Nat) (x i:IOpd):stepU cfg orc dep s ⟨some k,none,.idxS x i⟩=match val cfg s x,(dat cfg s i).bind D.toInt? with
 |some (.d (.str b)),some n=>if n<0 then none else(b[n.toNat]?).map fun c=>[(.slot k,.d (byteD c))]
 |_,_=>none:=rfl
theorem U_ext (s:Get) (k:Nat) (x:IOpd) (i:Nat):stepU cfg orc dep s ⟨some k,none,.ext x i⟩=match val cfg s x with
 |some (.d (.tup ds))=>(ds[i]?).map fun r=>[(.slot k,.d r)]
 |_=>none:=rfl
theorem U_lenS (s:Get) (k:Nat) (x:IOpd):stepU cfg orc dep s ⟨some k,none,.len true x⟩=match val cfg s x with
 |some (.d (.str b))=>some [(.slot k,.d (.int .i64 b.length))]
 |_=>none:=rfl
def V.len? :V→Option Nat
 | .d .nilS=>some 0
 | .d (.sl es)=>some es.length
 | .own _ _ es=>some es.length
 | .bor _ _ n=>some n
 | .vec ys=>some ys.length
 |_=>none
theorem U_len (s:Get) (k:Nat) (x:IOpd):stepU cfg orc dep s ⟨some k,none,.len false x⟩=((val cfg s x).bind V.len?).map fun n=>[(.slot k,.d (.int .i64 n))]:=by
 show evOp cfg dep s (some k) (.len false x)=_;simp only[evOp];cases val cfg s x with
 |none=>rfl
 | some v=>
  simp only[Option.bind_some];unfold V.len?;split<;>first|rfl| (rename_i h1 h2 h3 h4 h5;split<;>first|rfl|exact absurd rfl h1|exact absurd rfl (h2 _)|exact absurd rfl (h3 _ _ _)|exact absurd rfl (h4 _ _ _)|exact absurd rfl (h5 _))
theorem U_minmax (s:Get) (k:Nat) (mx:Bool) (xs:List IOpd):stepU cfg orc dep s ⟨some k,none,.minmax mx xs⟩=(dats cfg s xs).bind fun l=>(minD mx l).map fun r=>[(.slot k,.d r)]:=rfl
theorem U_append (s:Get) (k z bytes:Nat) (x y:IOpd):stepU cfg orc dep s ⟨some k,none,.append z bytes x y⟩=match val cfg s x,(val cfg s y).bind (cont s) with
 |some v,some ys=>cx s (some k) z bytes x v ys
 |_,_=>none:=rfl
theorem a5o (s:Get) (k:Nat) (x y:IOpd):stepU cfg orc dep s ⟨some k,none,.appendS x y⟩=match val cfg s x,val cfg s y with
 |some v,some (.d (.str b))=>cx s (some k) 1 1 x v (b.map byteD)
 |_,_=>none:=rfl
theorem U_copy (s:Get) (k z:Nat) (x y:IOpd):stepU cfg orc dep s ⟨some k,none,.copy z x y⟩=match val cfg s x,(val cfg s y).bind (cont s) with
 |some v,some ys=>mc s (some k) z x v ys
 |_,_=>none:=rfl
theorem U_tass (s:Get) (k:Nat) (t:TypeId) (zero:D) (ok:Bool) (x:IOpd):stepU cfg orc dep s ⟨some k,none,.tass t zero ok x⟩=(val cfg s x).bind fun v=>ael (some k) t zero ok v:=rfl
theorem U_call (s:Get) (k:Nat) (own:Bool) (f:FuncId) (args:List IOpd) (hc:clipArg cfg (.call own f args)=none):stepU cfg orc dep s ⟨some k,none,.call own f args⟩=(vals cfg s args).bind fun vs=>callW cfg orc s (some k) own f args vs:=by
 unfold stepU;simp only[guardOk,Option.isNone_some,Bool.false_and,zf,if_false,isCallOp,if_true,hc,target];cases vals cfg s args<;>rfl
theorem oa {own:Bool} {f:FuncId} {args:List IOpd} (h:cfg.clip f=false):clipArg cfg (.call own f args)=none:=by
 unfold clipArg;split
 · rename_i e;cases e;rw[h];rfl
 · rfl
theorem U_call' (s:Get) (k:Nat) (own:Bool) (f:FuncId) (args:List IOpd) (hc:cfg.clip f=false):stepU cfg orc dep s ⟨some k,none,.call own f args⟩=(vals cfg s args).bind fun vs=>callW cfg orc s (some k) own f args vs:=
 U_call s k own f args (oa hc)
theorem U_clip (s:Get) (k:Nat) (own:Bool) (f:FuncId) (x:IOpd) (hc:cfg.clip f=true):stepU cfg orc dep s ⟨some k,none,.call own f [x]⟩=(val cfg s x).bind fun v=>evClip (some k) x v:=by
 unfold stepU;simp only[guardOk,Option.isNone_some,Bool.false_and,zf,if_false,isCallOp,if_true,clipArg,hc]
end Go.Ev
namespace Go.Ev
open Go
attribute [go_sem] go_nil go_blk go_ret go_skip go_exit goX_c goX_b go_seq go_block go_condQ goQ_t goQ_f go_demote go_give goX_nil go_region goR_step goC_some goR_end get_slot get_cell upd_nil upd_slot upd_cell a2p val_t val_c vals_nil aw9 dats_nil a4f bind_some U_g gU_b gU_u U_mv U_asg U_pick pickU_b evPick_d U_bin U_eqn U_isNil U_un U_cvInt U_b2s U_load U_store U_nilck U_alloc U_box U_build U_lit U_mkI U_slice U_sliceS U_fieldA U_fieldV fldV_agg U_idxA U_idxS U_ext U_lenS U_len U_minmax U_append a5o U_copy U_tass axg stoG_ref stoV_def awb a3q giveL_c giveL_g giveL_t a3p giveP_c giveP_g giveP_t awl awo awe awh awp awi giveLB_d givePB_d ai4 aiz giveLQ_d ai3 ai2 awk awn awm ai1 givePQ_d aiy aix awd awg awf aiw bldV_def litV_nil a23 litQ_d a24 litQ_ref aw8 avu aft ayk litO_def awj ai0 awc aiv lk st settleM Option.map_some Option.map_none
section
@[go_sem] theorem can_int (k:IntKind) (n:Int):(D.int k n).can=(D.int k n):=rfl
@[go_sem] theorem can_bool (b:Bool):(D.bool b).can=(D.bool b):=rfl
@[go_sem] theorem can_str (t:List UInt8):(D.str t).can=(D.str t):=rfl
@[go_sem] theorem can_sl (es:List D):(D.sl es).can=(D.sl es):=rfl
@[go_sem] theorem can_nilP:D.nilP.can=D.nilP:=rfl
@[go_sem] theorem can_nilI:D.nilI.can=D.nilI:=rfl
@[go_sem] theorem can_nilF:D.nilF.can=D.nilF:=rfl
@[go_sem] theorem can_nilM:D.nilM.can=D.nilM:=rfl
@[go_sem] theorem can_ptr (e:D):(D.ptr e).can=(D.ptr e):=rfl
@[go_sem] theorem can_ifc (u:TypeId) (e:D):(D.ifc u e).can=(D.ifc u e):=rfl
@[go_sem] theorem can_fn (f:FuncId):(D.fn f).can=(D.fn f):=rfl
@[go_sem] theorem can_unk:D.unk.can=D.unk:=rfl
@[go_sem] theorem can_unkB:D.unkB.can=D.unkB:=rfl
@[go_sem] theorem can_nilS:D.nilS.can=D.sl []:=rfl
@[go_sem] theorem canA_int (k:IntKind) (n:Int):(D.int k n).canA=(D.int k n):=rfl
@[go_sem] theorem canA_bool (b:Bool):(D.bool b).canA=(D.bool b):=rfl
@[go_sem] theorem canA_str (t:List UInt8):(D.str t).canA=(D.str t):=rfl
@[go_sem] theorem canA_sl (es:List D):(D.sl es).canA=(D.sl es):=rfl
@[go_sem] theorem canA_nilP:D.nilP.canA=D.nilP:=rfl
@[go_sem] theorem canA_nilI:D.nilI.canA=D.nilI:=rfl
@[go_sem] theorem canA_nilF:D.nilF.canA=D.nilF:=rfl
@[go_sem] theorem canA_nilM:D.nilM.canA=D.nilM:=rfl
@[go_sem] theorem canA_ptr (e:D):(D.ptr e).canA=(D.ptr e):=rfl
@[go_sem] theorem canA_ifc (u:TypeId) (e:D):(D.ifc u e).canA=(D.ifc u e):=rfl
@[go_sem] theorem canA_fn (f:FuncId):(D.fn f).canA=(D.fn f):=rfl
@[go_sem] theorem canA_unk:D.unk.canA=D.unk:=rfl
@[go_sem] theorem canA_unkB:D.unkB.canA=D.unkB:=rfl
@[go_sem] theorem canA_nilS:D.nilS.canA=D.sl []:=rfl
@[go_sem] theorem canon_int (k:IntKind) (n:Int):(D.int k n).canon=(D.int k n):=rfl
@[go_sem] theorem canon_bool (b:Bool):(D.bool b).canon=(D.bool b):=rfl
@[go_sem] theorem canon_str (t:List UInt8):(D.str t).canon=(D.str t):=rfl
@[go_sem] theorem canon_sl (es:List D):(D.sl es).canon=(D.sl es):=rfl
@[go_sem] theorem canon_nilP:D.nilP.canon=D.nilP:=rfl
@[go_sem] theorem canon_nilI:D.nilI.canon=D.nilI:=rfl
@[go_sem] theorem canon_nilF:D.nilF.canon=D.nilF:=rfl
@[go_sem] theorem canon_nilM:D.nilM.canon=D.nilM:=rfl
@[go_sem] theorem canon_ptr (e:D):(D.ptr e).canon=(D.ptr e):=rfl
@[go_sem] theorem canon_ifc (u:TypeId) (e:D):(D.ifc u e).canon=(D.ifc u e):=rfl
@[go_sem] theorem canon_fn (f:FuncId):(D.fn f).canon=(D.fn f):=rfl
@[go_sem] theorem canon_unk:D.unk.canon=D.unk:=rfl
@[go_sem] theorem canon_unkB:D.unkB.canon=D.unkB:=rfl
@[go_sem] theorem canon_nilS:D.nilS.canon=D.sl []:=rfl
@[go_sem] theorem can_agg (cs:List D):(D.agg cs).can= .agg cs:=rfl
@[go_sem] theorem can_tup (cs:List D):(D.tup cs).can= .tup cs:=rfl
@[go_sem] theorem canA_agg (cs:List D):(D.agg cs).canA= .agg (cs.map D.can):=rfl
@[go_sem] theorem canon_agg (cs:List D):(D.agg cs).canon= .agg (cs.map D.can):=rfl
@[go_sem] theorem canon_tup (cs:List D):(D.tup cs).canon= .tup (cs.map D.canA):=rfl
@[go_sem] theorem cells_agg (cs:List D):(D.agg cs).cells=cs:=rfl
@[go_sem] theorem cells_int (k:IntKind) (n:Int):(D.int k n).cells=[.int k n]:=rfl
@[go_sem] theorem cells_bool (b:Bool):(D.bool b).cells=[.bool b]:=rfl
@[go_sem] theorem cells_str (b:List UInt8):(D.str b).cells=[.str b]:=rfl
@[go_sem] theorem cells_sl (es:List D):(D.sl es).cells=[.sl es]:=rfl
@[go_sem] theorem cells_nilS:D.nilS.cells=[.nilS]:=rfl
@[go_sem] theorem cells_nilP:D.nilP.cells=[.nilP]:=rfl
@[go_sem] theorem cells_nilI:D.nilI.cells=[.nilI]:=rfl
@[go_sem] theorem cells_nilF:D.nilF.cells=[.nilF]:=rfl
@[go_sem] theorem cells_nilM:D.nilM.cells=[.nilM]:=rfl
@[go_sem] theorem cells_ptr (e:D):(D.ptr e).cells=[.ptr e]:=rfl
@[go_sem] theorem cells_ifc (t:TypeId) (e:D):(D.ifc t e).cells=[.ifc t e]:=rfl
@[go_sem] theorem cells_fn (f:FuncId):(D.fn f).cells=[.fn f]:=rfl
@[go_sem] theorem cells_unk:D.unk.cells=[.unk]:=rfl
end
variable {cfg:Cfg} {s:Get} {dep:Nat}
@[go_sem] theorem toInt_int (k:IntKind) (n:Int):(D.int k n).toInt? =some n:=rfl
@[go_sem] theorem len_nilS:V.len? (.d .nilS)=some 0:=rfl
@[go_sem] theorem len_sl (es:List D):V.len? (.d (.sl es))=some es.length:=rfl
@[go_sem] theorem len_own (nw:Bool) (z:Nat) (es:List D):V.len? (.own nw z es)=some es.length:=rfl
@[go_sem] theorem len_vec (ys:List V):V.len? (.vec ys)=some ys.length:=rfl
@[go_sem] theorem len_bor (l:Loc) (o n:Nat):V.len? (.bor l o n)=some n:=rfl
@[go_sem] theorem home_d (y:D):V.home dep (.d y)= .d y:=rfl
@[go_sem] theorem home_own (nw:Bool) (z:Nat) (es:List D):V.home dep (.own nw z es)= .own false z es:=rfl
@[go_sem] theorem home_bor (l:Loc) (o n:Nat):V.home dep (.bor l o n)= .junk:=rfl
@[go_sem] theorem home_bref (l:Loc) (o n:Nat):V.home dep (.bref l o n)= .junk:=rfl
@[go_sem] theorem home_iptr (e:D) (o:Nat):V.home dep (.iptr e o)= .iptr e o:=rfl
@[go_sem] theorem home_junk:V.home dep .junk= .junk:=rfl
@[go_sem] theorem home_ref (d k o:Nat):V.home dep (.ref d k o)=if decide (d<dep+1)=true then .ref d k o else .junk:=rfl
@[go_sem] theorem home_vec (ys:List V):V.home dep (.vec ys)=if V.upTos (dep+1) ys=true then .vec ys else .junk:=rfl
@[go_sem] theorem home_vref (y:V):V.home dep (.vref y)=if V.upTo (dep+1) y=true then .vref y else .junk:=rfl
@[go_sem] theorem home_clo (f:FuncId) (a b:List V):V.home dep (.clo f a b)=if V.upTo (dep+1) (.clo f a b)=true then .clo f a b else .junk:=rfl
@[go_sem] theorem home_ifc (t:TypeId) (v:V):V.home dep (.ifc t v)=if V.upTo (dep+1) v=true then .ifc t v else .junk:=rfl
@[go_sem] theorem settleE_nil (e:List (Nat×V)):settleE dep [] e=[]:=rfl
def setK (dep k:Nat) (r:List Nat) (e:List (Nat×V)):Option V→List (Nat×V)
 |some v=>(k,v.home dep)::settleE dep r e
 |none=>settleE dep r e
@[go_sem] theorem settleE_cons (k:Nat) (r:List Nat) (e:List (Nat×V)):settleE dep (k::r) e=setK dep k r e (lk e k):=by
 unfold setK;rw[settleE];cases lk e k<;>rfl
@[go_sem] theorem setK_some (k:Nat) (r:List Nat) (e:List (Nat×V)) (v:V):setK dep k r e (some v)=(k,v.home dep)::settleE dep r e:=rfl
@[go_sem] theorem setK_none (k:Nat) (r:List Nat) (e:List (Nat×V)):setK dep k r e none=settleE dep r e:=rfl
@[go_sem] theorem upTo_ref (n d k o:Nat):V.upTo n (.ref d k o)=decide (d<n):=rfl
@[go_sem] theorem upTo_d (n:Nat) (x:D):V.upTo n (.d x)=true:=rfl
@[go_sem] theorem upTo_iptr (n:Nat) (x:D) (o:Nat):V.upTo n (.iptr x o)=true:=rfl
@[go_sem] theorem upTo_junk (n:Nat):V.upTo n .junk=true:=rfl
@[go_sem] theorem upTo_bor (n:Nat) (l:Loc) (a b:Nat):V.upTo n (.bor l a b)=false:=rfl
@[go_sem] theorem upTo_bref (n:Nat) (l:Loc) (a b:Nat):V.upTo n (.bref l a b)=false:=rfl
@[go_sem] theorem upTo_ifc (n:Nat) (t:TypeId) (v:V):V.upTo n (.ifc t v)=v.upTo n:=rfl
section
variable (dst:Option Nat) (x:IOpd)
@[go_sem] theorem evMv_d (y:D):evMv dst x (.d y)=some (put1 dst (.d y)):=by cases x<;>rfl
@[go_sem] theorem evMv_ref (d k o:Nat):evMv dst x (.ref d k o)=some (put1 dst (.ref d k o)):=by cases x<;>rfl
@[go_sem] theorem evMv_iptr (e:D) (o:Nat):evMv dst x (.iptr e o)=some (put1 dst (.iptr e o)):=by cases x<;>rfl
@[go_sem] theorem evMv_bref (l:Loc) (i o:Nat):evMv dst x (.bref l i o)=some (put1 dst (.bref l i o)):=by cases x<;>rfl
@[go_sem] theorem evMv_bor (l:Loc) (i o:Nat):evMv dst x (.bor l i o)=some (put1 dst (.bor l i o)):=by cases x<;>rfl
@[go_sem] theorem evMv_ifc (t:TypeId) (v:V):evMv dst x (.ifc t v)=some (put1 dst (.ifc t v)):=by cases x<;>rfl
@[go_sem] theorem evMv_vec (ys:List V):evMv dst x (.vec ys)=some (put1 dst (.vec ys)):=by cases x<;>rfl
@[go_sem] theorem evMv_vref (y:V):evMv dst x (.vref y)=some (put1 dst (.vref y)):=by cases x<;>rfl
@[go_sem] theorem evMv_clo (f:FuncId) (a b:List V):evMv dst x (.clo f a b)=some (put1 dst (.clo f a b)):=by cases x<;>rfl
@[go_sem] theorem evMv_ownF (k z:Nat) (es:List D):evMv dst (.t k) (.own false z es)=some (put1 dst (.bor (.slot k) 0 es.length)):=rfl
@[go_sem] theorem evMv_ownT (k z:Nat) (es:List D):evMv dst (.t k) (.own true z es)=some (put1 dst (.own true z es)++[(.slot k,.junk)]):=rfl
@[go_sem] theorem evAsg_d (y:D):evAsg s dst x (.d y)=some (put1 dst (.d y)):=by cases x<;>rfl
@[go_sem] theorem evAsg_ref (d k o:Nat):evAsg s dst x (.ref d k o)=some (put1 dst (.ref d k o)):=by cases x<;>rfl
@[go_sem] theorem evAsg_iptr (e:D) (o:Nat):evAsg s dst x (.iptr e o)=some (put1 dst (.iptr e o)):=by cases x<;>rfl
@[go_sem] theorem evAsg_ifc (t:TypeId) (v:V):evAsg s dst x (.ifc t v)=some (put1 dst (.ifc t v)):=by cases x<;>rfl
@[go_sem] theorem evAsg_vec (ys:List V):evAsg s dst x (.vec ys)=some (put1 dst (.vec ys)):=by cases x<;>rfl
@[go_sem] theorem evAsg_vref (y:V):evAsg s dst x (.vref y)=some (put1 dst (.vref y)):=by cases x<;>rfl
@[go_sem] theorem evLoad_vref (y:V):dx s dst none (.vref y)=if y.plainV then some (put1 dst y) else none:=rfl
@[go_sem] theorem evAsg_clo (f:FuncId) (a b:List V):evAsg s dst x (.clo f a b)=some (put1 dst (.clo f a b)):=by cases x<;>rfl
@[go_sem] theorem evAsg_own (nw:Bool) (k z:Nat) (es:List D):evAsg s dst (.t k) (.own nw z es)=some (put1 dst (.own true z es)++[(.slot k,.junk)]):=rfl
def borQ (dst:Option Nat) (l:Loc) (off n:Nat):Option V→Option (List (Loc×V))
 |some (.own false z es)=>if off=0∧n=es.length then
  (if dst.map Loc.slot=some l then some [(l,.own true z es)] else some (put1 dst (.own true z es)++[(l,.junk)])) else none
 |_=>none
@[go_sem] theorem evAsg_bor (l:Loc) (off n:Nat):evAsg s dst x (.bor l off n)=borQ dst l off n (s l):=by
 cases x<;>(simp only[evAsg];unfold borQ;rfl)
@[go_sem] theorem borQ_own (l:Loc) (z:Nat) (es:List D):borQ dst l 0 es.length (some (.own false z es))=if dst.map Loc.slot=some l then some [(l,.own true z es)] else some (put1 dst (.own true z es)++[(l,.junk)]):=by
 unfold borQ;simp
@[go_sem] theorem evLoad_iptr (z:Option Nat) (e:D) (off:Nat):dx s dst z (.iptr e off)=(ldD z e off).map fun x=>put1 dst (.d x):=rfl
@[go_sem] theorem evLoad_ptr (z:Option Nat) (e:D):dx s dst z (.d (.ptr e))=(ldD z e 0).map fun x=>put1 dst (.d x):=rfl
def brefQ (dst:Option Nat) (z:Option Nat) (i off:Nat):Option V→Option (List (Loc×V))
 |some (.own false _ es)=>(es[i]?).bind fun e=>(ldD z e off).map fun x=>put1 dst (.d x)
 |_=>none
@[go_sem] theorem evLoad_bref (z:Option Nat) (l:Loc) (i off:Nat):dx s dst z (.bref l i off)=brefQ dst z i off (s l):=by unfold brefQ;simp only[dx];rfl
@[go_sem] theorem brefQ_own (z:Option Nat) (i off z':Nat) (es:List D):brefQ dst z i off (some (.own false z' es))=(es[i]?).bind fun e=>(ldD z e off).map fun x=>put1 dst (.d x):=rfl
def refQ (dst:Option Nat) (d k off:Nat):Option V→Option (List (Loc×V))
 |some (.own false _ es)=>some (put1 dst (.bor (.cell ⟨d,k,off⟩) 0 es.length))
 |some v=>if v.plainV then some (put1 dst v) else none
 |none=>none
@[go_sem] theorem evLoad_ref (d k off:Nat):dx s dst none (.ref d k off)=refQ dst d k off (s (.cell ⟨d,k,off⟩)):=by unfold refQ;simp only[dx];rfl
@[go_sem] theorem refQ_own (d k off z:Nat) (es:List D):refQ dst d k off (some (.own false z es))=some (put1 dst (.bor (.cell ⟨d,k,off⟩) 0 es.length)):=rfl
@[go_sem] theorem refQ_d (d k off:Nat) (y:D):refQ dst d k off (some (.d y))=some (put1 dst (.d y)):=rfl
@[go_sem] theorem refQ_ref (d k off a b c:Nat):refQ dst d k off (some (.ref a b c))=some (put1 dst (.ref a b c)):=rfl
@[go_sem] theorem refQ_iptr (d k off:Nat) (e:D) (o:Nat):refQ dst d k off (some (.iptr e o))=some (put1 dst (.iptr e o)):=rfl
@[go_sem] theorem evLoad_refN (d k off n:Nat):dx s dst (some n) (.ref d k off)=(cw s d k off n).map fun(cs,u)=>u++put1 dst (.d (.agg cs)):=rfl
@[go_sem] theorem ldD_none (e:D) (off:Nat):ldD none e off=e.cells[off]? :=rfl
@[go_sem] theorem ldD_some (z:Nat) (e:D) (off:Nat):ldD (some z) e off=if off+z≤e.cells.length then some (.agg ((e.cells.drop off).take z)) else none:=rfl
end
@[go_sem] theorem dat_def (x:IOpd):dat cfg s x=(val cfg s x).bind V.asD:=rfl
@[go_sem] theorem asD_d (x:D):V.asD (.d x)=some x.canon:=rfl
@[go_sem] theorem asD_iptr (e:D):V.asD (.iptr e 0)=some (.ptr e):=rfl
@[go_sem] theorem cont_nilS:cont s (.d .nilS)=some []:=rfl
@[go_sem] theorem cont_sl (es:List D):cont s (.d (.sl es))=some es:=rfl
@[go_sem] theorem cont_own (nw:Bool) (z:Nat) (es:List D):cont s (.own nw z es)=some es:=rfl
def contQ (off n:Nat):Option V→Option (List D)
 |some (.own false _ es)=>some ((es.drop off).take n)
 |_=>none
@[go_sem] theorem cont_bor (l:Loc) (off n:Nat):cont s (.bor l off n)=contQ off n (s l):=by unfold contQ;simp only[cont];rfl
@[go_sem] theorem contQ_own (off n z:Nat) (es:List D):contQ off n (some (.own false z es))=some ((es.drop off).take n):=rfl
@[go_sem] theorem argsD_nil:argsD s []=some ([],false):=rfl
@[go_sem] theorem argsD_cons (v:V) (r:List V):argsD s (v::r)=(argD s v).bind fun(x,a)=>(argsD s r).bind fun(xs,b)=>some (x::xs,a||b):=by
 rw[argsD];cases argD s v<;>cases argsD s r<;>rfl
@[go_sem] theorem argD_d (x:D):argD s (.d x)=some (x.canon,false):=rfl
@[go_sem] theorem argD_iptr (e:D):argD s (.iptr e 0)=some (.ptr e,false):=rfl
@[go_sem] theorem argD_own (nw:Bool) (z:Nat) (es:List D):argD s (.own nw z es)=some (.sl es,true):=rfl
def argQ (off n:Nat):Option V→Option (D×Bool)
 |some (.own false _ es)=>some (.sl ((es.drop off).take n),true)
 |_=>none
@[go_sem] theorem argD_bor (l:Loc) (off n:Nat):argD s (.bor l off n)=argQ off n (s l):=by unfold argQ;simp only[argD];rfl
@[go_sem] theorem argQ_own (off n z:Nat) (es:List D):argQ off n (some (.own false z es))=some (.sl ((es.drop off).take n),true):=rfl
def callQ (dst:Option Nat) (own shared:Bool):Ans→Option (List (Loc×V))
 | some (r,_)=>match landed dst own shared r with
  |some u=>some u
  |none=>landC dst shared r
 |none=>none
@[go_sem] theorem a4r (orc:Orc) (dst:Option Nat) (own:Bool) (f:FuncId) (vs:List V):callU orc s dst own f vs=(argsD s vs).bind fun(ds,shared)=>callQ dst own shared (orc f 0 (ds.map .d) []):=by
 unfold callU callQ;cases argsD s vs with
 |none=>rfl
 | some p=>
  obtain⟨ds,sh⟩:=p;simp only[Option.bind_some];cases orc f 0 (ds.map .d) [] with
  |none=>rfl
  |some q=>obtain⟨r,m⟩:=q;simp only;cases landed dst own sh r<;>rfl
@[go_sem] theorem callQ_d (dst:Option Nat) (own shared:Bool) (r:D) (m:List (Cel×V)):callQ dst own shared (some (.d r,m))=landed dst own shared (.d r):=by
 simp only[callQ,landC];split<;>simp_all
@[go_sem] theorem a4x (dst:Option Nat) (own shared nw:Bool) (z:Nat) (es:List D) (m:List (Cel×V)):callQ dst own shared (some (.own nw z es,m))=landed dst own shared (.own nw z es):=by
 simp only[callQ,landC];split<;>simp_all
@[go_sem] theorem a4y (dst:Option Nat) (own shared:Bool) (f:FuncId) (b:List V) (m:List (Cel×V)):callQ dst own shared (some (.clo f [] b,m))=if shared||(allD b).isNone then none else some (put1 dst (.clo f [] b)):=rfl
def callX (cfg:Cfg) (orc:Orc) (s:Get) (dst:Option Nat) (own:Bool) (f:FuncId) (args:List IOpd) (shared:Bool) (a:Ans):Option (List (Loc×V)):=
 match callQ dst own shared a with
 |some u=>some u
 |none=>if shared&&a.isSome then callT cfg orc s dst own f args else none
@[go_sem] theorem callW_def (cfg:Cfg) (orc:Orc) (dst:Option Nat) (own:Bool) (f:FuncId) (args:List IOpd) (vs:List V):callW cfg orc s dst own f args vs=(argsD s vs).bind fun(ds,shared)=>callX cfg orc s dst own f args shared (orc f 0 (ds.map .d) []):=by
 unfold callW callX;rw[a4r];unfold callR;cases argsD s vs with
 |none=>rfl
 | some p=>
  obtain⟨ds,sh⟩:=p;simp only[Option.bind_some];cases sh
  · cases callQ dst own false (orc f 0 (ds.map .d) [])<;>rfl
  · dsimp only
    generalize orc f 0 (ds.map .d) []=A;cases callQ dst own true A<;>cases A<;>rfl
theorem a4v (cfg:Cfg) (orc:Orc) (dst:Option Nat) (own:Bool) (f:FuncId) (args:List IOpd):callT cfg orc s dst own f args=(vals cfg (updG s (giveUp s args)) args).bind fun vs=>(callU orc (updG s (giveUp s args)) dst own f vs).map (giveUp s args++ ·):=rfl
attribute [go_sem] a4v
@[go_sem] theorem callX_d (cfg:Cfg) (orc:Orc) (dst:Option Nat) (own shared:Bool) (f:FuncId) (args:List IOpd) (r:D) (m:List (Cel×V)):callX cfg orc s dst own f args shared (some (.d r,m))=if shared&& !r.plain then callT cfg orc s dst own f args else some (put1 dst (.d (if own then r else r.canon))):=by
 unfold callX;rw[callQ_d];simp only[landed,Option.isSome_some,Bool.and_true];cases h:(shared&& !r.plain)
 · simp
 · simp only[if_true]
   have:shared=true:=by cases shared<;>simp_all
   simp[this]
@[go_sem] theorem callX_own (cfg:Cfg) (orc:Orc) (dst:Option Nat) (own shared:Bool) (f:FuncId) (args:List IOpd) (nw:Bool) (z:Nat) (es:List D) (m:List (Cel×V)):callX cfg orc s dst own f args shared (some (.own nw z es,m))=if shared&& !D.plains es then callT cfg orc s dst own f args else some (put1 dst (if own then .own true z es else .d (.sl es))):=by
 unfold callX;rw[a4x];simp only[landed,Option.isSome_some,Bool.and_true];cases h:(shared&& !D.plains es)
 · simp
 · simp only[if_true]
   have:shared=true:=by cases shared<;>simp_all
   simp[this]
@[go_sem] theorem callX_clo (cfg:Cfg) (orc:Orc) (dst:Option Nat) (own shared:Bool) (f f':FuncId) (args:List IOpd) (b:List V) (m:List (Cel×V)):callX cfg orc s dst own f args shared (some (.clo f' [] b,m))=if shared then callT cfg orc s dst own f args else if(allD b).isNone then none else some (put1 dst (.clo f' [] b)):=by
 unfold callX;rw[a4y];cases shared
 · simp only[Bool.false_or,Bool.false_and,zf,if_false]
   cases allD b<;>simp
 · simp
@[go_sem] theorem allD_nil:allD []=some []:=rfl
@[go_sem] theorem allD_cons (x:D) (r:List V):allD (.d x::r)=(allD r).map (x:: ·):=rfl
@[go_sem] theorem landed_d (dst:Option Nat) (own shared:Bool) (r:D):landed dst own shared (.d r)=if shared&& !r.plain then none else some (put1 dst (.d (if own then r else r.canon))):=rfl
@[go_sem] theorem landed_own (dst:Option Nat) (own shared nw:Bool) (z:Nat) (es:List D):landed dst own shared (.own nw z es)=if shared&& !D.plains es then none else some (put1 dst (if own then .own true z es else .d (.sl es))):=rfl
attribute [go_sem] D.plain D.plains
@[go_sem] theorem finR_n (res:List IRes) (t:St):finR dep res .normal t=(resAll dep t.get res).bind fun v=>leaveR dep v t.mem:=rfl
@[go_sem] theorem finR_r (res:List IRes) (t:St):finR dep res .ret t=(resAll dep t.get res).bind fun v=>leaveR dep v t.mem:=rfl
@[go_sem] theorem finR_x (res:List IRes) (id:Nat) (t:St):finR dep res (.exit id) t=none:=rfl
@[go_sem] theorem resAll_one (r:IRes):resAll dep s [r]=resV dep s r:=rfl
@[go_sem] theorem resAll_two (p q:IRes) (r:List IRes):resAll dep s (p::q::r)=(resD dep s (p::q::r)).map fun ds=> .d (.tup ds):=rfl
@[go_sem] theorem resAll_nil:resAll dep s []=some (.d (.tup [])):=rfl
@[go_sem] theorem resD_nil:resD dep s []=some []:=rfl
@[go_sem] theorem resD_cons (r:IRes) (rs:List IRes):resD dep s (r::rs)=((resV dep s r).bind resCell).bind fun d=>(resD dep s rs).bind fun ds=>some (d::ds):=by
 rw[resD];cases(resV dep s r).bind resCell<;>cases resD dep s rs<;>rfl
def resQ:Option V→Option V
 |some (.own _ z es)=>some (.own false z es)
 |some v=>if v.plainV then some v else none
 |none=>none
@[go_sem] theorem resV_t (k:Nat):resV dep s (.t k)=resQ (s (.slot k)):=by
 simp only[resV];unfold resQ;rfl
@[go_sem] theorem resQ_d (x:D):resQ (some (.d x))=some (.d x):=rfl
@[go_sem] theorem resQ_own (nw:Bool) (z:Nat) (es:List D):resQ (some (.own nw z es))=some (.own false z es):=rfl
@[go_sem] theorem resQ_iptr (e:D) (o:Nat):resQ (some (.iptr e o))=some (.iptr e o):=rfl
@[go_sem] theorem resCell_d (x:D):resCell (.d x)=some x.canon:=rfl
@[go_sem] theorem resCell_own (nw:Bool) (z:Nat) (es:List D):resCell (.own nw z es)=some (.sl es):=rfl
@[go_sem] theorem resCell_iptr (e:D):resCell (.iptr e 0)=some (.ptr e):=rfl
@[go_sem] theorem leaveR_def (v:V) (m:List (Cel×V)):leaveR dep v m=if v.upTo dep then some (v,leaveM dep m) else none:=rfl
@[go_sem] theorem upTo_own (n:Nat) (nw:Bool) (z:Nat) (es:List D):V.upTo n (.own nw z es)=true:=rfl
attribute [go_sem] leaveM entry
@[go_sem] theorem bin_ii (op:BinOp) (k k':IntKind) (a b:Int):D.bin op (.int k a) (.int k' b)=ay op k a k' b:=rfl
@[go_sem] theorem bin_ss (op:BinOp) (a b:List UInt8):D.bin op (.str a) (.str b)=fu op a b:=rfl
section
variable (k:IntKind) (a b:Int)
@[go_sem] theorem ib_add:ay .add k a k b=some (.int k (k.wrap (a+b))):=by simp[ay]
@[go_sem] theorem ib_sub:ay .sub k a k b=some (.int k (k.wrap (a-b))):=by simp[ay]
@[go_sem] theorem ib_mul:ay .mul k a k b=some (.int k (k.wrap (a*b))):=by simp[ay]
@[go_sem] theorem ib_eql:ay .eql k a k b=some (.bool (a==b)):=by simp[ay]
@[go_sem] theorem ib_neq:ay .neq k a k b=some (.bool (a !=b)):=by simp[ay]
@[go_sem] theorem ib_lss:ay .lss k a k b=some (.bool (decide (a<b))):=by simp[ay]
@[go_sem] theorem ib_leq:ay .leq k a k b=some (.bool (decide (a≤b))):=by simp[ay]
@[go_sem] theorem ib_gtr:ay .gtr k a k b=some (.bool (decide (a>b))):=by simp[ay]
@[go_sem] theorem ib_geq:ay .geq k a k b=some (.bool (decide (a≥b))):=by simp[ay]
end
theorem ib_quo (k:IntKind) (a:Int) {b:Int} (h:b≠0):ay .quo k a k b=some (.int k (k.wrap (a.tdiv b))):=by simp[ay,h]
def andI (k:IntKind) (a b:Int):Int:=k.wrap (BitVec.ofInt k.bits a &&& BitVec.ofInt k.bits b).toNat
def orI (k:IntKind) (a b:Int):Int:=k.wrap (BitVec.ofInt k.bits a ||| BitVec.ofInt k.bits b).toNat
def xorI (k:IntKind) (a b:Int):Int:=k.wrap (BitVec.ofInt k.bits a ^^^ BitVec.ofInt k.bits b).toNat
def shlI (k:IntKind) (a b:Int):Int:=k.wrap (a*2 ^ (min b.toNat k.bits))
def shrI (k:IntKind) (a b:Int):Int:=a.fdiv (2 ^ (min b.toNat k.bits))
theorem ff (k k':IntKind) (a:Int) {b:Int} (h:0≤b):ay .shl k a k' b=some (.int k (shlI k a b)):=by simp[ay,shlI];omega
theorem ba (k k':IntKind) (a:Int) {b:Int} (h:0≤b):ay .shr k a k' b=some (.int k (shrI k a b)):=by simp[ay,shrI];omega
@[go_sem] theorem ib_and (k:IntKind) (a b:Int):ay .and k a k b=some (.int k (andI k a b)):=by simp[ay,andI]
@[go_sem] theorem ib_or (k:IntKind) (a b:Int):ay .or k a k b=some (.int k (orI k a b)):=by simp[ay,orI]
@[go_sem] theorem ib_xor (k:IntKind) (a b:Int):ay .xor k a k b=some (.int k (xorI k a b)):=by simp[ay,xorI]
@[go_sem] theorem un_not (b:Bool):D.un .not (.bool b)=some (.bool !b):=rfl
@[go_sem] theorem un_neg (k:IntKind) (n:Int):D.un .neg (.int k n)=some (.int k (k.wrap (0-n))):=rfl
section
variable (a b:List UInt8)
@[go_sem] theorem sb_eql:fu .eql a b=some (.bool (a==b)):=rfl
@[go_sem] theorem sb_neq:fu .neq a b=some (.bool !(a==b)):=rfl
@[go_sem] theorem sb_lss:fu .lss a b=some (.bool (Go.Op.bytesLess a b)):=rfl
@[go_sem] theorem sb_geq:fu .geq a b=some (.bool !(Go.Op.bytesLess a b)):=rfl
end
theorem wrap_i64 {n:Int} (h1: -9223372036854775808≤n) (h2:n<9223372036854775808):IntKind.i64.wrap n=n:=by
 simp[IntKind.wrap,IntKind.signed,IntKind.bits,BitVec.toInt_ofInt,Int.bmod_def];omega
theorem oe {n:Int} (h1:0≤n) (h2:n<18446744073709551616):IntKind.u64.wrap n=n:=by
 simp[IntKind.wrap,IntKind.signed,IntKind.bits];omega
theorem ax1 (k:IntKind) (a:Int) (n:Nat) (h:n≤k.bits):shrI k a n=a / 2 ^ n:=by
 unfold shrI;rw[aa1,Nat.min_eq_left h,Int.fdiv_eq_ediv_of_nonneg _ (Int.le_of_lt (Int.pow_pos yu))]
theorem wu (dst:Option Nat) (z:Nat) (x:IOpd) (es:List D) {n:Int} (h:0≤n):evIdx s dst z x (.d (.sl es)) n=(es[n.toNat]?).bind fun e=>if e.cells.length=z then some (put1 dst (.iptr e 0)) else none:=by
 unfold evIdx;rw[if_neg yp]
@[go_sem] theorem evIdx_slN (dst:Option Nat) (z:Nat) (x:IOpd) (es:List D) (i:Nat):evIdx s dst z x (.d (.sl es)) (i:Int)=(es[i]?).bind fun e=>if e.cells.length=z then some (put1 dst (.iptr e 0)) else none:=by
 rw[wu _ _ _ _ yp];simp
attribute [go_sem] zg List.map_cons List.map_nil List.length_cons List.length_nil yz List.getElem?_cons_zero List.getElem?_cons_succ
end Go.Ev
namespace Go.Ev
open Go Go.RowKit
abbrev anyB:Nat→Prop:=fun _=>True
def Rds (w:World) (cs:List Value) (xs:List D):Prop:=
 cs.length=xs.length∧(∀ c∈xs,c.isCell=true)∧∀ (i:Nat) v c,cs[i]? =some v→xs[i]? =some c→Rd anyB w v c
def IsF (P:Program) (w:World) (n:Nat) (t:TypeId) (G:List D→Prop):Prop:=
 ∀ (H:Type) (enc:TypeId×Value→H) (base:Nat) (spare:Nat→Bool) (held:Bool) (cs:List Value) (x:DataW H×List MemPlace),DataW.trod enc P w base spare held n t cs=some x→∃ xs,Rds w cs xs∧G xs
variable {P:Program} {w:World} {n:Nat} {t:TypeId}
theorem Rds.one {v:Value} {d:D} (h:Rd anyB w v d) (hc:d.isCell=true):Rds w [v] [d]:=
 ⟨rfl,by simpa using hc,fun i v' c h1 h2=>by
  cases i with
  |zero=>simp at h1 h2;subst h1;subst h2;exact h
  |succ i=>simp at h1⟩
theorem IsF.bool (ht:P.underlying t=some .bool):IsF P w n t fun xs=>∃ b,xs=[.bool b]:=by
 intro H enc base spare held cs x h;obtain⟨b,rfl,_⟩:=DataW.trod_bool ht h;exact⟨_,Rds.one (.bool b) rfl,b,rfl⟩
theorem IsF.int {k:IntKind} (ht:P.underlying t=some (.int k)):IsF P w n t fun xs=>∃ m,xs=[.int k m]∧(Lit.int k m).wf=true:=by
 intro H enc base spare held cs x h;obtain⟨m,rfl,_,hw⟩:=DataW.trod_int ht h;exact⟨_,Rds.one (.int k m) rfl,m,rfl,hw⟩
theorem IsF.str (ht:P.underlying t=some .string):IsF P w n t fun xs=>∃ s:List UInt8,xs=[.str s]∧s.length≤maxLen:=by
 intro H enc base spare held cs x h;obtain⟨s,rfl,_,hw⟩:=DataW.trod_string ht h;have e:(⟨s.data.toList.toArray⟩:ByteArray)=s:=by cases s;rfl
 have hl:s.data.toList.length=s.size:=by rw[ByteArray.size,Array.length_toList]
 refine⟨[.str s.data.toList],Rds.one ?_ rfl,_,rfl,by rw[hl];exact hw⟩
 have:=Rd.str (F:=anyB) (w:=w) s.data.toList
 rwa [e] at this
theorem a2y {α β:Type} {f:α→Option β}:∀ {l:List α} {r:List β},l.mapM f=some r→l.length=r.length∧∀ (i:Nat) x y,l[i]? =some x→r[i]? =some y→f x=some y
 | [],r,h=>by cases h;simp
 | a::l,r,h=>by
  rw[List.mapM_cons] at h;cases hf:f a with
  |none=>rw[hf] at h;cases h
  | some b=>
   cases hl:l.mapM f with
   |none=>rw[hf,hl] at h;cases h
   | some bs=>
    rw[hf,hl] at h;cases h;obtain⟨g1,g2⟩:=a2y hl;refine⟨by simp[g1],fun i x y h1 h2=> ?_⟩
    cases i with
    |zero=>simp at h1 h2;subst h1;subst h2;exact hf
    |succ i=>exact g2 i x y (by simpa using h1) (by simpa using h2)
theorem cells_at {base:Nat} {a:Addr} {m:Nat} {cs:List Value} (h:w.cells? base a m=some cs):cs.length=m∧∀ (j:Nat) v,cs[j]? =some v→w.cell? (a.add j)=some v:=by
 unfold World.cells? at h;split at h
 · obtain⟨g1,g2⟩:=a2y h
   refine⟨by simpa using g1.symm,fun j v hj=> ?_⟩
   have hlt:j<(List.range m).length:=by rw[g1];exact(y4.1 hj).1
   exact g2 j j v (by rw[yy hlt];simp) hj
 · cases h
theorem IsF.slice {e:TypeId} {G:List D→Prop} (ht:P.underlying t=some (.slice e)) (hz:P.cellsOf e≠0) (he:∀ m,m<n→IsF P w m e G) (mk:List D→D) (hmk:∀ xs,G xs→xs.length=P.cellsOf e→(mk xs).cells=xs):
   IsF P w n t fun xs=>∃ es:List D,xs=[.sl es]∧es.length≤maxLen∧∀ d∈es,∃ ys,G ys∧ys.length=P.cellsOf e∧d=mk ys:=by
 intro H enc base spare held cs x h;rcases DataW.trod_slice ht h with⟨rfl,_⟩|⟨a,len,cap,elems,rest,m,rfl,rfl,_,_,hl,hm,hlen,hel,_,_⟩
 · exact⟨_,Rds.one (.slA _ _) rfl,[],rfl,by simp,by simp⟩
 · have key:∀ i,i<len→∃ cs',∃ xs:List D,(cs'.length=P.cellsOf e∧∀ (j:Nat) v,cs'[j]? =some v→w.cell? ((a.add (i*P.cellsOf e)).add j)=some v)∧Rds w cs' xs∧G xs:=fun i hi=>by
     have h1:=hel i hi;rw[yy yp,y8] at h1;obtain⟨cs',h2,h3⟩:=h1;obtain⟨xs,h4,h5⟩:=he m (Nat.lt_succ_self m) H enc base spare held cs' _ h3;exact⟨cs',xs,cells_at h2,h4,h5⟩
   by_cases h0:len=0
   · subst h0
     exact⟨_,Rds.one (.slA _ cap) rfl,[],rfl,by simp,by simp⟩
   · obtain⟨b,o,rfl⟩:∃ b o,a=ad3 b o:=by
       obtain⟨cs',xs,⟨h1,h2⟩,h3,h4⟩:=key 0 yp;have hlt:0<cs'.length:=yp;have:=h2 0 _ (yy hlt);rw[Nat.zero_mul] at this;have:=World.cell?_spot this;obtain⟨b,o,sp⟩:=a;cases sp with
       |none=>exact⟨b,o,rfl⟩
       |some s=>simp[Addr.add] at this
     have hch:∀ i,∃ xs:List D,i<len→G xs∧xs.length=P.cellsOf e∧(∀ c∈xs,c.isCell=true)∧∀ (j:Nat) c,xs[j]? =some c→∃ v,w.cell? (ad3 b (o+i*P.cellsOf e+j))=some v∧Rd anyB w v c:=fun i=>by
       by_cases hi:i<len
       · obtain⟨cs',xs,⟨h1,h2⟩,⟨h3,h4,h5⟩,h6⟩:=key i hi
         refine⟨xs,fun _=>⟨h6,by omega,h4,fun j c hj=> ?_⟩⟩
         have hlt:j<cs'.length:=by rw[h3];exact(y4.1 hj).1
         refine⟨cs'[j],?_,h5 j _ c (yy hlt) hj⟩;have:=h2 j _ (yy hlt);rw[b8,b8] at this;exact this
       · exact⟨[],fun h=>absurd h hi⟩
     let es:List D:=(List.range len).map fun i=>mk (hch i).choose
     have hes:∀ (i:Nat) d,es[i]? =some d→i<len∧d=mk (hch i).choose:=fun i d hd=>by
       simp only[es,zg,yw] at hd;obtain⟨j,h1,h2⟩:=hd;have hlt:=(y4.1 h1).1;rw[yy hlt] at h1;simp at h1 hlt;subst h1;exact⟨hlt,h2.symm⟩
     have hcell:∀ i,i<len→(mk (hch i).choose).cells=(hch i).choose:=fun i hi=>hmk _ ((hch i).choose_spec hi).1 ((hch i).choose_spec hi).2.1
     refine⟨[.sl es],Rds.one ?_ rfl,es,rfl,by simp[es];omega,fun d hd=> ?_⟩
     · have:=Rd.sl_of (F:=anyB) (w:=w) (b:=b) (o:=o) (cap:=cap) (z:=P.cellsOf e) (es:=es) (by simp[es];omega) (fun d hd=> ?_) (fun i d hi=> ?_)
       · simpa[es] using this
       · obtain⟨i,hi⟩:=aae hd
         obtain⟨h1,rfl⟩:=hes i d hi;rw[hcell i h1];exact((hch i).choose_spec h1).2.1
       · obtain⟨h1,rfl⟩:=hes i d hi
         have hs:=(hch i).choose_spec h1;refine⟨by rw[hcell i h1];exact hs.2.2.1,fun j c hj=> ?_⟩
         rw[hcell i h1] at hj;obtain⟨v,q1,q2⟩:=hs.2.2.2 j c hj;exact⟨v,trivial,q1,q2⟩
     · obtain⟨i,hi⟩:=aae hd
       obtain⟨h1,rfl⟩:=hes i d hi;exact⟨_,((hch i).choose_spec h1).1,((hch i).choose_spec h1).2.1,rfl⟩
end Go.Ev
namespace Go.Ev
open Go Go.RowKit
variable {P:Program} {cfg:Cfg}
def Cx.none:Cx:=⟨fun _=>Option.none,fun _ _=>0,0⟩
theorem ajc {ds:List D} {args:Array Value} {w:World} (hsz:args.size=ds.length) (hrd:∀ (i:Nat) v d,args[i]? =some v→ds[i]? =some d→Rd anyB w v d)
   (hg:∀ n e,cfg.glob n=some e→PtrAt anyB w n 0 e) (hgo:∀ n ob,cfg.gobj n=some ob→HoldsG w n ob):Enters cfg Cx.none (ds.map .d) [] args w:=by
 have hF:freeB Cx.none=anyB:=by funext b;simp[freeB,Cx.none]
 refine⟨⟨rfl,.nil rfl,fun b h=>absurd rfl h,fun l v h=> ?_,fun k v h=>(by cases h),fun c v h=>(by cases h),fun n e h=>by rw[hF];exact hg n e h,fun b h=> ?_,fun n ob h=>⟨rfl,hgo n ob h⟩⟩,by simpa using hsz,fun i v y h1 h2=> ?_⟩
 · cases l<;>cases h
 · rcases h with h|⟨_,h⟩<;>cases h
 · rw[zg] at h2
   cases hd:ds[i]? with
   |none=>rw[hd] at h2;cases h2
   |some d=>rw[hd] at h2;cases h2;exact RdV.d _ _ _ (by rw[hF];exact hrd i v d h1 hd)
theorem ae0 (hm:P.follows .mixedOrders=true) (hC:CfgOk P cfg) (hF:rl P cfg) (hX:ExtOk P cfg) {f:FuncId} {F:Func} {c:Code} (hf:P.funcs[f]? =some F) (hname:(F.name=="runtime.NumGoroutine")=false) (hb:F.body=some c)
   {ds:List D} {y:D} (h:evL cfg f 0 (ds.map .d) []=some (.d y,[])) {args:Array Value} {w:World} (hsz:args.size=ds.length) (hrd:∀ (i:Nat) v d,args[i]? =some v→ds[i]? =some d→Rd anyB w v d)
   (hg:∀ n e,cfg.glob n=some e→PtrAt anyB w n 0 e) (hgo:∀ n ob,cfg.gobj n=some ob→HoldsG w n ob):Calls P f args w fun e w'=>∃ v,e= .returned v∧Rd anyB w' v y∧Below w.heap.size w w':=by
 have hd:=evL_ok hm hC hF hX f 0 _ [] _ _ h Cx.none w args (ajc hsz hrd hg hgo);rcases hd with⟨v,w',h1,_⟩|⟨_,h2⟩
 · rw[run_enter hf hname hb] at h1
   cases h1
 · refine h2.mono fun e w' he=> ?_
   cases e with
   | returned v=>
    obtain⟨x',L⟩:=he;have hr:Rd (freeB x') w' v y:=RdV.d_inv L.res;exact⟨v,rfl,hr.mono fun b o u _ h=>⟨trivial,h⟩,L.fr.io.1,L.fr.io.2.1,L.fr.io.2.2,L.fr.size,fun k hk=>(L.fr.same k hk (.inl rfl)).1⟩
   |panicked c=>exact he.elim
   |outgrown=>exact he.elim
theorem aw0 (hm:P.follows .mixedOrders=true) (hC:CfgOk P cfg) (hF:rl P cfg) (hX:ExtOk P cfg) {f:FuncId} {F:Func} {c:Code} (hf:P.funcs[f]? =some F) (hname:(F.name=="runtime.NumGoroutine")=false) (hb:F.body=some c)
  {ds:List D} (h:evL cfg f 0 (ds.map .d) []=some (.d (.bool true),[])) {args:Array Value} {w:World} (hsz:args.size=ds.length) (hrd:∀ (i:Nat) v d,args[i]? =some v→ds[i]? =some d→Rd anyB w v d)
  (hg:∀ n e,cfg.glob n=some e→PtrAt anyB w n 0 e) (hgo:∀ n ob,cfg.gobj n=some ob→HoldsG w n ob):Calls P f args w fun e w'=>e= .returned (.bool true)∧Below w.heap.size w w':=
 (ae0 hm hC hF hX hf hname hb h hsz hrd hg hgo).mono fun e w' ⟨v,h1,h2,h3⟩=>⟨by rw[h1,h2.bool_inv],h3⟩
theorem ap {n:Nat} {f:FuncId} {d:Nat} {vs:List V} {m:List (Cel×V)} {r} (h:evFn cfg n f d vs m=some r):evL cfg f d vs m=some r:=iu.2 ⟨n,h⟩
def Entry (P:Program) (p:FuncId×IFunc):Prop:=∃ F ad c,P.funcs[p.1]? =some F∧(F.name=="runtime.NumGoroutine")=false∧F.body=some c∧cFunc P ad F=some p.2
def Entries (P:Program) (l:List (FuncId×IFunc)):Prop:=∀ p∈l,Entry P p
theorem Entries.nil:Entries P []:=fun _ h=>by cases h
theorem Entries.cons {p:FuncId×IFunc} {l:List (FuncId×IFunc)} (h:Entry P p) (hl:Entries P l):Entries P (p::l):=fun q hq=>by
 rcases zr.1 hq with rfl|hq
 · exact h
 · exact hl q hq
theorem Entry.mk' {F:Func} {f:FuncId} {fn:IFunc} {ad:Advice} {c:Code} (hf:P.funcs[f]? =some F) (hb:F.body=some c) (hn:(F.name=="runtime.NumGoroutine")=false) (hk:cFunc P ad F=some fn):Entry P (f,fn):=⟨F,ad,c,hf,hn,hb,hk⟩
theorem aw2 {F:Func} {fn:IFunc} {ad:Advice} (hk:cFunc P ad F=some fn):∃ c,F.body=some c:=by
 unfold cFunc at hk;split at hk
 · exact⟨_,‹_›⟩
 · cases hk
theorem Entry.of {F:Func} {f:FuncId} {fn:IFunc} {ad:Advice} (hf:P.funcs[f]? =some F) (hn:(F.name=="runtime.NumGoroutine")=false) (hk:cFunc P ad F=some fn):Entry P (f,fn):=by
 obtain⟨c,hb⟩:=aw2 hk;exact .mk' hf hb hn hk
end Go.Ev
namespace Go.Ev
open Go
def decF:Nat→Nat→List UInt8
 |0,_=>[]
 |n+1,u=>if u<10 then[UInt8.ofNat (48+u)] else decF n (u / 10)++[UInt8.ofNat (48+u % 10)]
def itoaF (n:Int):List UInt8:=if n<0 then 45::decF 20 n.natAbs else decF 20 n.toNat
def xItoa:List D→Option V
 | [.int .i64 n]=>if -9223372036854775808≤n∧n≤9223372036854775807 then some (.d (.str (itoaF n))) else none
 |_=>none
def Gives (P:Program) (cfg:Cfg) (f:FuncId) (g:List D→Option V):Prop:=
 ∀ ds r,g ds=some r→∀ (F:Nat→Prop) (args:Array Value) (w:World),args.size=ds.length→(∀ (i:Nat) v d,args[i]? =some v→ds[i]? =some d→Rd F w v d)→(∀ n e,cfg.glob n=some e→PtrAt F w n 0 e)→(∀ n ob,cfg.gobj n=some ob→HoldsG w n ob)→
  Does P f args w fun v w'=>w.heap.size≤w'.heap.size∧(∀ b,b<w.heap.size→w'.heap[b]? =w.heap[b]?)∧SameIO w w'∧
   match r with
   | .own _ z es=>∃ b o cap,v= .slice (some (ad3 b o)) es.length cap∧w.heap.size≤b∧b<w'.heap.size∧es.length≤cap∧NoFz w' b∧Arr (fun b'=>(F b'∧b'<w.heap.size)∨(w.heap.size≤b'∧b'≠b)) w' b o cap z es
   | .d y=>Rd (fun b'=>F b'∨w.heap.size≤b') w' v y
   | .clo g [] ys=>∃ (vb:List Value) (es:List D),ys=es.map .d∧v= .func (.func g) #[] vb.toArray∧vb.length=es.length∧∀ (i:Nat) u e,vb[i]? =some u→es[i]? =some e→Rd (fun b'=>F b'∨w.heap.size≤b') w' u e
   |_=>False
theorem extOk_of {P:Program} {cfg:Cfg} (h:∀ f g,cfg.ext f=some g→Gives P cfg f g):ExtOk P cfg:=fun f g hf ds r hr F args w h1 h2 h3 h4=>h f g hf ds r hr F args w h1 h2 h3 h4
open Go.RowKit in
theorem gives_of_calls {P:Program} {cfg:Cfg} {f:FuncId} {fn:Func} {c:Code} (hf:P.funcs[f]? =some fn) (hname:(fn.name=="runtime.NumGoroutine")=false) (hb:fn.body=some c) {g:List D→Option V}
  (h:∀ ds r,g ds=some r→∃ y,r= .d y∧y.plain=true∧∀ (F:Nat→Prop) (args:Array Value) (w:World),args.size=ds.length→(∀ (i:Nat) v d,args[i]? =some v→ds[i]? =some d→Rd F w v d)→(∀ n ob,cfg.gobj n=some ob→HoldsG w n ob)→
   Calls P f args w fun e w'=>∃ v,e= .returned v∧Rd F w' v y∧Below w.heap.size w w'):Gives P cfg f g:=by
 intro ds r hr F args w h1 h2 _ h4;obtain⟨y,rfl,hy,hc⟩:=h ds r hr;refine .inr ⟨run_enter hf hname hb args w,(hc F args w h1 h2 h4).mono fun e w' ⟨v,e1,e2,e3⟩=> ?_⟩
 subst e1;exact⟨e3.size,fun b hb=>e3.block b hb,⟨e3.os,e3.tape,e3.output⟩,e2.plain hy⟩
theorem o6 {F:Nat→Prop} {w:World} {args:Array Value} {d:D} (h1:args.size=[d].length) (h2:∀ (i:Nat) v d',args[i]? =some v→[d][i]? =some d'→Rd F w v d'):∃ v,args= #[v]∧Rd F w v d:=by
 obtain⟨l⟩:=args
 match l,h1 with
 | [v],_=>exact⟨v,rfl,h2 0 v d rfl rfl⟩
theorem args_two {F:Nat→Prop} {w:World} {args:Array Value} {d e:D} (h1:args.size=[d,e].length) (h2:∀ (i:Nat) v d',args[i]? =some v→[d,e][i]? =some d'→Rd F w v d'):∃ v u,args= #[v,u]∧Rd F w v d∧Rd F w u e:=by
 obtain⟨l⟩:=args
 match l,h1 with
 | [v,u],_=>exact⟨v,u,rfl,h2 0 v d rfl rfl,h2 1 u e rfl rfl⟩
end Go.Ev
namespace Go.Ev
open Go
variable (cfg:Cfg)
@[go_sem] theorem eqn_dd (c:ECls) (a b:D):V.eqn cfg c (.d a) (.d b)=a.eqn cfg c b:=by cases c<;>rfl
@[go_sem] theorem eqn_bool (a b:Bool):D.eqn cfg .bool (.bool a) (.bool b)=some (a==b):=rfl
@[go_sem] theorem eqn_refn (d k o:Nat):V.eqn cfg .ptr (.ref d k o) (.d .nilP)=some false:=rfl
@[go_sem] theorem eqn_iptrn (e:D) (o:Nat):V.eqn cfg .ptr (.iptr e o) (.d .nilP)=some false:=rfl
@[go_sem] theorem eqn_brefn (l:Loc) (i o:Nat):V.eqn cfg .ptr (.bref l i o) (.d .nilP)=some false:=rfl
@[go_sem] theorem eqn_clon (f:FuncId) (a b:List V):V.eqn cfg .func (.clo f a b) (.d .nilF)=some false:=rfl
@[go_sem] theorem eqn_ifcn (t:TypeId) (v:V):V.eqn cfg .iface (.ifc t v) (.d .nilI)=some false:=rfl
@[go_sem] theorem deqn_pp:D.eqn cfg .ptr .nilP .nilP=some true:=rfl
@[go_sem] theorem deqn_pn (e:D):D.eqn cfg .ptr (.ptr e) .nilP=some false:=rfl
@[go_sem] theorem deqn_np (e:D):D.eqn cfg .ptr .nilP (.ptr e)=some false:=rfl
@[go_sem] theorem deqn_ff:D.eqn cfg .func .nilF .nilF=some true:=rfl
@[go_sem] theorem deqn_ln (x:D):D.eqn cfg .ifnil .nilI x=some true:=rfl
@[go_sem] theorem deqn_li (t:TypeId) (y x:D):D.eqn cfg .ifnil (.ifc t y) x=some false:=rfl
@[go_sem] theorem deqn_in (t:TypeId) (x:D):D.eqn cfg .iface (.ifc t x) .nilI=some false:=rfl
@[go_sem] theorem deqn_ni (t:TypeId) (x:D):D.eqn cfg .iface .nilI (.ifc t x)=some false:=rfl
end Go.Ev
namespace Go.Ev
open Go
variable (cfg:Cfg) (s:Get)
@[go_sem] theorem minD_max (k k':IntKind) (a b:Int):minD true [.int k a,.int k' b]=some (.int k (max a b)):=by
 show some (D.int k (if b>a then b else a))=_
 congr 2
 split<;>omega
@[go_sem] theorem minD_min (k k':IntKind) (a b:Int):minD false [.int k a,.int k' b]=some (.int k (min a b)):=by
 show some (D.int k (if b<a then b else a))=_
 congr 2
 split<;>omega
@[go_sem] theorem parts2_nil:parts2 cfg s []=some []:=rfl
@[go_sem] theorem parts2_cons (i:Nat) (x:IOpd) (r:List (Nat×IOpd)):parts2 cfg s ((i,x)::r)=(dat cfg s x).bind fun d=>(parts2 cfg s r).map fun ds=>(i,d)::ds:=by
 rw[parts2];cases dat cfg s x<;>cases parts2 cfg s r<;>rfl
@[go_sem] theorem parts3_nil:c8 cfg s []=some []:=rfl
@[go_sem] theorem parts3_cons (o n:Nat) (x:IOpd) (r:List (Nat×Nat×IOpd)):c8 cfg s ((o,n,x)::r)=(dat cfg s x).bind fun d=>(c8 cfg s r).map fun ds=>(o,n,d)::ds:=by
 rw[c8];cases dat cfg s x<;>cases c8 cfg s r<;>rfl
@[go_sem] theorem fillE_nil (z:Nat) (es:List D):fillE z es []=some es:=rfl
@[go_sem] theorem fillE_cons (z i:Nat) (es:List D) (x:D) (r:List (Nat×D)):fillE z es ((i,x)::r)=if x.cells.length=z∧i<es.length∧x.storable=true then fillE z (es.set i x) r else none:=rfl
@[go_sem] theorem fillD_nil (cs:List D):fillD cs []=some cs:=rfl
@[go_sem] theorem fillD_cons (off size:Nat) (cs:List D) (x:D) (r:List (Nat×Nat×D)):fillD cs ((off,size,x)::r)=if x.cells.length=size∧off+size≤cs.length∧x.storable=true then fillD (setCells cs off x.cells) r else none:=rfl
@[go_sem] theorem xv (k:IntKind) (n:Int):(D.int k n).storable=true:=rfl
@[go_sem] theorem uq (b:Bool):(D.bool b).storable=true:=rfl
@[go_sem] theorem xu (b:List UInt8):(D.str b).storable=true:=rfl
attribute [go_sem] List.length_replicate List.replicate_succ List.replicate_zero List.set_cons_zero List.set_cons_succ List.length_nil
@[go_sem] theorem bytesOf_nil:bu []=some []:=rfl
@[go_sem] theorem ae5 (n:Int) (r:List D):bu (.int .u8 n::r)=(bu r).map fun b=>UInt8.ofNat n.toNat::b:=by
 rw[bu];cases bu r<;>rfl
def sbH (len:Nat):Option Int→Option (Nat×Nat)
 |some n=>if 0≤n∧n≤len then some (0,n.toNat) else none
 |none=>none
def sbL (len:Nat):Option Int→Option (Nat×Nat)
 |some n=>if 0≤n∧n≤len then some (n.toNat,len) else none
 |none=>none
def sbB (len:Nat):Option Int→Option Int→Option (Nat×Nat)
 |some m,some n=>if 0≤n∧n≤len∧0≤m∧m≤n then some (m.toNat,n.toNat) else none
 |_,_=>none
@[go_sem] theorem sb_none (len:Nat):bc cfg s len none none=some (0,len):=rfl
@[go_sem] theorem sb_hi (len:Nat) (x:IOpd):bc cfg s len none (some x)=sbH len ((dat cfg s x).bind D.toInt?):=by
 unfold bc sbH;simp only;cases(dat cfg s x).bind D.toInt? with
 |none=>rfl
 |some n=>simp only;by_cases h:0≤n∧n≤(len:Int)<;>simp[h]
@[go_sem] theorem sb_lo (len:Nat) (x:IOpd):bc cfg s len (some x) none=sbL len ((dat cfg s x).bind D.toInt?):=by
 unfold bc sbL;simp only;cases(dat cfg s x).bind D.toInt? <;>rfl
@[go_sem] theorem sb_both (len:Nat) (x y:IOpd):bc cfg s len (some x) (some y)=sbB len ((dat cfg s x).bind D.toInt?) ((dat cfg s y).bind D.toInt?):=by
 unfold bc sbB;simp only;cases(dat cfg s y).bind D.toInt? with
 |none=>cases(dat cfg s x).bind D.toInt? <;>rfl
 | some n=>
  simp only;cases(dat cfg s x).bind D.toInt? with
  |none=>by_cases h:0≤n∧n≤(len:Int)<;>simp[h]
  | some m=>
   simp only;by_cases h:0≤n∧n≤(len:Int)
   · by_cases k:0≤m∧m≤n
     · have e:max n 0=n:=yp
       simp[h,k,e]
     · have e:max n 0=n:=yp
       simp[h,e]
   · simp only[if_neg h]
     rw[if_neg (fun c=>h ⟨c.1,c.2.1⟩)]
@[go_sem] theorem sbH_ok {len:Nat} {n:Int} (h0:0≤n) (h1:n≤len):sbH len (some n)=some (0,n.toNat):=if_pos ⟨h0,h1⟩
@[go_sem] theorem sbL_ok {len:Nat} {n:Int} (h0:0≤n) (h1:n≤len):sbL len (some n)=some (n.toNat,len):=if_pos ⟨h0,h1⟩
@[go_sem] theorem sbB_ok {len:Nat} {m n:Int} (h0:0≤n) (h1:n≤len) (h2:0≤m) (h3:m≤n):sbB len (some m) (some n)=some (m.toNat,n.toNat):=if_pos ⟨h0,h1,h2,h3⟩
@[go_sem] theorem sB_eql (a b:List UInt8):fu .eql a b=some (.bool (a==b)):=rfl
@[go_sem] theorem sB_neq (a b:List UInt8):fu .neq a b=some (.bool !(a==b)):=rfl
@[go_sem] theorem sB_lss (a b:List UInt8):fu .lss a b=some (.bool (Go.Op.bytesLess a b)):=rfl
@[go_sem] theorem sB_leq (a b:List UInt8):fu .leq a b=some (.bool (Go.Op.bytesLess a b||a==b)):=rfl
@[go_sem] theorem sB_gtr (a b:List UInt8):fu .gtr a b=some (.bool !(Go.Op.bytesLess a b||a==b)):=rfl
@[go_sem] theorem sB_geq (a b:List UInt8):fu .geq a b=some (.bool !(Go.Op.bytesLess a b)):=rfl
end Go.Ev
namespace Go.Ev
open Go
open Go.RowKit
variable {P:Program} {cfg:Cfg} {f:FuncId} {fn:Func} {c:Code} (hf:P.funcs[f]? =some fn) (hname:(fn.name=="runtime.NumGoroutine")=false) (hb:fn.body=some c)
include hf hname hb
omit hb in
theorem bo {c:Code} (hb:fn.body=some c) (h:∀ ad len cap w,len≤cap→Calls P f #[.slice ad len cap] w fun e w'=>e= .returned (.slice ad len len)∧w'=w):
  ∀ ad len cap w,len≤cap→Does P f #[.slice ad len cap] w fun v w'=>v= .slice ad len len∧w'=w:=fun ad len cap w hl=>by
 refine .inr ⟨run_enter hf hname hb _ w,(h ad len cap w hl).mono fun e w' ⟨e1,e2⟩=> ?_⟩
 subst e1;exact⟨rfl,e2⟩
