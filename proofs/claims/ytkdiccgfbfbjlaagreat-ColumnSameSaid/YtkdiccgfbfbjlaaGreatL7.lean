import Derived.Test.YtkdiccgfbfbjlaaGreatL6
import Derived.Attr
import Derived.ChangeArms
import Derived.ChangeOld
import Derived.Below
import Derived.Lib.ItoaNum
import Derived.Lib.Repeat
import Derived.Lib.Bytealg
import Derived.Lib.SlTrimSet
namespace Go.Ev
open Go
def Le (o o':Orc):Prop:=∀ f d vs m r,o f d vs m=some r→o' f d vs m=some r
section
variable {cfg:Cfg} {o o':Orc} {dep:Nat}
theorem z8 (h:Le o o') {s:Get} {dst:Option Nat} {own:Bool} {f:FuncId} {vs:List V} {u} (hu:Bb o s dst own f vs=some u):Bb o' s dst own f vs=some u:=by
 unfold Bb at hu ⊢;split at hu
 · rename_i ds sh hd
   split at hu
   · rename_i r m hr
     simp only[h _ _ _ _ _ hr];exact hu
   · cases hu
 · cases hu
theorem Vd (h:Le o o') {s:Get} {dst:Option Nat} {own:Bool} {f:FuncId} {args:List AB} {u} (hu:CK cfg o s dst own f args=some u):CK cfg o' s dst own f args=some u:=by
 unfold CK at hu ⊢;simp only[ab7,abz] at hu ⊢;obtain⟨vs,h1,u',h2,h3⟩:=hu;exact⟨vs,h1,u',z8 h h2,h3⟩
theorem tr {s:Get} {dst:Option Nat} {op:IOp} {vs:List V} {u} (hu:C1 cfg o s dst op vs=some u):∃ own f args ds r,op= .call own f args∧BJ s vs=some (ds,true)∧o f 0 (ds.map .d) []=some r∧CK cfg o s dst own f args=some u:=by
 unfold C1 at hu;split at hu
 · rename_i own f args
   split at hu
   · rename_i ds hd
     split at hu
     · rename_i r hr
       exact⟨own,f,args,ds,r,rfl,hd,hr,hu⟩
     · cases hu
   · cases hu
 · cases hu
theorem bae {s:Get} {dst:Option Nat} {own:Bool} {f:FuncId} {args:List AB} {vs:List V} {ds:List D} {r} (hd:BJ s vs=some (ds,true)) (hr:o f 0 (ds.map .d) []=some r):
  C1 cfg o s dst (.call own f args) vs=CK cfg o s dst own f args:=by
 unfold C1;simp only[hd,hr]
theorem bnd (h:Le o o') {s:Get} {dst:Option Nat} {own:Bool} {f:FuncId} {op:IOp} {vs:List V} (AX:∀ CN f' args,op= .call CN f' args→f'=f) {u} (hu:(match Bb o s dst own f vs with|some u=>some u|none=>C1 cfg o s dst op vs)=some u):
   (match Bb o' s dst own f vs with|some u=>some u|none=>C1 cfg o' s dst op vs)=some u:=by
 split at hu
 · rename_i u' h1
   simp only[z8 h h1];exact hu
 · rename_i h1
   obtain⟨CN,f',args,ds,r,rfl,hd,hr,ht⟩:=tr hu;cases AX _ _ _ rfl;have h2:Bb o' s dst own f vs=none:=by
    unfold Bb at h1 ⊢;simp only[hd,hr] at h1;simp only[hd,h _ _ _ _ _ hr];exact h1
   simp only[h2];rw[bae hd (h _ _ _ _ _ hr)];exact Vd h ht
theorem Vg (h:Le o o') {s:Get} {dst:Option Nat} {own:Bool} {f:FuncId} {args:List AB} {i:Nat} {u} (hu:C8 cfg o s dst own f args i=some u):C8 cfg o' s dst own f args i=some u:=by
 unfold C8 at hu ⊢;simp only[ab7] at hu ⊢;obtain⟨ix,hix,v,hv,g,hg,vs,hvs,q,hq,⟨r,m⟩,hor,hl⟩:=hu;exact⟨ix,hix,v,hv,g,hg,vs,hvs,q,hq,⟨r,m⟩,h _ _ _ _ _ hor,hl⟩
theorem VA (h:Le o o') {s:Get} {dst:Option Nat} {op:IOp} {u} (hu:Dq cfg o dep s dst op=some u):Dq cfg o' dep s dst op=some u:=by
 unfold Dq at hu ⊢;split at hu
 · exact Vg h hu
 · exact hu
theorem ar9 (h:Le o o') {s:Get} {io:AS} {u} (hu:Ae cfg o dep s io=some u):Ae cfg o' dep s io=some u:=by
 unfold Ae at hu ⊢;split at hu
 · cases hu
 · exact hu
 · split at hu
   · cases hu
   · rename_i hno
     rw[if_neg hno];split at hu
     · rename_i hcl
       rw[if_pos hcl];split at hu
       · exact hu
       · split at hu
         · rename_i own f vs ht
           refine bnd h (fun CN f' args e=> ?_) hu
           rw[e] at ht;simp only[target,abz] at ht;obtain⟨_,_,h⟩:=ht;cases h;rfl
         · cases hu
     · rename_i hcl
       rw[if_neg hcl];exact VA h hu
theorem Ve (h:Le o o') {s:St} {dst:Option Nat} {own:Bool} {f:FuncId} {vs:List V} {s'} (hu:B0 o dep s dst own f vs=some s'):B0 o' dep s dst own f vs=some s':=by
 unfold B0 at hu ⊢;split at hu
 · rename_i hc
   rw[if_pos hc];split at hu
   · rename_i r m hr
     simp only[h _ _ _ _ _ hr];exact hu
   · cases hu
 · cases hu
theorem rh {s s':St} {io:AS} (hu:BN cfg o dep s io=some s'):∃ own f vs,Ay s.get io.guard=some true∧(io.dst.isSome&&BE io.op&&(CH cfg io.op).isNone)=true∧target cfg s.get io.op=some (own,f,vs)∧
   B0 o dep s io.dst own f vs=some s':=by
 unfold BN at hu;split at hu
 · rename_i hg
   split at hu
   · rename_i hc
     split at hu
     · rename_i own f vs ht
       exact⟨own,f,vs,hg,hc,ht,hu⟩
     · cases hu
   · cases hu
 · cases hu
theorem asb (h:Le o o') {s s':St} {io:AS} (hu:BN cfg o dep s io=some s'):BN cfg o' dep s io=some s':=by
 obtain⟨own,f,vs,hg,hc,ht,hm⟩:=rh hu;unfold BN;simp only[hg,hc,ht,if_true];exact Ve h hm
theorem ou {o'':Orc} {s s':St} {io:AS} (hu:BN cfg o dep s io=some s'):Ae cfg o'' dep s.get io=none:=by
 obtain⟨own,f,vs,hg,hc,ht,hm⟩:=rh hu;simp only[aca,Option.isNone_iff_eq_none] at hc;obtain⟨⟨h1,h2⟩,h3⟩:=hc;have hn:BJ s.get vs=none:=by
  unfold B0 at hm;split at hm
  · rename_i hq
    simp only[aca,Option.isNone_iff_eq_none] at hq;exact hq.1
  · cases hm
 unfold Ae;have h1':io.dst.isNone=false:=by cases hd:io.dst<;>simp_all
 simp only[hg,h1',Bool.false_and,acb,if_false,h2,if_true,h3,ht,Bb,hn];cases hr:C1 cfg o'' s.get io.dst io.op vs with
 |none=>rfl
 | some u=>
  obtain⟨_,_,_,_,_,_,hd,_⟩:=tr hr;rw[hn] at hd;cases hd
theorem aky (h:Le o o') {s s':St} {io:AS} (hu:CX cfg o dep s io=some s'):CX cfg o' dep s io=some s':=by
 unfold CX at hu ⊢;split at hu
 · rename_i u h1
   simp only[ar9 h h1];exact hu
 · simp only[ou (o'':=o') hu]
   exact asb h hu
theorem zo (h:Le o o'):∀ (l:List AS) {s s':St},CY cfg o dep l s=some s'→CY cfg o' dep l s=some s'
 | [],_,_,hu=>hu
 | io::l,s,s',hu=>by
  unfold CY at hu ⊢;split at hu
  · rename_i s1 h1
    simp only[aky h h1];exact zo h l hu
  · cases hu
theorem aa7 {e0:List (Nat×V)} {pre:Bool} {s:St} {io:AS} {r:Bool×List (Loc×V)} (hu:Bt cfg o dep e0 pre s io=some r):(∃ u,r=(false,u)∧Ae cfg o dep s.get io=some u)∨
   ∃ s',BN cfg o dep s io=some s'∧∀ o'',BN cfg o'' dep s io=some s'→Bt cfg o'' dep e0 pre s io=some r:=by
 unfold Bt at hu;split at hu
 · rename_i u h1
   cases hu;exact .inl ⟨u,rfl,h1⟩
 · split at hu
   · rename_i hq
     split at hu
     · rename_i s' hs'
       refine .inr ⟨s',hs',fun o'' h2=> ?_⟩
       unfold Bt;simp only[ou (o'':=o'') h2,hq,if_true,h2];exact hu
     · cases hu
   · cases hu
theorem ar7 (h:Le o o') {e0:List (Nat×V)} {pre:Bool} {s:St} {io:AS} {r:Bool×List (Loc×V)} (hu:Bt cfg o dep e0 pre s io=some r):Bt cfg o' dep e0 pre s io=some r:=by
 rcases aa7 hu with⟨u,rfl,h1⟩|⟨s',h1,h2⟩
 · unfold Bt
   simp only[ar9 h h1]
 · exact h2 o' (asb h h1)
theorem te (h:Le o o') {e0:List (Nat×V)}:∀ (l:List AS) {pre:Bool} {s:St} {r},Bf cfg o dep e0 pre l s=some r→Bf cfg o' dep e0 pre l s=some r
 | [],_,_,_,hu=>hu
 | io::l,pre,s,r,hu=>by
  unfold Bf at hu ⊢;split at hu
  · rename_i b u h1
    split at hu
    · rename_i l' s' h2
      simp only[ar7 h h1,te h l h2];exact hu
    · cases hu
  · cases hu
theorem aq0 (h:Le o o') {l:List AS} {un:List (Nat×Nat)} {s s':St} (hu:A9 cfg o dep l un s=some s'):A9 cfg o' dep l un s=some s':=by
 unfold A9 at hu ⊢;split at hu
 · exact zo h l hu
 · split at hu
   · rename_i l' s1 h1
     simp only[te h _ h1];exact hu
   · cases hu
theorem kg {f g:St→Option (Ex×St)} (h:∀ s r,f s=some r→g s=some r):∀ {n n':Nat},n≤n'→∀ {s:St} {r},Bj f n s=some r→Bj g n' s=some r
 |0,_,_,_,_,hu=>by cases hu
 | n+1,n',hn,s,r,hu=>by
  obtain⟨k,rfl⟩:∃ k,n'=k+1:=⟨n'-1,by omega⟩
  unfold Bj at hu ⊢;split at hu
  · rename_i s1 h1
    simp only[h _ _ h1];exact kg h abu hu
  · rename_i hno
    cases hf:f s with
    |none=>rw[hf] at hu;cases hu
    | some q=>
     rw[hf] at hu;cases hu;rw[h _ _ hf];split
     · rename_i s1 he
       cases he;exact absurd hf (hno s1)
     · rfl
theorem nv {f g:List D→List (Cel×V)→Option (Ex×List (Cel×V))} (h:∀ x m r,f x m=some r→g x m=some r):∀ (l:List (List D)) {m:List (Cel×V)} {r},Bk f l m=some r→Bk g l m=some r
 | [],_,_,hu=>hu
 | x::l,m,r,hu=>by
  unfold Bk at hu ⊢;split at hu
  · rename_i m1 h1
    simp only[h _ _ _ h1];exact nv h l hu
  · rename_i hno
    rw[h _ _ _ hu];split
    · rename_i m1 he;cases he;exact absurd hu (hno m1)
    · rfl
theorem lq {ca cb ca' cb':St→Option (Ex×St)} (ha:∀ s r,ca s=some r→ca' s=some r) (hb:∀ s r,cb s=some r→cb' s=some r) {dep:Nat} {ps:List Nat} {e:List (Nat×V)} {x:List D} {m:List (Cel×V)} {r} (h:Bd ca cb dep ps e x m=some r):
   Bd ca' cb' dep ps e x m=some r:=by
 unfold Bd at h ⊢;split at h
 · rename_i e1 _
   split at h
   · rename_i s1 h1
     simp only[ha _ _ h1];split at h
     · rename_i q s2 h2
       simp only[hb _ _ h2];exact h
     · cases h
   · cases h
 · cases h
theorem bk (h:Le o o') {n n':Nat} (hn:n≤n'):∀ (c:AA) {dep:Nat} {s:St} {r},AH cfg o dep n c s=some r→AH cfg o' dep n' c s=some r:=by
 intro c
 induction c with
 |skip=>intro dep s r hu;simpa only[AH] using hu
 | region ops un Ac=>
  intro dep s r hu;simp only[AH] at hu ⊢;split at hu
  · rename_i s1 h1
    simp only[aq0 h h1];exact hu
  · cases hu
 | seq a b iha ihb=>
  intro dep s r hu;simp only[AH] at hu ⊢;split at hu
  · rename_i s1 h1
    simp only[iha h1];exact ihb hu
  · rename_i hno
    have:=iha hu;rw[this];split
    · rename_i s1 he
      cases he;exact absurd hu (hno s1)
    · rfl
 | cond x a b iha ihb=>
  intro dep s r hu;simp only[AH] at hu ⊢;split at hu
  · split at hu
    · rename_i ht;rw[if_pos ht];exact iha hu
    · rename_i ht;rw[if_neg ht];exact ihb hu
  · exact tz (fun r h=>iha h) (fun r h=>ihb h) hu
  · cases hu
 | block id b ih=>
  intro dep s r hu;simp only[AH] at hu ⊢;split at hu
  · rename_i id' s1 h1
    simp only[ih h1];exact hu
  · rename_i hno
    rw[ih hu];split
    · rename_i id' s1 he
      cases he;exact absurd hu (hno _ _)
    · rfl
 | loop b ih=>
  intro dep s r hu;simp only[AH] at hu ⊢;exact kg (fun s r h=>ih h) hn hu
 |exit id=>intro dep s r hu;simpa only[AH] using hu
 |ret=>intro dep s r hu;simpa only[AH] using hu
 |BV ls=>intro dep s r hu;simpa only[AH] using hu
 |AU ls=>intro dep s r hu;simpa only[AH] using hu
 | each x ps a b iha ihb=>
  intro dep s r hu;simp only[AH] at hu ⊢;split at hu
  · rename_i l hl
    split at hu
    · rename_i e m h1
      rw[nv (fun x m r h=>lq (fun s r h=>iha h) (fun s r h=>ihb h) h) l h1]
      exact hu
    · cases hu
  · cases hu
 |free k=>intro dep s r hu;simpa only[AH] using hu
 |bad=>intro dep s r hu;simp[AH] at hu
theorem ti (h:Le o o') {n n':Nat} (hn:n≤n') {fn:AN} {vs:List V} {m:List (Cel×V)} {r} (hu:DM cfg o n fn dep vs m=some r):DM cfg o' n' fn dep vs m=some r:=by
 unfold DM at hu ⊢;split at hu
 · rename_i hc
   rw[if_pos hc];split at hu
   · rename_i s h1
     simp only[bk h hn _ h1];exact hu
   · rename_i s h1
     simp only[bk h hn _ h1];exact hu
   · cases hu
 · cases hu
theorem b6 (cfg:Cfg):∀ {n n':Nat},n≤n'→Le (BU cfg n) (BU cfg n')
 |0,_,_=>fun _ _ _ _ _ h=>by cases h
 | n+1,n',hn=>fun f d vs m r h=>by
  obtain⟨k,rfl⟩:∃ k,n'=k+1:=⟨n'-1,by omega⟩
  unfold BU at h ⊢;split at h
  · exact h
  · split at h
    · exact ti (b6 cfg abu) abu h
    · cases h
open Classical in
noncomputable def Lim {β:Type} (f:Nat→Option β):Option β:=if h:∃ r n,f n=some r then some h.choose else none
def Up {β:Type} (f:Nat→Option β):Prop:=∀ n n' r,n≤n'→f n=some r→f n'=some r
theorem bog {β:Type} {f:Nat→Option β} (hf:Up f) {r:β}:Lim f=some r↔∃ n,f n=some r:=by
 unfold Lim;constructor
 · intro h
   split at h
   · rename_i hx
     cases h;exact hx.choose_spec
   · cases h
 · rintro ⟨n,hn⟩
   have hx:∃ r n,f n=some r:=⟨r,n,hn⟩
   rw[dif_pos hx];obtain⟨k,hk⟩:=hx.choose_spec;have h1:=hf n (max n k) _ (adq _ _) hn;have h2:=hf k (max n k) _ (Nat.le_max_right _ _) hk;rw[h1] at h2;exact h2.symm
noncomputable def evL (cfg:Cfg):Orc:=fun f d vs m=>Lim fun n=>BU cfg n f d vs m
theorem gh {cfg:Cfg} {f:FuncId} {d:Nat} {vs:List V} {m:List (Cel×V)} {r}:evL cfg f d vs m=some r↔∃ n,BU cfg n f d vs m=some r:=
 bog fun n n' r hn h=>b6 cfg hn _ _ _ _ _ h
theorem VC (cfg:Cfg) (n:Nat):Le (BU cfg n) (evL cfg):=fun _ _ _ _ _ h=>gh.2 ⟨n,h⟩
theorem bac {s:Get} {dst:Option Nat} {own:Bool} {f:FuncId} {vs:List V} {u} (hu:Bb (evL cfg) s dst own f vs=some u):∃ k,Bb (BU cfg k) s dst own f vs=some u:=by
 unfold Bb at hu;split at hu
 · rename_i ds sh hd
   split at hu
   · rename_i r m hr
     obtain⟨k,hk⟩:=gh.1 hr;refine⟨k,?_⟩;unfold Bb;simp only[hd,hk];exact hu
   · cases hu
 · cases hu
theorem bnc {s:Get} {dst:Option Nat} {own:Bool} {f:FuncId} {op:IOp} {vs:List V} (AX:∀ CN f' args,op= .call CN f' args→f'=f) {u} (hu:(match Bb (evL cfg) s dst own f vs with|some u=>some u|none=>C1 cfg (evL cfg) s dst op vs)=some u):
   ∃ k,(match Bb (BU cfg k) s dst own f vs with|some u=>some u|none=>C1 cfg (BU cfg k) s dst op vs)=some u:=by
 split at hu
 · rename_i u' h1
   obtain⟨k,hk⟩:=bac h1;exact⟨k,by simp only[hk];exact hu⟩
 · rename_i h1
   obtain⟨CN,f',args,ds,r,rfl,hd,hr,ht⟩:=tr hu;cases AX _ _ _ rfl;obtain⟨k1,hk1⟩:=gh.1 hr;unfold CK at ht;simp only[ab7,abz] at ht;obtain⟨vs',h2,u',h3,h4⟩:=ht;obtain⟨k2,hk2⟩:=bac h3;have g1:=b6 cfg (adq k1 k2) _ _ _ _ _ hk1;refine⟨max k1 k2,?_⟩;have h5:Bb (BU cfg (max k1 k2)) s dst own f vs=none:=by
    unfold Bb at h1 ⊢;simp only[hd,hr] at h1;simp only[hd,g1];exact h1
   simp only[h5];rw[bae hd g1];unfold CK;simp only[ab7,abz];exact⟨vs',h2,u',z8 (b6 cfg (Nat.le_max_right k1 k2)) hk2,h4⟩
theorem Vf {s:Get} {dst:Option Nat} {own:Bool} {f:FuncId} {args:List AB} {i:Nat} {u} (hu:C8 cfg (evL cfg) s dst own f args i=some u):∃ k,C8 cfg (BU cfg k) s dst own f args i=some u:=by
 unfold C8 at hu;simp only[ab7] at hu;obtain⟨ix,hix,v,hv,g,hg,vs,hvs,q,hq,⟨r,m⟩,hor,hl⟩:=hu;obtain⟨k,hk⟩:=gh.1 hor;refine⟨k,?_⟩;unfold C8;simp only[ab7];exact⟨ix,hix,v,hv,g,hg,vs,hvs,q,hq,⟨r,m⟩,hk,hl⟩
theorem U9 {s:Get} {dst:Option Nat} {op:IOp} {u} (hu:Dq cfg (evL cfg) dep s dst op=some u):∃ k,Dq cfg (BU cfg k) dep s dst op=some u:=by
 unfold Dq at hu;split at hu
 · obtain⟨k,hk⟩:=Vf hu
   exact⟨k,by simp only[Dq];exact hk⟩
 · rename_i hng
   refine⟨0,?_⟩;unfold Dq;split
   · rename_i own f args i;exact absurd rfl (hng own f args i)
   · exact hu
theorem ar8 {s:Get} {io:AS} {u} (hu:Ae cfg (evL cfg) dep s io=some u):∃ k,Ae cfg (BU cfg k) dep s io=some u:=by
 have hu':=hu;unfold Ae at hu;split at hu
 · cases hu
 · rename_i hg
   refine⟨0,?_⟩;unfold Ae;simp only[hg];exact hu
 · rename_i hg
   split at hu
   · cases hu
   · rename_i hno
     split at hu
     · rename_i hcl
       split at hu
       · rename_i x hx
         refine⟨0,?_⟩;unfold Ae;simp only[hg,hcl,hx,if_true];rw[if_neg hno];exact hu
       · rename_i hx
         split at hu
         · rename_i own f vs ht
           obtain⟨k,hk⟩:=bnc (fun CN f' args e=>by
            rw[e] at ht;simp only[target,abz] at ht;obtain⟨_,_,h⟩:=ht;cases h;rfl) hu
           refine⟨k,?_⟩;unfold Ae;simp only[hg,hcl,hx,ht,if_true];rw[if_neg hno];exact hk
         · cases hu
     · rename_i hcl
       obtain⟨k,hk⟩:=U9 hu;refine⟨k,?_⟩;unfold Ae;simp only[hg];rw[if_neg hno,if_neg hcl];exact hk
theorem asa {s s':St} {io:AS} (hu:BN cfg (evL cfg) dep s io=some s'):∃ k,BN cfg (BU cfg k) dep s io=some s':=by
 obtain⟨own,f,vs,hg,hc,ht,hm⟩:=rh hu;unfold B0 at hm;split at hm
 · rename_i hq
   split at hm
   · rename_i r m hr
     obtain⟨k,hk⟩:=gh.1 hr;refine⟨k,?_⟩;unfold BN;simp only[hg,hc,ht,if_true];unfold B0;rw[if_pos hq];simp only[hk];exact hm
   · cases hm
 · cases hm
theorem bmi {s s':St} {io:AS} (hu:CX cfg (evL cfg) dep s io=some s'):∃ k,CX cfg (BU cfg k) dep s io=some s':=by
 unfold CX at hu;split at hu
 · rename_i u h1
   obtain⟨k,hk⟩:=ar8 h1;refine⟨k,?_⟩;unfold CX;simp only[hk];exact hu
 · obtain⟨k,h2⟩:=asa hu
   refine⟨k,?_⟩;unfold CX;simp only[ou (o'':=BU cfg k) h2];exact h2
theorem a90:∀ (l:List AS) {s s':St},CY cfg (evL cfg) dep l s=some s'→∃ k,CY cfg (BU cfg k) dep l s=some s'
 | [],_,_,hu=>⟨0,hu⟩
 | io::l,s,s',hu=>by
  unfold CY at hu;split at hu
  · rename_i s1 h1
    obtain⟨k1,g1⟩:=bmi h1;obtain⟨k2,g2⟩:=a90 l hu;refine⟨max k1 k2,?_⟩;unfold CY;simp only[aky (b6 cfg (adq k1 k2)) g1];exact zo (b6 cfg (Nat.le_max_right k1 k2)) l g2
  · cases hu
theorem Sq {e0:List (Nat×V)} {pre:Bool} {s:St} {io:AS} {r:Bool×List (Loc×V)} (hu:Bt cfg (evL cfg) dep e0 pre s io=some r):∃ k,Bt cfg (BU cfg k) dep e0 pre s io=some r:=by
 rcases aa7 hu with⟨u,rfl,h1⟩|⟨s',h1,h2⟩
 · obtain⟨k,hk⟩:=ar8 h1
   refine⟨k,?_⟩;unfold Bt;simp only[hk]
 · obtain⟨k,hk⟩:=asa h1
   exact⟨k,h2 _ hk⟩
theorem ak0 {e0:List (Nat×V)}:∀ (l:List AS) {pre:Bool} {s:St} {r},Bf cfg (evL cfg) dep e0 pre l s=some r→∃ k,Bf cfg (BU cfg k) dep e0 pre l s=some r
 | [],_,_,_,hu=>⟨0,hu⟩
 | io::l,pre,s,r,hu=>by
  unfold Bf at hu;split at hu
  · rename_i b u h1
    split at hu
    · rename_i l' s1 h2
      obtain⟨k1,g1⟩:=Sq h1;obtain⟨k2,g2⟩:=ak0 l h2;refine⟨max k1 k2,?_⟩;unfold Bf;simp only[ar7 (b6 cfg (adq k1 k2)) g1,te (b6 cfg (Nat.le_max_right k1 k2)) l g2];exact hu
    · cases hu
  · cases hu
theorem aqz {l:List AS} {un:List (Nat×Nat)} {s s':St} (hu:A9 cfg (evL cfg) dep l un s=some s'):∃ k,A9 cfg (BU cfg k) dep l un s=some s':=by
 unfold A9 at hu;split at hu
 · exact a90 l hu
 · split at hu
   · rename_i hno l' s1 h1
     obtain⟨k,hk⟩:=ak0 _ h1;refine⟨k,?_⟩;unfold A9;simp only[hk];exact hu
   · cases hu
theorem ak1 {f:St→Option (Ex×St)} {g:Nat→St→Option (Ex×St)} (hup:∀ k k',k≤k'→∀ s r,g k s=some r→g k' s=some r) (h:∀ s r,f s=some r→∃ k,g k s=some r):∀ (n:Nat) {s:St} {r},Bj f n s=some r→∃ k,Bj (g k) n s=some r
 |0,_,_,hu=>by cases hu
 | n+1,s,r,hu=>by
  unfold Bj at hu;split at hu
  · rename_i s1 h1
    obtain⟨k1,g1⟩:=h _ _ h1;obtain⟨k2,g2⟩:=ak1 hup h n hu;refine⟨max k1 k2,?_⟩;unfold Bj;simp only[hup _ _ (adq k1 k2) _ _ g1];exact kg (hup _ _ (Nat.le_max_right k1 k2)) (ab5 _) g2
  · rename_i hno
    obtain⟨k,hk⟩:=h _ _ hu;refine⟨k,?_⟩;unfold Bj;rw[hk];split
    · rename_i s1 he
      cases he;exact absurd hu (hno s1)
    · rfl
theorem tf {f:List D→List (Cel×V)→Option (Ex×List (Cel×V))} {g:Nat→List D→List (Cel×V)→Option (Ex×List (Cel×V))} (hup:∀ k k',k≤k'→∀ x m r,g k x m=some r→g k' x m=some r) (h:∀ x m r,f x m=some r→∃ k,g k x m=some r):
  ∀ (l:List (List D)) {m:List (Cel×V)} {r},Bk f l m=some r→∃ k,Bk (g k) l m=some r
 | [],_,_,hu=>⟨0,hu⟩
 | x::l,m,r,hu=>by
  unfold Bk at hu;split at hu
  · rename_i m1 h1
    obtain⟨k1,g1⟩:=h _ _ _ h1;obtain⟨k2,g2⟩:=tf hup h l hu;refine⟨max k1 k2,?_⟩;unfold Bk;simp only[hup _ _ (adq k1 k2) _ _ _ g1];exact nv (hup _ _ (Nat.le_max_right k1 k2)) l g2
  · rename_i hno
    obtain⟨k,hk⟩:=h _ _ _ hu;refine⟨k,?_⟩;unfold Bk;rw[hk];split
    · rename_i m1 he;cases he;exact absurd hu (hno m1)
    · rfl
theorem bmp {n:Nat}:∀ (c:AA) {dep:Nat} {s:St} {r},AH cfg (evL cfg) dep n c s=some r→∃ k,AH cfg (BU cfg k) dep n c s=some r:=by
 intro c
 induction c with
 | region ops un Ac=>
  intro dep s r hu;simp only[AH] at hu ⊢;split at hu
  · rename_i s1 h1
    obtain⟨k,hk⟩:=aqz h1;exact⟨k,by simp only[hk];exact hu⟩
  · cases hu
 | seq a b iha ihb=>
  intro dep s r hu;simp only[AH] at hu ⊢;split at hu
  · rename_i s1 h1
    obtain⟨k1,g1⟩:=iha h1;obtain⟨k2,g2⟩:=ihb hu;refine⟨max k1 k2,?_⟩;simp only[bk (b6 cfg (adq k1 k2)) (ab5 n) a g1];exact bk (b6 cfg (Nat.le_max_right k1 k2)) (ab5 n) b g2
  · rename_i hno
    obtain⟨k,hk⟩:=iha hu;refine⟨k,?_⟩;rw[hk];split
    · rename_i s1 he
      cases he;exact absurd hu (hno s1)
    · rfl
 | cond x a b iha ihb=>
  intro dep s r hu;simp only[AH] at hu ⊢;split at hu
  · split at hu
    · rename_i ht;obtain⟨k,hk⟩:=iha hu;exact⟨k,by rw[if_pos ht];exact hk⟩
    · rename_i ht;obtain⟨k,hk⟩:=ihb hu;exact⟨k,by rw[if_neg ht];exact hk⟩
  · obtain⟨h1,h2⟩:=dq hu
    obtain⟨k1,g1⟩:=iha h1;obtain⟨k2,g2⟩:=ihb h2;refine⟨max k1 k2,?_⟩;rw[bk (b6 cfg (adq k1 k2)) (ab5 n) a g1,bk (b6 cfg (Nat.le_max_right k1 k2)) (ab5 n) b g2];rw[h1,h2] at hu;exact hu
  · cases hu
 | block id b ih=>
  intro dep s r hu;simp only[AH] at hu ⊢;split at hu
  · rename_i id' s1 h1
    obtain⟨k,hk⟩:=ih h1;exact⟨k,by simp only[hk];exact hu⟩
  · rename_i hno
    obtain⟨k,hk⟩:=ih hu;refine⟨k,?_⟩;rw[hk];split
    · rename_i id' s1 he
      cases he;exact absurd hu (hno _ _)
    · rfl
 | loop b ih=>
  intro dep s r hu;simp only[AH] at hu ⊢;exact ak1 (f:=AH cfg (evL cfg) dep n b) (g:=fun k=>AH cfg (BU cfg k) dep n b) (fun k k' hk s r h=>bk (b6 cfg hk) (ab5 n) b h) (fun s r h=>ih h) n hu
 | each x ps a b iha ihb=>
  intro dep s r hu;simp only[AH] at hu ⊢;split at hu
  · rename_i l hl
    split at hu
    · rename_i e m h1
      obtain⟨k,hk⟩:=tf (g:=fun k=>Bd (AH cfg (BU cfg k) (dep+1) n a) (AH cfg (BU cfg k) (dep+1) n b) dep ps (Ab dep s.env))
       (fun k k' hk x m r h=>lq (fun s r h=>bk (b6 cfg hk) (ab5 n) a h) (fun s r h=>bk (b6 cfg hk) (ab5 n) b h) h)
       (fun x m r h=>by
        obtain⟨e1,s1,s2,h3,h4,h5,h6⟩:=gy (e:=r.1) (m':=r.2) h;obtain⟨k1,g1⟩:=iha h4;obtain⟨k2,g2⟩:=ihb h5;refine⟨max k1 k2,?_⟩;unfold Bd;simp only[h3,bk (b6 cfg (adq k1 k2)) (ab5 n) a g1,bk (b6 cfg (Nat.le_max_right k1 k2)) (ab5 n) b g2];rw[← h6]) l h1
      exact⟨k,by rw[hk];exact hu⟩
    · cases hu
  · cases hu
 |bad=>intro dep s r hu;simp[AH] at hu
 |_=>intro dep s r hu;exact⟨0,by simpa only[AH] using hu⟩
noncomputable def evC (cfg:Cfg) (dep:Nat) (c:AA) (s:St):Option (Ex×St):=Lim fun n=>AH cfg (evL cfg) dep n c s
theorem ae {c:AA} {s:St} {r}:evC cfg dep c s=some r↔∃ n,AH cfg (evL cfg) dep n c s=some r:=
 bog fun _ _ _ hn h=>bk (fun _ _ _ _ _ h=>h) hn c h
theorem ce {n n':Nat} (hn:n≤n') {c:AA} {s:St} {r} (h:AH cfg (evL cfg) dep n c s=some r):AH cfg (evL cfg) dep n' c s=some r:=bk (fun _ _ _ _ _ h=>h) hn c h
theorem ff {β:Type} {a b:Option β} (h1:∀ r,a=some r→b=some r) (h2:∀ r,b=some r→a=some r):a=b:=by
 cases a with
 |some r=>exact(h1 r rfl).symm
 | none=>cases b with
  |some r=>exact absurd (h2 r rfl) abw
  |none=>rfl
theorem fg {c:AA} {s:St} {X:Option (Ex×St)} (h:∀ n,AH cfg (evL cfg) dep n c s=X):evC cfg dep c s=X:=
 ff (fun r hr=>by obtain⟨n,hn⟩:=ae.1 hr;rw[← h n];exact hn) (fun r hr=>ae.2 ⟨0,by rw[h 0];exact hr⟩)
theorem VD (s:St):evC cfg dep .skip s=some (.normal,s):=fg fun n=>by simp only[AH]
theorem VH (id:Nat) (s:St):evC cfg dep (.exit id) s=some (.exit id,s):=fg fun n=>by simp only[AH]
theorem YE (s:St):evC cfg dep .ret s=some (.ret,s):=fg fun n=>by simp only[AH]
theorem bb6 (ls:List Nat) (s:St):evC cfg dep (.BV ls) s=some (.normal,{s with env:=ls.foldl (fun e k=>BS k e) s.env}):=fg fun n=>by simp only[AH]
theorem VF (ls:List Nat) (s:St):evC cfg dep (.AU ls) s=some (.normal,DL s ls):=fg fun n=>by simp only[AH]
theorem VG (k:Nat) (s:St):evC cfg dep (.free k) s=some (.normal,⟨Da dep k s.env,Bv dep k s.mem⟩):=fg fun n=>by simp only[AH]
theorem wt (ops:List AS) (un:List (Nat×Nat)) (Ac:List Nat) (s:St):evC cfg dep (.region ops un Ac) s=(match A9 cfg (evL cfg) dep ops un s with
 |some s'=>some (.normal,settle dep Ac s')
 |none=>none):=fg fun n=>by simp only[AH];cases A9 cfg (evL cfg) dep ops un s<;>rfl
theorem VJ (x:AB) (a b:AA) (s:St):evC cfg dep (.cond x a b) s=(match val cfg s.get x with
   |some (.d (.bool t))=>if t then evC cfg dep a s else evC cfg dep b s
   |some (.d .Cy)=>DO (evC cfg dep a s) (evC cfg dep b s)
   |_=>none):=by
 split
 · rename_i t ht
   refine ff (fun r hr=> ?_) (fun r hr=> ?_)
   · obtain⟨n,hn⟩:=ae.1 hr
     simp only[AH,ht] at hn;cases t
     · exact ae.2 ⟨n,by simpa using hn⟩
     · exact ae.2 ⟨n,by simpa using hn⟩
   · cases t
     · obtain⟨n,hn⟩:=ae.1 hr
       exact ae.2 ⟨n,by simp only[AH,ht];exact hn⟩
     · obtain⟨n,hn⟩:=ae.1 hr
       exact ae.2 ⟨n,by simp only[AH,ht];exact hn⟩
 · rename_i ht
   refine ff (fun r hr=> ?_) (fun r hr=> ?_)
   · obtain⟨n,hn⟩:=ae.1 hr
     simp only[AH,ht] at hn;exact tz (fun r h=>ae.2 ⟨n,h⟩) (fun r h=>ae.2 ⟨n,h⟩) hn
   · obtain⟨h1,h2⟩:=dq hr
     obtain⟨n1,g1⟩:=ae.1 h1;obtain⟨n2,g2⟩:=ae.1 h2;refine ae.2 ⟨max n1 n2,?_⟩;simp only[AH,ht];rw[ce (adq n1 n2) g1,ce (Nat.le_max_right n1 n2) g2];rw[h1,h2] at hr;exact hr
 · rename_i hno hno'
   refine fg fun n=> ?_
   simp only[AH]
theorem YD (a b:AA) (s:St):evC cfg dep (.seq a b) s=(match evC cfg dep a s with
   |some (.normal,s')=>evC cfg dep b s'
   |r=>r):=by
 refine ff (fun r hr=> ?_) (fun r hr=> ?_)
 · obtain⟨n,hn⟩:=ae.1 hr
   simp only[AH] at hn;split at hn
   · rename_i s1 h1
     rw[ae.2 ⟨n,h1⟩];exact ae.2 ⟨n,hn⟩
   · rename_i hno
     rw[ae.2 ⟨n,hn⟩];split
     · rename_i s1 he
       cases he;exact absurd hn (hno s1)
     · rfl
 · split at hr
   · rename_i s1 h1
     obtain⟨n1,g1⟩:=ae.1 h1;obtain⟨n2,g2⟩:=ae.1 hr;refine ae.2 ⟨max n1 n2,?_⟩;simp only[AH,ce (adq n1 n2) g1];exact ce (Nat.le_max_right n1 n2) g2
   · rename_i hno
     obtain⟨n,hn⟩:=ae.1 hr;refine ae.2 ⟨n,?_⟩;simp only[AH];rw[hn];split
     · rename_i s1 he
       cases he;exact absurd hr (hno s1)
     · rfl
theorem bmq (id:Nat) (b:AA) (s:St):evC cfg dep (.block id b) s=(match evC cfg dep b s with
   |some (.exit id',s')=>if id'=id then some (.normal,s') else some (.exit id',s')
   |r=>r):=by
 refine ff (fun r hr=> ?_) (fun r hr=> ?_)
 · obtain⟨n,hn⟩:=ae.1 hr
   simp only[AH] at hn;split at hn
   · rename_i id' s1 h1
     rw[ae.2 ⟨n,h1⟩];exact hn
   · rename_i hno
     rw[ae.2 ⟨n,hn⟩];split
     · rename_i id' s1 he
       cases he;exact absurd hn (hno _ _)
     · rfl
 · split at hr
   · rename_i id' s1 h1
     obtain⟨n,hn⟩:=ae.1 h1;refine ae.2 ⟨n,?_⟩;simp only[AH,hn];exact hr
   · rename_i hno
     obtain⟨n,hn⟩:=ae.1 hr;refine ae.2 ⟨n,?_⟩;simp only[AH];rw[hn];split
     · rename_i id' s1 he
       cases he;exact absurd hr (hno _ _)
     · rfl
theorem VE (b:AA) (s:St):evC cfg dep (.loop b) s=(match evC cfg dep b s with
   |some (.normal,s')=>evC cfg dep (.loop b) s'
   |r=>r):=by
 refine ff (fun r hr=> ?_) (fun r hr=> ?_)
 · obtain⟨n,hn⟩:=ae.1 hr
   cases n with
   |zero=>simp[AH,Bj] at hn
   | succ n=>
     simp only[AH,Bj] at hn;split at hn
     · rename_i s1 h1
       rw[ae.2 ⟨n+1,h1⟩];exact ae.2 ⟨n+1,by simp only[AH];exact kg (fun _ _ h=>h) (Nat.le_succ n) hn⟩
     · rename_i hno
       rw[ae.2 ⟨n+1,hn⟩];split
       · rename_i s1 he
         cases he;exact absurd hn (hno s1)
       · rfl
 · split at hr
   · rename_i s1 h1
     obtain⟨n1,g1⟩:=ae.1 h1;obtain⟨n2,g2⟩:=ae.1 hr;refine ae.2 ⟨max n1 n2+1,?_⟩;simp only[AH,Bj,ce (show n1≤max n1 n2+1 by omega) g1]
     simp only[AH] at g2;exact kg (fun s r h=>ce (show n2≤max n1 n2+1 by omega) h) (Nat.le_max_right n1 n2) g2
   · rename_i hno
     obtain⟨n,hn⟩:=ae.1 hr;refine ae.2 ⟨n+1,?_⟩;simp only[AH,Bj];rw[ce (Nat.le_succ n) hn];split
     · rename_i s1 he
       cases he;exact absurd hr (hno s1)
     · rfl
noncomputable def evB (cfg:Cfg) (fn:AN) (dep:Nat) (vs:List V) (m:List (Cel×V)):Option (V×List (Cel×V)):=
 if vs.length=fn.arity∧E7 vs m then
  match evC cfg dep fn.body ⟨entry 0 vs,m⟩ with
  |some (.normal,s)|some (.ret,s)=>(Cs dep s.get fn.results).bind fun v=>C4 dep v s.mem
  |_=>none
 else none
theorem VB {f:FuncId} {fn:AN} (hx:cfg.ext f=none) (hf:cfg.funcs f=some fn) (dep:Nat) (vs:List V) (m:List (Cel×V)):evL cfg f dep vs m=evB cfg fn dep vs m:=by
 refine ff (fun r hr=> ?_) (fun r hr=> ?_)
 · obtain⟨n,hn⟩:=gh.1 hr
   cases n with
   |zero=>cases hn
   | succ n=>
     simp only[BU,hx,hf] at hn;have h2:=ti (VC cfg n) (ab5 n) hn;unfold DM at h2;unfold evB;split at h2
     · rename_i hc
       rw[if_pos hc];split at h2
       · rename_i s h1
         rw[ae.2 ⟨n,h1⟩];exact h2
       · rename_i s h1
         rw[ae.2 ⟨n,h1⟩];exact h2
       · cases h2
     · cases h2
 · unfold evB at hr
   have key:∀ {n:Nat} {e s},AH cfg (evL cfg) dep n fn.body ⟨entry 0 vs,m⟩=some (e,s)→(vs.length=fn.arity∧E7 vs m=true)→(e= .normal∨e= .ret)→((Cs dep s.get fn.results).bind fun v=>C4 dep v s.mem)=some r→evL cfg f dep vs m=some r:=by
     intro n e s h1 hc he h2;obtain⟨k,hk⟩:=bmp fn.body h1;refine gh.2 ⟨max k n+1,?_⟩;simp only[BU,hx,hf];unfold DM;rw[if_pos hc,bk (b6 cfg (adq k n)) (Nat.le_max_right k n) fn.body hk];rcases he with rfl|rfl<;>exact h2
   split at hr
   · rename_i hc
     split at hr
     · rename_i s h1
       obtain⟨n,hn⟩:=ae.1 h1;exact key hn hc (.inl rfl) hr
     · rename_i s h1
       obtain⟨n,hn⟩:=ae.1 h1;exact key hn hc (.inr rfl) hr
     · cases hr
   · cases hr
theorem YC {f:FuncId} {g} (hx:cfg.ext f=some g) (dep:Nat) (vs:List V) (m:List (Cel×V)):evL cfg f dep vs m=((B6 vs).bind g).map fun v=>(v,m):=by
 refine ff (fun r hr=> ?_) (fun r hr=> ?_)
 · obtain⟨n,hn⟩:=gh.1 hr
   cases n with
   |zero=>cases hn
   |succ n=>simpa only[BU,hx] using hn
 · exact gh.2 ⟨1,by simpa only[BU,hx] using hr⟩
theorem lE {P:Program} (hm:P.follows .mixedOrders=true) (hC:CM P cfg) (hF:ud P cfg) (hX:FU P cfg):CL P cfg (evL cfg):=
 fun f dep vs m r m' h x w args E=>by
  obtain⟨n,hn⟩:=gh.1 h;exact aE hm hC hF hX n f dep vs m r m' hn x w args E
theorem VI (x:AB) (ps:List Nat) (a b:AA) (s:St):evC cfg dep (.each x ps a b) s=(match(val cfg s.get x).bind (DC cfg) with
  | some l=>match Bk (Bd (evC cfg (dep+1) a) (evC cfg (dep+1) b) dep ps (Ab dep s.env)) l s.mem with
    |some (e,m)=>some (e,⟨Ab dep s.env,m⟩)
    |none=>none
  |none=>none):=by
 cases hl:(val cfg s.get x).bind (DC cfg) with
 |none=>exact fg fun n=>by simp only[AH,hl]
 | some l=>
  refine ff (fun r hr=> ?_) (fun r hr=> ?_)
  · obtain⟨n,hn⟩:=ae.1 hr
    simp only[AH,hl] at hn;split at hn
    · rename_i e m h1
      simp only[nv (fun x m r h=>lq (fun s r h=>ae.2 ⟨n,h⟩) (fun s r h=>ae.2 ⟨n,h⟩) h) l h1]
      exact hn
    · cases hn
  · simp only at hr
    split at hr
    · rename_i e m h1
      obtain⟨n,hn⟩:=tf (g:=fun n=>Bd (AH cfg (evL cfg) (dep+1) n a) (AH cfg (evL cfg) (dep+1) n b) dep ps (Ab dep s.env))
       (fun k k' hk x m r h=>lq (fun s r h=>ce hk h) (fun s r h=>ce hk h) h)
       (fun x m r h=>by
        obtain⟨e1,s1,s2,h3,h4,h5,h6⟩:=gy (e:=r.1) (m':=r.2) h;obtain⟨k1,g1⟩:=ae.1 h4;obtain⟨k2,g2⟩:=ae.1 h5;refine⟨max k1 k2,?_⟩;unfold Bd;simp only[h3,ce (adq k1 k2) g1,ce (Nat.le_max_right k1 k2) g2];rw[← h6]) l h1
      refine ae.2 ⟨n,?_⟩;simp only[AH,hl,hn];exact hr
    · cases hr
end
end Go.Ev
namespace Go.Ev
open Go
inductive Kf where
 |c (c:AA)
 |b (id:Nat)
abbrev Ans:=Option (V×List (Cel×V))
structure Kx where
 cfg:Cfg
 dep:Nat
 k:Ex→St→Ans
def X8 (dep:Nat) (res:List Dh):Ex→St→Ans
 | .normal,s| .ret,s=>(Cs dep s.get res).bind fun v=>C4 dep v s.mem
 | .exit _,_=>none
abbrev fx (cfg:Cfg) (dep:Nat) (res:List Dh):Kx:=⟨cfg,dep,X8 dep res⟩
noncomputable def aj (X:Kx):List Kf→Option (Ex×St)→Ans
 | [],some (e,s)=>X.k e s
 | [],none=>none
 | .c c::K,some (.normal,s)=>aj X K (evC X.cfg X.dep c s)
 | .c _::K,r=>aj X K r
 | .b id::K,some (.exit id',s)=>if id'=id then aj X K (some (.normal,s)) else aj X K (some (.exit id',s))
 | .b _::K,r=>aj X K r
noncomputable def go (X:Kx) (K:List Kf) (s:St):Ans:=aj X K (some (.normal,s))
noncomputable def goX (X:Kx) (id:Nat) (K:List Kf) (s:St):Ans:=aj X K (some (.exit id,s))
theorem ah (X:Kx):∀ K,aj X K none=none
 | []=>rfl
 | .c _::K=>by rw[aj];exact ah X K;simp
 | .b _::K=>by rw[aj];exact ah X K;simp
theorem k7 (X:Kx) (s:St):∀ K,aj X K (some (.ret,s))=X.k .ret s
 | []=>rfl
 | .c _::K=>by rw[aj];exact k7 X s K;simp
 | .b _::K=>by rw[aj];exact k7 X s K;simp
variable {X:Kx} {K:List Kf} {s:St}
theorem go_nil:go X [] s=X.k .normal s:=rfl
theorem Xv (id:Nat):goX X id [] s=X.k (.exit id) s:=rfl
theorem go_blk (id:Nat):go X (.b id::K) s=go X K s:=by unfold go;rw[aj];simp
theorem go_ret:go X (.c .ret::K) s=X.k .ret s:=by unfold go;rw[aj,YE,k7]
theorem go_skip:go X (.c .skip::K) s=go X K s:=by unfold go;rw[aj,VD]
theorem go_exit (id:Nat):go X (.c (.exit id)::K) s=goX X id K s:=by unfold go goX;rw[aj,VH]
theorem goX_c (id:Nat) (c:AA):goX X id (.c c::K) s=goX X id K s:=by unfold goX;rw[aj];simp
theorem goX_b (id id':Nat):goX X id (.b id'::K) s=if id=id' then go X K s else goX X id K s:=by unfold goX go;rw[aj]
theorem go_seq (a b:AA):go X (.c (.seq a b)::K) s=go X (.c a:: .c b::K) s:=by
 unfold go;rw[aj,aj,YD];cases h:evC X.cfg X.dep a s with
 |none=>rw[ah,ah]
 | some r=>
  obtain⟨e,s'⟩:=r;cases e with
  |normal=>rw[aj]
  |ret=>rw[aj];simp
  |exit id=>rw[aj];simp
theorem go_loop (b:AA):go X (.c (.loop b)::K) s=go X (.c b:: .c (.loop b)::K) s:=by
 unfold go;rw[aj,aj,VE];cases h:evC X.cfg X.dep b s with
 |none=>rw[ah,ah]
 | some r=>
  obtain⟨e,s'⟩:=r;cases e with
  |normal=>rw[aj]
  |ret=>rw[aj];simp
  |exit id=>rw[aj];simp
theorem go_block (id:Nat) (b:AA):go X (.c (.block id b)::K) s=go X (.c b:: .b id::K) s:=by
 unfold go;rw[aj,aj,bmq];cases h:evC X.cfg X.dep b s with
 |none=>rw[ah,ah]
 | some r=>
  obtain⟨e,s'⟩:=r;cases e with
  |normal=>rw[aj];simp
  |ret=>rw[aj];simp
  |exit id'=>rw[aj];simp only;split<;>rfl
theorem go_demote (ls:List Nat):go X (.c (.BV ls)::K) s=go X K {s with env:=ls.foldl (fun e k=>BS k e) s.env}:=by unfold go;rw[aj,bb6]
theorem go_give (ls:List Nat):go X (.c (.AU ls)::K) s=go X K (DL s ls):=by unfold go;rw[aj,VF]
theorem go_free (k:Nat):go X (.c (.free k)::K) s=go X K ⟨Da X.dep k s.env,Bv X.dep k s.mem⟩:=by unfold go;rw[aj,VG]
noncomputable def H2 (X:Kx) (K:List Kf) (E:List (Nat×V)) (f:List (Cel×V)→Ans):Ex→St→Ans
 | .normal,s=>f (Ak (X.dep+1) s.mem)
 | .ret,s=>X.k .ret ⟨E,Ak (X.dep+1) s.mem⟩
 | .exit id,s=>goX X id K ⟨E,Ak (X.dep+1) s.mem⟩
noncomputable def Hz (X:Kx) (b:AA) (K:List Kf) (E:List (Nat×V)) (f:List (Cel×V)→Ans):Ex→St→Ans
 | .normal,s=>go ⟨X.cfg,X.dep+1,H2 X K E f⟩ [.c b] s
 |_,_=>none
noncomputable def Qa (X:Kx) (a b:AA) (K:List Kf) (E:List (Nat×V)) (m:List (Cel×V)) (f:List (Cel×V)→Ans):Option (List (Nat×V))→Ans
 |some e=>go ⟨X.cfg,X.dep+1,Hz X b K E f⟩ [.c a] ⟨e,m⟩
 |none=>none
noncomputable def goE (X:Kx) (ps:List Nat) (a b:AA) (E:List (Nat×V)) (K:List Kf):List (List D)→List (Cel×V)→Ans
 | [],m=>go X K ⟨E,m⟩
 |x::l,m=>Qa X a b K E m (goE X ps a b E K l) (D6 ps x (Bu E))
noncomputable def goEQ (X:Kx) (ps:List Nat) (a b:AA) (K:List Kf) (s:St):Option (List (List D))→Ans
 |some l=>goE X ps a b (Ab X.dep s.env) K l s.mem
 |none=>none
theorem Us (ps:List Nat) (a b:AA) (E:List (Nat×V)):∀ (l:List (List D)) (m:List (Cel×V)),aj X K (match Bk (Bd (evC X.cfg (X.dep+1) a) (evC X.cfg (X.dep+1) b) X.dep ps E) l m with
  |some (e,m)=>some (e,⟨E,m⟩)
  |none=>none)=goE X ps a b E K l m
 | [],m=>rfl
 | x::l,m=>by
  have ih:=Us ps a b E l;unfold goE Bk Bd;cases hp:D6 ps x (Bu E) with
  |none=>exact ah _ _
  | some e1=>
   simp only[Qa];unfold go;rw[aj];cases ha:evC X.cfg (X.dep+1) a ⟨e1,m⟩ with
   |none=>exact ah _ _
   | some r=>
    obtain⟨e,s1⟩:=r;cases e with
    | normal=>
     show _=Hz X b K E (goE X ps a b E K l) .normal s1;simp only[Hz];unfold go;rw[aj];cases hb:evC X.cfg (X.dep+1) b s1 with
     |none=>exact ah _ _
     | some r=>
      obtain⟨e,s2⟩:=r;cases e with
      |normal=>exact ih _
      |ret=>exact k7 _ _ _
      |exit id=>rfl
    |ret=>exact ah _ _
    |exit id=>exact ah _ _
theorem go_each (x:AB) (ps:List Nat) (a b:AA):go X (.c (.each x ps a b)::K) s=goEQ X ps a b K s ((val X.cfg s.get x).bind (DC X.cfg)):=by
 unfold go;rw[aj,VI];cases(val X.cfg s.get x).bind (DC X.cfg) with
 |none=>exact ah _ _
 |some l=>exact Us ps a b _ l s.mem
noncomputable def goR (X:Kx) (ops:List AS) (Ac:List Nat) (K:List Kf) (s:St):Ans:=
 match CY X.cfg (evL X.cfg) X.dep ops s with
 |some s'=>go X K (settle X.dep Ac s')
 |none=>none
theorem go_region (ops:List AS) (Ac:List Nat):go X (.c (.region ops [] Ac)::K) s=goR X ops Ac K s:=by
 unfold go goR;rw[aj,wt,A9];cases CY X.cfg (evL X.cfg) X.dep ops s with
 |none=>exact ah _ _
 |some s'=>rfl
theorem ab {cfg:Cfg} {f:FuncId} {fn:AN} (hx:cfg.ext f=none) (hf:cfg.funcs f=some fn) (dep:Nat) (vs:List V) (m:List (Cel×V)) (ha:vs.length=fn.arity) (hp:E7 vs m=true):
  evL cfg f dep vs m=go (fx cfg dep fn.results) [.c fn.body] ⟨entry 0 vs,m⟩:=by
 rw[VB hx hf];unfold evB;rw[if_pos ⟨ha,hp⟩];unfold go;rw[aj];cases evC cfg dep fn.body ⟨entry 0 vs,m⟩ with
 |none=>rfl
 | some r=>
  obtain⟨e,s⟩:=r;cases e<;>rfl
end Go.Ev
namespace Go.Ev
open Go
variable {X:Kx} {K:List Kf} {s:St} {cfg:Cfg} {AY:Orc} {dep:Nat}
noncomputable def goQ (X:Kx) (a b:AA) (K:List Kf) (s:St):Option V→Ans
 |some (.d (.bool t))=>if t then go X (.c a::K) s else go X (.c b::K) s
 |some (.d .Cy)=>aj X K (DO (evC X.cfg X.dep a s) (evC X.cfg X.dep b s))
 |_=>none
theorem go_condQ (x:AB) (a b:AA):go X (.c (.cond x a b)::K) s=goQ X a b K s (val X.cfg s.get x):=by
 unfold go;rw[aj,VJ];generalize val X.cfg s.get x=v;cases v with
 |none=>exact ah _ _
 | some v=>
  cases v with
  | d y=>
   cases y with
   |bool t=>cases t<;>(simp only[goQ];unfold go;simp[aj])
   |Cy=>rfl
   |_=>exact ah _ _
  |_=>exact ah _ _
theorem goQ_t (a b:AA):goQ X a b K s (some (.d (.bool true)))=go X (.c a::K) s:=rfl
theorem goQ_f (a b:AA):goQ X a b K s (some (.d (.bool false)))=go X (.c b::K) s:=rfl
theorem A7 (a b:AA) (t:Bool):goQ X a b K s (some (.d (.bool t)))=if t then go X (.c a::K) s else go X (.c b::K) s:=rfl
noncomputable def goC (X:Kx) (o:AS) (r:List AS) (Ac:List Nat) (K:List Kf) (s:St):Option (List (Loc×V))→Ans
 |some u=>goR X r Ac K (s.upd u)
 | none=>match BN X.cfg (evL X.cfg) X.dep s o with
  |some s'=>goR X r Ac K s'
  |none=>none
theorem Ur (o:AS) (r:List AS) (Ac:List Nat):goR X (o::r) Ac K s=goC X o r Ac K s (Ae X.cfg (evL X.cfg) X.dep s.get o):=by
 unfold goR;rw[CY];unfold goC CX;cases Ae X.cfg (evL X.cfg) X.dep s.get o with
 |some u=>rfl
 | none=>
  simp only;cases BN X.cfg (evL X.cfg) X.dep s o<;>rfl
theorem Ut (o:AS) (r:List AS) (Ac:List Nat) (u:List (Loc×V)):goC X o r Ac K s (some u)=goR X r Ac K (s.upd u):=rfl
theorem Xw (Ac:List Nat) (e:List (Nat×V)) (m:List (Cel×V)):goR X [] Ac K ⟨e,m⟩=go X K ⟨Bc X.dep Ac e,BG X.dep m⟩:=rfl
theorem Uz (e:List (Nat×V)) (m:List (Cel×V)) (k:Nat):St.get ⟨e,m⟩ (.slot k)=lk e k:=rfl
theorem U0 (e:List (Nat×V)) (m:List (Cel×V)) (c:Cel):St.get ⟨e,m⟩ (.cell c)=lk m c:=rfl
theorem Wp:s.upd []=s:=rfl
theorem Sd (e:List (Nat×V)) (m:List (Cel×V)) (k:Nat) (v:V) (u:List (Loc×V)):St.upd ⟨e,m⟩ ((.slot k,v)::u)=St.upd ⟨Go.Ev.st e k v,m⟩ u:=rfl
theorem Se (e:List (Nat×V)) (m:List (Cel×V)) (c:Cel) (v:V) (u:List (Loc×V)):St.upd ⟨e,m⟩ ((.cell c,v)::u)=St.upd ⟨e,Go.Ev.st m c v⟩ u:=rfl
theorem bk5 (k:Nat) (v:V):AG (some k) v=[(.slot k,v)]:=rfl
theorem val_t (s:Get) (k:Nat):val cfg s (.t k)=s (.slot k):=rfl
theorem val_c (s:Get) (x:D):val cfg s (.c x)=some (.d x):=rfl
theorem Sb (s:Get):BK cfg s []=some []:=rfl
theorem bck (s:Get) (x:AB) (r:List AB):BK cfg s (x::r)=(val cfg s x).bind fun v=>(BK cfg s r).bind fun vs=>some (v::vs):=by
 rw[BK];cases val cfg s x<;>cases BK cfg s r<;>rfl
theorem VR (s:Get):Ec cfg s []=some []:=rfl
theorem bm0 (s:Get) (x:AB) (r:List AB):Ec cfg s (x::r)=(dat cfg s x).bind fun v=>(Ec cfg s r).bind fun vs=>some (v::vs):=by
 rw[Ec];cases dat cfg s x<;>cases Ec cfg s r<;>rfl
theorem bind_some {α β:Type} (a:α) (f:α→Option β):(some a).bind f=f a:=rfl
theorem ZV (s:Get) (dst:Option Nat) (k:Nat) (b t:Bool) (op:IOp) (h:s (.slot k)=some (.d (.bool t))):Ae cfg AY dep s ⟨dst,some (k,b),op⟩=if t==b then Ae cfg AY dep s ⟨dst,none,op⟩ else some (AG dst (.d (.tup []))):=by
 unfold Ae;simp only[Ay,h];cases t<;>cases b<;>rfl
theorem WU (s:Get) (dst:Option Nat) (k:Nat) (b:Bool) (op:IOp) (h:s (.slot k)=some (.d (.tup []))):Ae cfg AY dep s ⟨dst,some (k,b),op⟩=some (AG dst (.d (.tup []))):=by
 unfold Ae;simp only[Ay,h]
def gU (cfg:Cfg) (AY:Orc) (dep:Nat) (s:Get) (dst:Option Nat) (b:Bool) (op:IOp):Option V→Option (List (Loc×V))
 |some (.d (.bool t))=>if t==b then Ae cfg AY dep s ⟨dst,none,op⟩ else some (AG dst (.d (.tup [])))
 |some (.d (.tup []))=>some (AG dst (.d (.tup [])))
 |_=>none
theorem U_g (s:Get) (dst:Option Nat) (k:Nat) (b:Bool) (op:IOp):Ae cfg AY dep s ⟨dst,some (k,b),op⟩=gU cfg AY dep s dst b op (s (.slot k)):=by
 unfold gU;split
 · rename_i t h;exact ZV s dst k b t op h
 · rename_i h;exact WU s dst k b op h
 · rename_i h1 h2
   unfold Ae;have:Ay s (some (k,b))=none:=by
    unfold Ay;split
    · rename_i e;cases e
    · rename_i e
      cases e;split
      · rename_i t h;exact absurd h (h1 t)
      · rename_i h;exact absurd h h2
      · rfl
   rw[this]
theorem gU_b (s:Get) (dst:Option Nat) (b t:Bool) (op:IOp):gU cfg AY dep s dst b op (some (.d (.bool t)))=if t==b then Ae cfg AY dep s ⟨dst,none,op⟩ else some (AG dst (.d (.tup []))):=rfl
theorem gU_u (s:Get) (dst:Option Nat) (b:Bool) (op:IOp):gU cfg AY dep s dst b op (some (.d (.tup [])))=some (AG dst (.d (.tup []))):=rfl
theorem U_mv (s:Get) (k:Nat) (x:AB):Ae cfg AY dep s ⟨some k,none,.mv x⟩=(val cfg s x).bind fun v=>Dr (some k) x v:=rfl
theorem U_asg (s:Get) (k:Nat) (x:AB):Ae cfg AY dep s ⟨some k,none,.asg x⟩=(val cfg s x).bind fun v=>Cz s (some k) x v:=rfl
def a9z (dst:Option Nat):Option V→Option (List (Loc×V))
 |some (.d x)=>some (AG dst (.d x))
 |_=>none
def UA (dst:Option Nat) (f:Bool→Option V):Option V→Option (List (Loc×V))
 |some (.d (.bool t))=>a9z dst (f t)
 |_=>none
theorem XZ (dst:Option Nat) (f:Bool→Option V) (t:Bool):UA dst f (some (.d (.bool t)))=a9z dst (f t):=rfl
theorem U8 (k:Nat) (x:D):a9z (some k) (some (.d x))=some [(.slot k,.d x)]:=rfl
theorem oI (s:Get) (k:Nat) (c a b:AB):Ae cfg AY dep s ⟨some k,none,.pick c a b⟩=UA (some k) (fun t=>val cfg s (if t then a else b)) (val cfg s c):=by
 show Al cfg dep s (some k) (.pick c a b)=_;simp only[Al];generalize val cfg s c=v;cases v with
 |none=>rfl
 | some v=>
  cases v with
  | d y=>
   cases y with
   |bool t=>simp only[UA,a9z];rfl
   |_=>rfl
  |_=>rfl
theorem U_bin (s:Get) (k:Nat) (op:BinOp) (x y:AB):Ae cfg AY dep s ⟨some k,none,.bin op x y⟩=match val cfg s x,val cfg s y with
 |some (.d a),some (.d b)=>(D.bin op a b).map fun r=>[(.slot k,.d r)]
 |_,_=>none:=rfl
theorem U_eqn (s:Get) (k:Nat) (n:Bool) (c:QO) (x y:AB):Ae cfg AY dep s ⟨some k,none,.eqn n c x y⟩=match val cfg s x,val cfg s y with
 |some a,some b=>(V.eqn cfg c a b).map fun r=>[(.slot k,.d (.bool (if n then !r else r)))]
 |_,_=>none:=rfl
theorem ZU (s:Get) (k:Nat) (n:Bool) (x:AB):Ae cfg AY dep s ⟨some k,none,.isNil n x⟩=(val cfg s x).bind fun v=>(mj n v).map fun r=>[(.slot k,.d r)]:=rfl
theorem U_un (s:Get) (k:Nat) (op:UnOp) (x:AB):Ae cfg AY dep s ⟨some k,none,.un op x⟩=match val cfg s x with
 |some (.d a)=>(D.un op a).map fun r=>[(.slot k,.d r)]
 |_=>none:=rfl
theorem ZX (s:Get) (j:Nat) (k:IntKind) (x:AB):Ae cfg AY dep s ⟨some j,none,.Aj k x⟩=match val cfg s x with
 |some (.d (.int _ n))=>some [(.slot j,.d (.int k (k.wrap n)))]
 |_=>none:=rfl
theorem U_b2s (s:Get) (k:Nat) (x:AB):Ae cfg AY dep s ⟨some k,none,.b2s x⟩=((val cfg s x).bind (cont s)).bind fun es=>(b7 es).map fun b=>[(.slot k,.d (.str b))]:=rfl
theorem oJ (s:Get) (k:Nat) (z:Option Nat) (x:AB):Ae cfg AY dep s ⟨some k,none,.load z x⟩=(val cfg s x).bind fun v=>ea s (some k) z v:=rfl
def Qr (cfg:Cfg) (s:Get) (n:Nat) (a x:AB):Option (List (Loc×V)):=match val cfg s a,val cfg s x with
 |some a,some v=>bz s n a x v
 |_,_=>none
def W7 (cfg:Cfg) (s:Get) (n:Nat) (a x:AB):Option V→Option (List (Loc×V))
 |some (.Am _ _ _)=>(Qr cfg (AK s (giveUp s [a,x])) n a x).map (giveUp s [a,x]++ ·)
 |_=>Qr cfg s n a x
theorem ZR (s:Get) (n:Nat) (a x:AB):Ae cfg AY dep s ⟨none,none,.store n a x⟩=W7 cfg s n a x (val cfg s a):=by
 show Fp cfg dep s none (.store n a x)=_;unfold Fp W7;cases h:val cfg s a with
 |none=>simp only[gives,h];rfl
 |some v=>cases v<;>(simp only[gives,h];rfl)
theorem bcu (s:Get) (n:Nat) (a x:AB) (l:Loc) (i o:Nat):W7 cfg s n a x (some (.Am l i o))=(Qr cfg (AK s (giveUp s [a,x])) n a x).map (giveUp s [a,x]++ ·):=rfl
theorem Sn (s:Get) (n:Nat) (a x:AB) (d k o:Nat):W7 cfg s n a x (some (.ref d k o))=Qr cfg s n a x:=rfl
theorem Sm (s:Get) (n:Nat) (a x:AB):Qr cfg s n a x=(val cfg s a).bind fun p=>(val cfg s x).bind fun v=>bz s n p x v:=by
 unfold Qr;cases val cfg s a with
 |none=>rfl
 |some p=>cases val cfg s x<;>rfl
def v7 (l:Loc) (r:List (Loc×V)):Option V→List (Loc×V)
 |some (.own false _ es)=>(l,.d (.sl es))::r
 |_=>r
def ja (s:Get) (k:Nat) (r:List (Loc×V)):Option V→List (Loc×V)
 |some (.own _ _ es)=>(.slot k,.d (.sl es))::r
 |some (.bor l _ _)=>v7 l r (s l)
 |_=>r
def v6 (k o n:Nat) (r:List (Loc×V)):Option V→List (Loc×V)
 |some (.own false _ es)=>(.slot k,.d (.sl ((es.drop o).take n)))::r
 |_=>r
def i8 (s:Get) (k:Nat) (r:List (Loc×V)):Option V→List (Loc×V)
 |some (.bor l o n)=>v6 k o n r (s l)
 |_=>r
theorem bbo (s:Get) (l:List AB):giveUp s l=BZ s l++CC s l:=rfl
theorem bl5 (s:Get):BZ s []=[]:=rfl
theorem X2 (s:Get) (d:D) (r:List AB):BZ s (.c d::r)=BZ s r:=rfl
theorem X1 (s:Get) (n:Nat) (r:List AB):BZ s (.g n::r)=BZ s r:=rfl
theorem bl4 (s:Get):CC s []=[]:=rfl
theorem Xz (s:Get) (d:D) (r:List AB):CC s (.c d::r)=CC s r:=rfl
theorem Xy (s:Get) (n:Nat) (r:List AB):CC s (.g n::r)=CC s r:=rfl
theorem X0 (s:Get) (k:Nat) (r:List AB):BZ s (.t k::r)=ja s k (BZ s r) (s (.slot k)):=by
 unfold ja v7;rw[BZ];cases s (.slot k) with
 |none=>rfl
 |some v=>cases v<;>rfl
theorem Xx (s:Get) (k:Nat) (r:List AB):CC s (.t k::r)=i8 s k (CC s r) (s (.slot k)):=by
 unfold i8 v6;rw[CC];cases s (.slot k) with
 |none=>rfl
 |some v=>cases v<;>rfl
theorem bby (s:Get) (k:Nat) (r:List (Loc×V)) (nw:Bool) (z:Nat) (es:List D):ja s k r (some (.own nw z es))=(.slot k,.d (.sl es))::r:=rfl
theorem bb1 (s:Get) (k:Nat) (r:List (Loc×V)) (l:Loc) (o n:Nat):ja s k r (some (.bor l o n))=v7 l r (s l):=rfl
theorem bbr (s:Get) (k:Nat) (r:List (Loc×V)) (nw:Bool) (z:Nat) (es:List D):i8 s k r (some (.own nw z es))=r:=rfl
theorem bbu (s:Get) (k:Nat) (r:List (Loc×V)) (l:Loc) (o n:Nat):i8 s k r (some (.bor l o n))=v6 k o n r (s l):=rfl
theorem bb2 (l:Loc) (r:List (Loc×V)) (z:Nat) (es:List D):v7 l r (some (.own false z es))=(l,.d (.sl es))::r:=rfl
theorem bbv (k o n:Nat) (r:List (Loc×V)) (z:Nat) (es:List D):v6 k o n r (some (.own false z es))=(.slot k,.d (.sl ((es.drop o).take n)))::r:=rfl
theorem Uy (l:Loc) (r:List (Loc×V)) (y:D):v7 l r (some (.d y))=r:=rfl
theorem Uw (k o n:Nat) (r:List (Loc×V)) (y:D):v6 k o n r (some (.d y))=r:=rfl
theorem aqp (l:Loc) (r:List (Loc×V)):v7 l r none=r:=rfl
theorem aqk (k o n:Nat) (r:List (Loc×V)):v6 k o n r none=r:=rfl
theorem Ux (s:Get) (k:Nat) (r:List (Loc×V)) (y:D):ja s k r (some (.d y))=r:=rfl
theorem aqo (s:Get) (k:Nat) (r:List (Loc×V)) (l:Loc) (o n:Nat):ja s k r (some (.Am l o n))=r:=rfl
theorem aqn (s:Get) (k:Nat) (r:List (Loc×V)) (e:D) (o:Nat):ja s k r (some (.Af e o))=r:=rfl
theorem bbx (s:Get) (k:Nat) (r:List (Loc×V)) (d j o:Nat):ja s k r (some (.ref d j o))=r:=rfl
theorem bb0 (s:Get) (k:Nat) (r:List (Loc×V)) (f:FuncId) (a b:List V):ja s k r (some (.clo f a b))=r:=rfl
theorem bbz (s:Get) (k:Nat) (r:List (Loc×V)) (t:TypeId) (v:V):ja s k r (some (.ifc t v))=r:=rfl
theorem bbw (s:Get) (k:Nat) (r:List (Loc×V)) (ys:List V):ja s k r (some (.vec ys))=r:=rfl
theorem aql (s:Get) (k:Nat) (r:List (Loc×V)) (y:V):ja s k r (some (.BB y))=r:=rfl
theorem bbp (s:Get) (k:Nat) (r:List (Loc×V)) (ys:List V):i8 s k r (some (.vec ys))=r:=rfl
theorem aqg (s:Get) (k:Nat) (r:List (Loc×V)) (y:V):i8 s k r (some (.BB y))=r:=rfl
theorem aqm (s:Get) (k:Nat) (r:List (Loc×V)):ja s k r (some (.AM))=r:=rfl
theorem Uv (s:Get) (k:Nat) (r:List (Loc×V)) (y:D):i8 s k r (some (.d y))=r:=rfl
theorem aqj (s:Get) (k:Nat) (r:List (Loc×V)) (l:Loc) (o n:Nat):i8 s k r (some (.Am l o n))=r:=rfl
theorem aqi (s:Get) (k:Nat) (r:List (Loc×V)) (e:D) (o:Nat):i8 s k r (some (.Af e o))=r:=rfl
theorem bbq (s:Get) (k:Nat) (r:List (Loc×V)) (d j o:Nat):i8 s k r (some (.ref d j o))=r:=rfl
theorem bbt (s:Get) (k:Nat) (r:List (Loc×V)) (f:FuncId) (a b:List V):i8 s k r (some (.clo f a b))=r:=rfl
theorem bbs (s:Get) (k:Nat) (r:List (Loc×V)) (t:TypeId) (v:V):i8 s k r (some (.ifc t v))=r:=rfl
theorem aqh (s:Get) (k:Nat) (r:List (Loc×V)):i8 s k r (some (.AM))=r:=rfl
theorem ZT (s:Get) (k:Nat) (x:AB):Ae cfg AY dep s ⟨some k,none,.FC x⟩=(val cfg s x).bind fun v=>EM (some k) v:=rfl
theorem Za (s:Get) (k:Nat) (zs:List D):Ae cfg AY dep s ⟨some k,none,.alloc zs⟩=if(s (.cell ⟨dep,k,0⟩)).isSome||zs.isEmpty then none
 else some ((.slot k,.ref dep k 0)::df dep k 0 (zs.map .d)):=rfl
theorem U_box (s:Get) (k n:Nat) (x:AB):Ae cfg AY dep s ⟨some k,none,.box n x⟩=(val cfg s x).bind fun v=>Ep dep s k n v:=by
 show Al cfg dep s (some k) (.box n x)=_;simp only[Al];cases val cfg s x<;>rfl
def bldV (cfg:Cfg) (s:Get) (k:Nat) (zs:List D) (ps:List (Nat×Nat×AB)):Option (List (Loc×V)):=(de cfg s ps).bind fun l=>(EJ zs l).map fun cs=>[(.slot k,.d (.agg cs))]
theorem ZZ (s:Get) (k:Nat) (zs:List D) (ps:List (Nat×Nat×AB)):Ae cfg AY dep s ⟨some k,none,.build zs ps⟩=(bldV cfg (AK s (giveUp s (ps.map fun p=>p.2.2))) k zs ps).map (giveUp s (ps.map fun p=>p.2.2)++ ·):=rfl
theorem V7 (s:Get) (k:Nat) (zs:List D) (ps:List (Nat×Nat×AB)):bldV cfg s k zs ps=(de cfg s ps).bind fun l=>(EJ zs l).map fun cs=>[(.slot k,.d (.agg cs))]:=rfl
def HG (cfg:Cfg) (s:Get) (k:Nat) (own:Bool) (z n:Nat) (zd:D) (ps:List (Nat×AB)):Option (List (Loc×V)):=(f7 cfg s ps).bind fun l=>
 if zd.cells.length=z∧n≤1000∧zd.storable then
  (Eo z (List.replicate n zd) l).map fun es=>[(.slot k,if n=0 then .d .AL else if own then .own true z es else .d (.sl es))] else none
def Xl (cfg:Cfg) (s:Get) (k:Nat) (own:Bool) (z n:Nat) (zd:D) (ps:List (Nat×AB)):Option (List (Loc×V)):=
 match H6 cfg s (some k) z n ps with
 |some u=>some u
 |none=>HG cfg s k own z n zd ps
def Wm (cfg:Cfg) (s:Get) (k:Nat) (own:Bool) (z n:Nat) (zd:D) (ps:List (Nat×AB)):Option (List V)→Option (List (Loc×V))
 |some (y::ys)=>if z=1∧n=(y::ys).length then some [(.slot k,.vec (y::ys))] else HG cfg s k own z n zd ps
 |_=>HG cfg s k own z n zd ps
def Ua (cfg:Cfg) (s:Get) (k:Nat) (own:Bool) (z n:Nat) (zd:D) (ps:List (Nat×AB)):Option V→Option (List (Loc×V))
 |some (.ref _ _ _)=>Wm cfg s k own z n zd ps (dc cfg s 0 ps)
 |_=>HG cfg s k own z n zd ps
theorem U_lit (s:Get) (k:Nat) (own:Bool) (z n:Nat) (zd:D) (ps:List (Nat×AB)):Ae cfg AY dep s ⟨some k,none,.lit own z n zd ps⟩=(Xl cfg (AK s (giveUp s (ps.map fun p=>p.2))) k own z n zd ps).map (giveUp s (ps.map fun p=>p.2)++ ·):=by
 show(Al cfg dep (AK s (giveUp s (ps.map fun p=>p.2))) (some k) (.lit own z n zd ps)).map (giveUp s (ps.map fun p=>p.2)++ ·)=_
 congr 1
theorem UY (s:Get) (k:Nat) (own:Bool) (z n:Nat) (zd:D):Xl cfg s k own z n zd []=HG cfg s k own z n zd []:=rfl
theorem bln (s:Get) (k:Nat) (own:Bool) (z n:Nat) (zd:D) (j:Nat) (x:AB) (r:List (Nat×AB)):Xl cfg s k own z n zd ((j,x)::r)=Ua cfg s k own z n zd ((j,x)::r) (val cfg s x):=by
 unfold Xl Ua H6;cases hv:val cfg s x with
 |none=>simp only[dc,hv]
 | some v=>
  cases v with
  | ref d j' o=>
   dsimp only;unfold Wm;cases dc cfg s 0 ((j,x)::r) with
   |none=>rfl
   | some l=>cases l with
    |nil=>rfl
    | cons y ys=>
     dsimp only;by_cases h:z=1∧n=(y::ys).length
     · rw[if_pos h,if_pos h];rfl
     · rw[if_neg h,if_neg h]
  |_=>simp only[dc,hv]
theorem eQ (s:Get) (k:Nat) (own:Bool) (z n:Nat) (zd:D) (ps:List (Nat×AB)) (y:D):Ua cfg s k own z n zd ps (some (.d y))=HG cfg s k own z n zd ps:=rfl
theorem blo (s:Get) (k:Nat) (own:Bool) (z n:Nat) (zd:D) (ps:List (Nat×AB)) (y:D) (o:Nat):Ua cfg s k own z n zd ps (some (.Af y o))=HG cfg s k own z n zd ps:=rfl
theorem UZ (s:Get) (k:Nat) (own:Bool) (z n:Nat) (zd:D) (ps:List (Nat×AB)) (d j o:Nat):Ua cfg s k own z n zd ps (some (.ref d j o))=Wm cfg s k own z n zd ps (dc cfg s 0 ps):=rfl
theorem bci (s:Get) (k:Nat) (own:Bool) (z n:Nat) (zd:D) (ps:List (Nat×AB)) (y:V) (ys:List V):Wm cfg s k own z n zd ps (some (y::ys))=if z=1∧n=(y::ys).length then some [(.slot k,.vec (y::ys))] else HG cfg s k own z n zd ps:=rfl
def TA (cfg:Cfg) (s:Get) (i j:Nat) (r:List (Nat×AB)):Option V→Option (List V)
 |some (.ref d k o)=>if j=i then(dc cfg s (i+1) r).map (.ref d k o:: ·) else none
 |_=>none
theorem ba4 (s:Get) (i:Nat):dc cfg s i []=some []:=rfl
theorem aly (s:Get) (i j:Nat) (x:AB) (r:List (Nat×AB)):dc cfg s i ((j,x)::r)=TA cfg s i j r (val cfg s x):=by
 unfold TA;rw[dc];rfl
theorem bdn (s:Get) (i j:Nat) (r:List (Nat×AB)) (d k o:Nat):TA cfg s i j r (some (.ref d k o))=if j=i then(dc cfg s (i+1) r).map (.ref d k o:: ·) else none:=rfl
theorem Ub (s:Get) (k:Nat) (own:Bool) (z n:Nat) (zd:D) (ps:List (Nat×AB)):HG cfg s k own z n zd ps=(f7 cfg s ps).bind fun l=>
 if zd.cells.length=z∧n≤1000∧zd.storable then
  (Eo z (List.replicate n zd) l).map fun es=>[(.slot k,if n=0 then .d .AL else if own then .own true z es else .d (.sl es))] else none:=rfl
theorem U_mkI (s:Get) (k:Nat) (t:TypeId) (x:AB):Ae cfg AY dep s ⟨some k,none,.mkI t x⟩=match val cfg s x with
 |some (.d a)=>some [(.slot k,.d (.ifc t a.canon))]
 |some (.ref d j off)=>some [(.slot k,.ifc t (.ref d j off))]
 |some (.Af e 0)=>some [(.slot k,.d (.ifc t (.ptr e)))]
 |_=>none:=rfl
theorem U_mkS (s:Get) (k z bytes:Nat) (zd:D) (l c:AB):Ae cfg AY dep s ⟨some k,none,.mkS z bytes zd l c⟩=match(dat cfg s l).bind D.toInt?,(dat cfg s c).bind D.toInt? with
 |some n,some m=>if 0≤n∧n≤m∧m≤bh∧bytes≤2048∧zd.cells.length=z∧zd.storable then some [(.slot k,.own true z (List.replicate n.toNat zd))] else none
 |_,_=>none:=rfl
theorem ZS (s:Get) (k z:Nat) (x:AB) (lo hi mx:Option AB):Ae cfg AY dep s ⟨some k,none,.slice z x lo hi mx⟩=(val cfg s x).bind fun v=>gd cfg s (some k) z x v lo hi mx:=rfl
theorem WS (s:Get) (k:Nat) (x:AB) (lo hi:Option AB):Ae cfg AY dep s ⟨some k,none,.GA x lo hi⟩=match val cfg s x with
 |some (.d (.str b))=>(bf cfg s b.length lo hi).map fun(l,h)=>[(.slot k,.d (.str ((b.take h).drop l)))]
 |_=>none:=rfl
theorem WW (s:Get) (k off:Nat) (x:AB):Ae cfg AY dep s ⟨some k,none,.AV off x⟩=match val cfg s x with
 |some (.ref d j o)=>some [(.slot k,.ref d j (o+off))]
 |some (.Am l i o)=>some [(.slot k,.Am l i (o+off))]
 |some (.Af e o)=>some [(.slot k,.Af e (o+off))]
 |some (.d (.ptr e))=>some [(.slot k,.Af e off)]
 |_=>none:=rfl
theorem ZW (s:Get) (k off:Nat) (z:Option Nat) (x:AB):Ae cfg AY dep s ⟨some k,none,.field off z x⟩=match val cfg s x with
 |some (.d (.agg cs))=>(ldD z (.agg cs) off).map fun r=>[(.slot k,.d r)]
 |_=>none:=rfl
def X6 (k off:Nat) (z:Option Nat):V→Option (List (Loc×V))
 | .d (.agg cs)=>(ldD z (.agg cs) off).map fun r=>[(.slot k,.d r)]
 |_=>none
theorem WV (s:Get) (k off:Nat) (z:Option Nat) (x:AB):Ae cfg AY dep s ⟨some k,none,.field off z x⟩=(val cfg s x).bind (X6 k off z):=by
 rw[ZW];cases val cfg s x with
 |none=>rfl
 | some v=>cases v with
  |d y=>cases y<;>rfl
  |_=>rfl
theorem U3 (k off:Nat) (z:Option Nat) (cs:List D):X6 k off z (.d (.agg cs))=(ldD z (.agg cs) off).map fun r=>[(.slot k,.d r)]:=rfl
theorem oM (s:Get) (k z:Nat) (x i:AB):Ae cfg AY dep s ⟨some k,none,.Ch z x i⟩=match val cfg s x,(dat cfg s i).bind D.toInt? with
 |some v,some n=>Br s (some k) z x v n
 |_,_=>none:=rfl
theorem oL (s:Get) (k:Nat) (x i:AB):Ae cfg AY dep s ⟨some k,none,.P1 x i⟩=match val cfg s x,(dat cfg s i).bind D.toInt? with
 |some (.d (.str b)),some n=>if n<0 then none else(b[n.toNat]?).map fun c=>[(.slot k,.d (AD c))]
 |_,_=>none:=rfl
theorem U_ext (s:Get) (k:Nat) (x:AB) (i:Nat):Ae cfg AY dep s ⟨some k,none,.ext x i⟩=match val cfg s x with
 |some (.d (.tup ds))=>(ds[i]?).map fun r=>[(.slot k,.d r)]
 |_=>none:=rfl
theorem oK (s:Get) (k:Nat) (x:AB):Ae cfg AY dep s ⟨some k,none,.len true x⟩=match val cfg s x with
 |some (.d (.str b))=>some [(.slot k,.d (.int .i64 b.length))]
 |_=>none:=rfl
def V.len? :V→Option Nat
 | .d .AL=>some 0
 | .d (.sl es)=>some es.length
 | .own _ _ es=>some es.length
 | .bor _ _ n=>some n
 | .vec ys=>some ys.length
 |_=>none
theorem U_len (s:Get) (k:Nat) (x:AB):Ae cfg AY dep s ⟨some k,none,.len false x⟩=((val cfg s x).bind V.len?).map fun n=>[(.slot k,.d (.int .i64 n))]:=by
 show Al cfg dep s (some k) (.len false x)=_;simp only[Al];cases val cfg s x with
 |none=>rfl
 | some v=>
  simp only[Option.bind_some];unfold V.len?;split<;>first|rfl| (rename_i h1 h2 h3 h4 h5;split<;>first|rfl|exact absurd rfl h1|exact absurd rfl (h2 _)|exact absurd rfl (h3 _ _ _)|exact absurd rfl (h4 _ _ _)|exact absurd rfl (h5 _))
theorem WT (s:Get) (k:Nat) (mx:Bool) (xs:List AB):Ae cfg AY dep s ⟨some k,none,.B2 mx xs⟩=(Ec cfg s xs).bind fun l=>(minD mx l).map fun r=>[(.slot k,.d r)]:=rfl
theorem WX (s:Get) (k z bytes:Nat) (x y:AB):Ae cfg AY dep s ⟨some k,none,.append z bytes x y⟩=match val cfg s x,(val cfg s y).bind (cont s) with
 |some v,some ys=>fh s (some k) z bytes x v ys
 |_,_=>none:=rfl
theorem oN (s:Get) (k z:Nat) (x y:AB):Ae cfg AY dep s ⟨some k,none,.copy z x y⟩=match val cfg s x,(val cfg s y).bind (cont s) with
 |some v,some ys=>nx s (some k) z x v ys
 |_,_=>none:=rfl
theorem oP (s:Get) (k:Nat) (own:Bool) (f:FuncId) (args:List AB) (hc:CH cfg (.call own f args)=none):Ae cfg AY dep s ⟨some k,none,.call own f args⟩=(BK cfg s args).bind fun vs=>IA cfg AY s (some k) own f args vs:=by
 unfold Ae;simp only[Ay,Option.isNone_some,Bool.false_and,acb,if_false,BE,if_true,hc,target];cases BK cfg s args<;>rfl
theorem qd {own:Bool} {f:FuncId} {args:List AB} (h:cfg.clip f=false):CH cfg (.call own f args)=none:=by
 unfold CH;split
 · rename_i e;cases e;rw[h];rfl
 · rfl
theorem ZY (s:Get) (k:Nat) (own:Bool) (f:FuncId) (args:List AB) (hc:cfg.clip f=false):Ae cfg AY dep s ⟨some k,none,.call own f args⟩=(BK cfg s args).bind fun vs=>IA cfg AY s (some k) own f args vs:=
 oP s k own f args (qd hc)
theorem oO (s:Get) (k:Nat) (own:Bool) (f:FuncId) (x:AB) (hc:cfg.clip f=true):Ae cfg AY dep s ⟨some k,none,.call own f [x]⟩=(val cfg s x).bind fun v=>D2 (some k) x v:=by
 unfold Ae;simp only[Ay,Option.isNone_some,Bool.false_and,acb,if_false,BE,if_true,CH,hc]
end Go.Ev
namespace Go.Ev
open Go
attribute [go_sem] go_nil go_blk go_ret go_skip go_exit goX_c goX_b go_seq go_block go_condQ goQ_t goQ_f go_demote go_give go_free Xv go_region Ur Ut Xw Uz U0 Wp Sd Se bk5 val_t val_c Sb bck VR bm0 bind_some U_g gU_b gU_u U_mv U_asg oI XZ U8 U_bin U_eqn ZU U_un ZX U_b2s oJ ZR ZT Za U_box ZZ U_lit U_mkI ZS WS WW WV U3 oM oL U_ext oK U_len WT WX oN bcu Sn Sm bbo bl5 X2 X1 X0 bl4 Xz Xy Xx bby bb1 bbr bbu bb2 bbv Uy Uw aqp aqk Ux aqo aqn bbx bb0 bbz aqm Uv aqj aqi bbq bbt bbs aqh V7 UY bln eQ blo UZ bci ba4 aly bdn Ub bbw aql bbp aqg lk st BG Option.map_some Option.map_none
section
@[go_sem] theorem can_int (k:IntKind) (n:Int):(D.int k n).can=(D.int k n):=rfl
@[go_sem] theorem can_bool (b:Bool):(D.bool b).can=(D.bool b):=rfl
@[go_sem] theorem can_str (t:List UInt8):(D.str t).can=(D.str t):=rfl
@[go_sem] theorem can_sl (es:List D):(D.sl es).can=(D.sl es):=rfl
@[go_sem] theorem can_nilP:D.Bs.can=D.Bs:=rfl
@[go_sem] theorem can_nilI:D.Be.can=D.Be:=rfl
@[go_sem] theorem can_nilF:D.CU.can=D.CU:=rfl
@[go_sem] theorem can_nilM:D.Dn.can=D.Dn:=rfl
@[go_sem] theorem can_ptr (e:D):(D.ptr e).can=(D.ptr e):=rfl
@[go_sem] theorem can_ifc (u:TypeId) (e:D):(D.ifc u e).can=(D.ifc u e):=rfl
@[go_sem] theorem can_fn (f:FuncId):(D.fn f).can=(D.fn f):=rfl
@[go_sem] theorem can_unk:D.unk.can=D.unk:=rfl
@[go_sem] theorem can_unkB:D.Cy.can=D.Cy:=rfl
@[go_sem] theorem can_nilS:D.AL.can=D.sl []:=rfl
@[go_sem] theorem canA_int (k:IntKind) (n:Int):(D.int k n).DF=(D.int k n):=rfl
@[go_sem] theorem canA_bool (b:Bool):(D.bool b).DF=(D.bool b):=rfl
@[go_sem] theorem canA_str (t:List UInt8):(D.str t).DF=(D.str t):=rfl
@[go_sem] theorem canA_sl (es:List D):(D.sl es).DF=(D.sl es):=rfl
@[go_sem] theorem canA_nilP:D.Bs.DF=D.Bs:=rfl
@[go_sem] theorem canA_nilI:D.Be.DF=D.Be:=rfl
@[go_sem] theorem canA_nilF:D.CU.DF=D.CU:=rfl
@[go_sem] theorem canA_nilM:D.Dn.DF=D.Dn:=rfl
@[go_sem] theorem canA_ptr (e:D):(D.ptr e).DF=(D.ptr e):=rfl
@[go_sem] theorem canA_ifc (u:TypeId) (e:D):(D.ifc u e).DF=(D.ifc u e):=rfl
@[go_sem] theorem canA_fn (f:FuncId):(D.fn f).DF=(D.fn f):=rfl
@[go_sem] theorem canA_unk:D.unk.DF=D.unk:=rfl
@[go_sem] theorem canA_unkB:D.Cy.DF=D.Cy:=rfl
@[go_sem] theorem canA_nilS:D.AL.DF=D.sl []:=rfl
@[go_sem] theorem canon_int (k:IntKind) (n:Int):(D.int k n).canon=(D.int k n):=rfl
@[go_sem] theorem nI (b:Bool):(D.bool b).canon=(D.bool b):=rfl
@[go_sem] theorem canon_str (t:List UInt8):(D.str t).canon=(D.str t):=rfl
@[go_sem] theorem canon_sl (es:List D):(D.sl es).canon=(D.sl es):=rfl
@[go_sem] theorem nE:D.Bs.canon=D.Bs:=rfl
@[go_sem] theorem nG:D.Be.canon=D.Be:=rfl
@[go_sem] theorem nH:D.CU.canon=D.CU:=rfl
@[go_sem] theorem nF:D.Dn.canon=D.Dn:=rfl
@[go_sem] theorem canon_ptr (e:D):(D.ptr e).canon=(D.ptr e):=rfl
@[go_sem] theorem canon_ifc (u:TypeId) (e:D):(D.ifc u e).canon=(D.ifc u e):=rfl
@[go_sem] theorem canon_fn (f:FuncId):(D.fn f).canon=(D.fn f):=rfl
@[go_sem] theorem canon_unk:D.unk.canon=D.unk:=rfl
@[go_sem] theorem nC:D.Cy.canon=D.Cy:=rfl
@[go_sem] theorem nD:D.AL.canon=D.sl []:=rfl
@[go_sem] theorem can_agg (cs:List D):(D.agg cs).can= .agg cs:=rfl
@[go_sem] theorem can_tup (cs:List D):(D.tup cs).can= .tup cs:=rfl
@[go_sem] theorem canA_agg (cs:List D):(D.agg cs).DF= .agg (cs.map D.can):=rfl
@[go_sem] theorem canon_agg (cs:List D):(D.agg cs).canon= .agg (cs.map D.can):=rfl
@[go_sem] theorem canon_tup (cs:List D):(D.tup cs).canon= .tup (cs.map D.DF):=rfl
@[go_sem] theorem cells_agg (cs:List D):(D.agg cs).cells=cs:=rfl
@[go_sem] theorem cells_int (k:IntKind) (n:Int):(D.int k n).cells=[.int k n]:=rfl
@[go_sem] theorem mV (b:Bool):(D.bool b).cells=[.bool b]:=rfl
@[go_sem] theorem cells_str (b:List UInt8):(D.str b).cells=[.str b]:=rfl
@[go_sem] theorem cells_sl (es:List D):(D.sl es).cells=[.sl es]:=rfl
@[go_sem] theorem mN:D.AL.cells=[.AL]:=rfl
@[go_sem] theorem mO:D.Bs.cells=[.Bs]:=rfl
@[go_sem] theorem mT:D.Be.cells=[.Be]:=rfl
@[go_sem] theorem mU:D.CU.cells=[.CU]:=rfl
@[go_sem] theorem mP:D.Dn.cells=[.Dn]:=rfl
@[go_sem] theorem cells_ptr (e:D):(D.ptr e).cells=[.ptr e]:=rfl
@[go_sem] theorem cells_ifc (t:TypeId) (e:D):(D.ifc t e).cells=[.ifc t e]:=rfl
@[go_sem] theorem cells_fn (f:FuncId):(D.fn f).cells=[.fn f]:=rfl
@[go_sem] theorem cells_unk:D.unk.cells=[.unk]:=rfl
end
variable {cfg:Cfg} {s:Get} {dep:Nat}
@[go_sem] theorem toInt_int (k:IntKind) (n:Int):(D.int k n).toInt? =some n:=rfl
@[go_sem] theorem len_nilS:V.len? (.d .AL)=some 0:=rfl
@[go_sem] theorem len_sl (es:List D):V.len? (.d (.sl es))=some es.length:=rfl
@[go_sem] theorem len_own (nw:Bool) (z:Nat) (es:List D):V.len? (.own nw z es)=some es.length:=rfl
@[go_sem] theorem len_vec (ys:List V):V.len? (.vec ys)=some ys.length:=rfl
@[go_sem] theorem len_bor (l:Loc) (o n:Nat):V.len? (.bor l o n)=some n:=rfl
@[go_sem] theorem home_d (y:D):V.home dep (.d y)= .d y:=rfl
@[go_sem] theorem home_own (nw:Bool) (z:Nat) (es:List D):V.home dep (.own nw z es)= .own false z es:=rfl
@[go_sem] theorem home_bor (l:Loc) (o n:Nat):V.home dep (.bor l o n)= .AM:=rfl
@[go_sem] theorem home_bref (l:Loc) (o n:Nat):V.home dep (.Am l o n)= .AM:=rfl
@[go_sem] theorem home_iptr (e:D) (o:Nat):V.home dep (.Af e o)= .Af e o:=rfl
@[go_sem] theorem home_junk:V.home dep .AM= .AM:=rfl
@[go_sem] theorem home_ref (d k o:Nat):V.home dep (.ref d k o)=if decide (d<dep+1)=true then .ref d k o else .AM:=rfl
@[go_sem] theorem home_vec (ys:List V):V.home dep (.vec ys)=if V.CA (dep+1) ys=true then .vec ys else .AM:=rfl
@[go_sem] theorem home_vref (y:V):V.home dep (.BB y)=if V.A4 (dep+1) y=true then .BB y else .AM:=rfl
@[go_sem] theorem home_clo (f:FuncId) (a b:List V):V.home dep (.clo f a b)=if V.A4 (dep+1) (.clo f a b)=true then .clo f a b else .AM:=rfl
@[go_sem] theorem home_ifc (t:TypeId) (v:V):V.home dep (.ifc t v)=if V.A4 (dep+1) v=true then .ifc t v else .AM:=rfl
@[go_sem] theorem Zk (e:List (Nat×V)):Bc dep [] e=[]:=rfl
def XR (dep k:Nat) (r:List Nat) (e:List (Nat×V)):Option V→List (Nat×V)
 |some v=>(k,v.home dep)::Bc dep r e
 |none=>Bc dep r e
@[go_sem] theorem XQ (k:Nat) (r:List Nat) (e:List (Nat×V)):Bc dep (k::r) e=XR dep k r e (lk e k):=by
 unfold XR;rw[Bc];cases lk e k<;>rfl
@[go_sem] theorem setK_some (k:Nat) (r:List Nat) (e:List (Nat×V)) (v:V):XR dep k r e (some v)=(k,v.home dep)::Bc dep r e:=rfl
@[go_sem] theorem setK_none (k:Nat) (r:List Nat) (e:List (Nat×V)):XR dep k r e none=Bc dep r e:=rfl
@[go_sem] theorem upTo_ref (n d k o:Nat):V.A4 n (.ref d k o)=decide (d<n):=rfl
@[go_sem] theorem upTo_d (n:Nat) (x:D):V.A4 n (.d x)=true:=rfl
@[go_sem] theorem upTo_iptr (n:Nat) (x:D) (o:Nat):V.A4 n (.Af x o)=true:=rfl
@[go_sem] theorem upTo_junk (n:Nat):V.A4 n .AM=true:=rfl
@[go_sem] theorem upTo_bor (n:Nat) (l:Loc) (a b:Nat):V.A4 n (.bor l a b)=false:=rfl
@[go_sem] theorem upTo_bref (n:Nat) (l:Loc) (a b:Nat):V.A4 n (.Am l a b)=false:=rfl
@[go_sem] theorem upTo_ifc (n:Nat) (t:TypeId) (v:V):V.A4 n (.ifc t v)=v.A4 n:=rfl
section
variable (dst:Option Nat) (x:AB)
@[go_sem] theorem evMv_d (y:D):Dr dst x (.d y)=some (AG dst (.d y)):=by cases x<;>rfl
@[go_sem] theorem evMv_ref (d k o:Nat):Dr dst x (.ref d k o)=some (AG dst (.ref d k o)):=by cases x<;>rfl
@[go_sem] theorem evMv_iptr (e:D) (o:Nat):Dr dst x (.Af e o)=some (AG dst (.Af e o)):=by cases x<;>rfl
@[go_sem] theorem evMv_bref (l:Loc) (i o:Nat):Dr dst x (.Am l i o)=some (AG dst (.Am l i o)):=by cases x<;>rfl
@[go_sem] theorem evMv_bor (l:Loc) (i o:Nat):Dr dst x (.bor l i o)=some (AG dst (.bor l i o)):=by cases x<;>rfl
@[go_sem] theorem evMv_ifc (t:TypeId) (v:V):Dr dst x (.ifc t v)=some (AG dst (.ifc t v)):=by cases x<;>rfl
@[go_sem] theorem evMv_vec (ys:List V):Dr dst x (.vec ys)=some (AG dst (.vec ys)):=by cases x<;>rfl
@[go_sem] theorem evMv_vref (y:V):Dr dst x (.BB y)=some (AG dst (.BB y)):=by cases x<;>rfl
@[go_sem] theorem evMv_clo (f:FuncId) (a b:List V):Dr dst x (.clo f a b)=some (AG dst (.clo f a b)):=by cases x<;>rfl
@[go_sem] theorem evMv_ownF (k z:Nat) (es:List D):Dr dst (.t k) (.own false z es)=some (AG dst (.bor (.slot k) 0 es.length)):=rfl
@[go_sem] theorem evMv_ownT (k z:Nat) (es:List D):Dr dst (.t k) (.own true z es)=some (AG dst (.own true z es)++[(.slot k,.AM)]):=rfl
@[go_sem] theorem evAsg_d (y:D):Cz s dst x (.d y)=some (AG dst (.d y)):=by cases x<;>rfl
@[go_sem] theorem evAsg_ref (d k o:Nat):Cz s dst x (.ref d k o)=some (AG dst (.ref d k o)):=by cases x<;>rfl
@[go_sem] theorem lR (e:D) (o:Nat):Cz s dst x (.Af e o)=some (AG dst (.Af e o)):=by cases x<;>rfl
@[go_sem] theorem evAsg_ifc (t:TypeId) (v:V):Cz s dst x (.ifc t v)=some (AG dst (.ifc t v)):=by cases x<;>rfl
@[go_sem] theorem evAsg_vec (ys:List V):Cz s dst x (.vec ys)=some (AG dst (.vec ys)):=by cases x<;>rfl
@[go_sem] theorem lQ (y:V):Cz s dst x (.BB y)=some (AG dst (.BB y)):=by cases x<;>rfl
@[go_sem] theorem aL (y:V):ea s dst none (.BB y)=if y.AZ then some (AG dst y) else none:=rfl
@[go_sem] theorem evAsg_clo (f:FuncId) (a b:List V):Cz s dst x (.clo f a b)=some (AG dst (.clo f a b)):=by cases x<;>rfl
@[go_sem] theorem evAsg_own (nw:Bool) (k z:Nat) (es:List D):Cz s dst (.t k) (.own nw z es)=some (AG dst (.own true z es)++[(.slot k,.AM)]):=rfl
def V3 (dst:Option Nat) (l:Loc) (off n:Nat):Option V→Option (List (Loc×V))
 |some (.own false z es)=>if off=0∧n=es.length then
  (if dst.map Loc.slot=some l then some [(l,.own true z es)] else some (AG dst (.own true z es)++[(l,.AM)])) else none
 |_=>none
@[go_sem] theorem evAsg_bor (l:Loc) (off n:Nat):Cz s dst x (.bor l off n)=V3 dst l off n (s l):=by
 cases x<;>(simp only[Cz];unfold V3;rfl)
@[go_sem] theorem V2 (l:Loc) (z:Nat) (es:List D):V3 dst l 0 es.length (some (.own false z es))=if dst.map Loc.slot=some l then some [(l,.own true z es)] else some (AG dst (.own true z es)++[(l,.AM)]):=by
 unfold V3;simp
@[go_sem] theorem aN (z:Option Nat) (e:D) (off:Nat):ea s dst z (.Af e off)=(ldD z e off).map fun x=>AG dst (.d x):=rfl
@[go_sem] theorem lD (z:Option Nat) (e:D):ea s dst z (.d (.ptr e))=(ldD z e 0).map fun x=>AG dst (.d x):=rfl
def V1 (dst:Option Nat) (z:Option Nat) (i off:Nat):Option V→Option (List (Loc×V))
 |some (.own false _ es)=>(es[i]?).bind fun e=>(ldD z e off).map fun x=>AG dst (.d x)
 |_=>none
@[go_sem] theorem aO (z:Option Nat) (l:Loc) (i off:Nat):ea s dst z (.Am l i off)=V1 dst z i off (s l):=by unfold V1;simp only[ea];rfl
@[go_sem] theorem brefQ_own (z:Option Nat) (i off z':Nat) (es:List D):V1 dst z i off (some (.own false z' es))=(es[i]?).bind fun e=>(ldD z e off).map fun x=>AG dst (.d x):=rfl
def Hh (dst:Option Nat) (d k off:Nat):Option V→Option (List (Loc×V))
 |some (.own false _ es)=>some (AG dst (.bor (.cell ⟨d,k,off⟩) 0 es.length))
 |some v=>if v.AZ then some (AG dst v) else none
 |none=>none
@[go_sem] theorem lC (d k off:Nat):ea s dst none (.ref d k off)=Hh dst d k off (s (.cell ⟨d,k,off⟩)):=by unfold Hh;simp only[ea];rfl
@[go_sem] theorem refQ_own (d k off z:Nat) (es:List D):Hh dst d k off (some (.own false z es))=some (AG dst (.bor (.cell ⟨d,k,off⟩) 0 es.length)):=rfl
@[go_sem] theorem refQ_d (d k off:Nat) (y:D):Hh dst d k off (some (.d y))=some (AG dst (.d y)):=rfl
@[go_sem] theorem refQ_ref (d k off a b c:Nat):Hh dst d k off (some (.ref a b c))=some (AG dst (.ref a b c)):=rfl
@[go_sem] theorem refQ_iptr (d k off:Nat) (e:D) (o:Nat):Hh dst d k off (some (.Af e o))=some (AG dst (.Af e o)):=rfl
@[go_sem] theorem aM (d k off n:Nat):ea s dst (some n) (.ref d k off)=(c9 s d k off n).map fun(cs,u)=>u++AG dst (.d (.agg cs)):=rfl
@[go_sem] theorem ldD_none (e:D) (off:Nat):ldD none e off=e.cells[off]? :=rfl
@[go_sem] theorem ldD_some (z:Nat) (e:D) (off:Nat):ldD (some z) e off=if off+z≤e.cells.length then some (.agg ((e.cells.drop off).take z)) else none:=rfl
end
@[go_sem] theorem dat_def (x:AB):dat cfg s x=(val cfg s x).bind V.asD:=rfl
@[go_sem] theorem asD_d (x:D):V.asD (.d x)=some x.canon:=rfl
@[go_sem] theorem asD_iptr (e:D):V.asD (.Af e 0)=some (.ptr e):=rfl
@[go_sem] theorem cont_nilS:cont s (.d .AL)=some []:=rfl
@[go_sem] theorem cont_sl (es:List D):cont s (.d (.sl es))=some es:=rfl
@[go_sem] theorem cont_own (nw:Bool) (z:Nat) (es:List D):cont s (.own nw z es)=some es:=rfl
def H9 (off n:Nat):Option V→Option (List D)
 |some (.own false _ es)=>some ((es.drop off).take n)
 |_=>none
@[go_sem] theorem cont_bor (l:Loc) (off n:Nat):cont s (.bor l off n)=H9 off n (s l):=by unfold H9;simp only[cont];rfl
@[go_sem] theorem contQ_own (off n z:Nat) (es:List D):H9 off n (some (.own false z es))=some ((es.drop off).take n):=rfl
@[go_sem] theorem argsD_nil:BJ s []=some ([],false):=rfl
@[go_sem] theorem nT (v:V) (r:List V):BJ s (v::r)=(DG s v).bind fun(x,a)=>(BJ s r).bind fun(xs,b)=>some (x::xs,a||b):=by
 rw[BJ];cases DG s v<;>cases BJ s r<;>rfl
@[go_sem] theorem argD_d (x:D):DG s (.d x)=some (x.canon,false):=rfl
@[go_sem] theorem argD_iptr (e:D):DG s (.Af e 0)=some (.ptr e,false):=rfl
@[go_sem] theorem argD_own (nw:Bool) (z:Nat) (es:List D):DG s (.own nw z es)=some (.sl es,true):=rfl
def WA (off n:Nat):Option V→Option (D×Bool)
 |some (.own false _ es)=>some (.sl ((es.drop off).take n),true)
 |_=>none
@[go_sem] theorem argD_bor (l:Loc) (off n:Nat):DG s (.bor l off n)=WA off n (s l):=by unfold WA;simp only[DG];rfl
@[go_sem] theorem argQ_own (off n z:Nat) (es:List D):WA off n (some (.own false z es))=some (.sl ((es.drop off).take n),true):=rfl
def Es (dst:Option Nat) (own shared:Bool):Ans→Option (List (Loc×V))
 | some (r,_)=>match BC dst own shared r with
  |some u=>some u
  |none=>Hx dst shared r
 |none=>none
@[go_sem] theorem bnb (AY:Orc) (dst:Option Nat) (own:Bool) (f:FuncId) (vs:List V):Bb AY s dst own f vs=(BJ s vs).bind fun(ds,shared)=>Es dst own shared (AY f 0 (ds.map .d) []):=by
 unfold Bb Es;cases BJ s vs with
 |none=>rfl
 | some p=>
  obtain⟨ds,sh⟩:=p;simp only[Option.bind_some];cases AY f 0 (ds.map .d) [] with
  |none=>rfl
  |some q=>obtain⟨r,m⟩:=q;simp only;cases BC dst own sh r<;>rfl
@[go_sem] theorem YT (dst:Option Nat) (own shared:Bool) (r:D) (m:List (Cel×V)):Es dst own shared (some (.d r,m))=BC dst own shared (.d r):=by
 simp only[Es,Hx];split<;>simp_all
@[go_sem] theorem bni (dst:Option Nat) (own shared nw:Bool) (z:Nat) (es:List D) (m:List (Cel×V)):Es dst own shared (some (.own nw z es,m))=BC dst own shared (.own nw z es):=by
 simp only[Es,Hx];split<;>simp_all
@[go_sem] theorem bnj (dst:Option Nat) (own shared:Bool) (f:FuncId) (b:List V) (m:List (Cel×V)):Es dst own shared (some (.clo f [] b,m))=if shared||(B6 b).isNone then none else some (AG dst (.clo f [] b)):=rfl
def Fs (cfg:Cfg) (AY:Orc) (s:Get) (dst:Option Nat) (own:Bool) (f:FuncId) (args:List AB) (shared:Bool) (a:Ans):Option (List (Loc×V)):=
 match Es dst own shared a with
 |some u=>some u
 |none=>if shared&&a.isSome then CK cfg AY s dst own f args else none
@[go_sem] theorem callW_def (cfg:Cfg) (AY:Orc) (dst:Option Nat) (own:Bool) (f:FuncId) (args:List AB) (vs:List V):IA cfg AY s dst own f args vs=(BJ s vs).bind fun(ds,shared)=>Fs cfg AY s dst own f args shared (AY f 0 (ds.map .d) []):=by
 unfold IA Fs;rw[bnb];unfold C1;cases BJ s vs with
 |none=>rfl
 | some p=>
  obtain⟨ds,sh⟩:=p;simp only[Option.bind_some];cases sh
  · cases Es dst own false (AY f 0 (ds.map .d) [])<;>rfl
  · dsimp only
    generalize AY f 0 (ds.map .d) []=A;cases Es dst own true A<;>cases A<;>rfl
theorem bng (cfg:Cfg) (AY:Orc) (dst:Option Nat) (own:Bool) (f:FuncId) (args:List AB):CK cfg AY s dst own f args=(BK cfg (AK s (giveUp s args)) args).bind fun vs=>(Bb AY (AK s (giveUp s args)) dst own f vs).map (giveUp s args++ ·):=rfl
attribute [go_sem] bng
@[go_sem] theorem callX_d (cfg:Cfg) (AY:Orc) (dst:Option Nat) (own shared:Bool) (f:FuncId) (args:List AB) (r:D) (m:List (Cel×V)):Fs cfg AY s dst own f args shared (some (.d r,m))=if shared&& !r.plain then CK cfg AY s dst own f args else some (AG dst (.d (if own then r else r.canon))):=by
 unfold Fs;rw[YT];simp only[BC,Option.isSome_some,Bool.and_true];cases h:(shared&& !r.plain)
 · simp
 · simp only[if_true]
   have:shared=true:=by cases shared<;>simp_all
   simp[this]
@[go_sem] theorem callX_own (cfg:Cfg) (AY:Orc) (dst:Option Nat) (own shared:Bool) (f:FuncId) (args:List AB) (nw:Bool) (z:Nat) (es:List D) (m:List (Cel×V)):Fs cfg AY s dst own f args shared (some (.own nw z es,m))=if shared&& !D.CT es then CK cfg AY s dst own f args else some (AG dst (if own then .own true z es else .d (.sl es))):=by
 unfold Fs;rw[bni];simp only[BC,Option.isSome_some,Bool.and_true];cases h:(shared&& !D.CT es)
 · simp
 · simp only[if_true]
   have:shared=true:=by cases shared<;>simp_all
   simp[this]
@[go_sem] theorem callX_clo (cfg:Cfg) (AY:Orc) (dst:Option Nat) (own shared:Bool) (f f':FuncId) (args:List AB) (b:List V) (m:List (Cel×V)):Fs cfg AY s dst own f args shared (some (.clo f' [] b,m))=if shared then CK cfg AY s dst own f args else if(B6 b).isNone then none else some (AG dst (.clo f' [] b)):=by
 unfold Fs;rw[bnj];cases shared
 · simp only[Bool.false_or,Bool.false_and,acb,if_false]
   cases B6 b<;>simp
 · simp
@[go_sem] theorem allD_nil:B6 []=some []:=rfl
@[go_sem] theorem allD_cons (x:D) (r:List V):B6 (.d x::r)=(B6 r).map (x:: ·):=rfl
@[go_sem] theorem landed_d (dst:Option Nat) (own shared:Bool) (r:D):BC dst own shared (.d r)=if shared&& !r.plain then none else some (AG dst (.d (if own then r else r.canon))):=rfl
@[go_sem] theorem eU (dst:Option Nat) (own shared nw:Bool) (z:Nat) (es:List D):BC dst own shared (.own nw z es)=if shared&& !D.CT es then none else some (AG dst (if own then .own true z es else .d (.sl es))):=rfl
attribute [go_sem] D.plain D.CT
@[go_sem] theorem finR_n (res:List Dh) (t:St):X8 dep res .normal t=(Cs dep t.get res).bind fun v=>C4 dep v t.mem:=rfl
@[go_sem] theorem finR_r (res:List Dh) (t:St):X8 dep res .ret t=(Cs dep t.get res).bind fun v=>C4 dep v t.mem:=rfl
@[go_sem] theorem finR_x (res:List Dh) (id:Nat) (t:St):X8 dep res (.exit id) t=none:=rfl
@[go_sem] theorem cN (r:Dh):Cs dep s [r]=FV dep s r:=rfl
@[go_sem] theorem cM (p q:Dh) (r:List Dh):Cs dep s (p::q::r)=(GB dep s (p::q::r)).map fun ds=> .d (.tup ds):=rfl
@[go_sem] theorem cO:Cs dep s []=some (.d (.tup [])):=rfl
@[go_sem] theorem resD_nil:GB dep s []=some []:=rfl
@[go_sem] theorem resD_cons (r:Dh) (rs:List Dh):GB dep s (r::rs)=((FV dep s r).bind CR).bind fun d=>(GB dep s rs).bind fun ds=>some (d::ds):=by
 rw[GB];cases(FV dep s r).bind CR<;>cases GB dep s rs<;>rfl
def S9:Option V→Option V
 |some (.own _ z es)=>some (.own false z es)
 |some v=>if v.AZ then some v else none
 |none=>none
@[go_sem] theorem resV_t (k:Nat):FV dep s (.t k)=S9 (s (.slot k)):=by
 simp only[FV];unfold S9;rfl
@[go_sem] theorem resQ_d (x:D):S9 (some (.d x))=some (.d x):=rfl
@[go_sem] theorem resQ_own (nw:Bool) (z:Nat) (es:List D):S9 (some (.own nw z es))=some (.own false z es):=rfl
@[go_sem] theorem resQ_iptr (e:D) (o:Nat):S9 (some (.Af e o))=some (.Af e o):=rfl
@[go_sem] theorem resCell_d (x:D):CR (.d x)=some x.canon:=rfl
@[go_sem] theorem Zq (nw:Bool) (z:Nat) (es:List D):CR (.own nw z es)=some (.sl es):=rfl
@[go_sem] theorem XT (e:D):CR (.Af e 0)=some (.ptr e):=rfl
@[go_sem] theorem eR (v:V) (m:List (Cel×V)):C4 dep v m=if v.A4 dep then some (v,Ak dep m) else none:=rfl
@[go_sem] theorem Sf (n:Nat) (nw:Bool) (z:Nat) (es:List D):V.A4 n (.own nw z es)=true:=rfl
attribute [go_sem] Ak entry
@[go_sem] theorem bin_ii (op:BinOp) (k k':IntKind) (a b:Int):D.bin op (.int k a) (.int k' b)=aw op k a k' b:=rfl
@[go_sem] theorem bin_ss (op:BinOp) (a b:List UInt8):D.bin op (.str a) (.str b)=f6 op a b:=rfl
section
variable (k:IntKind) (a b:Int)
@[go_sem] theorem ib_add:aw .add k a k b=some (.int k (k.wrap (a+b))):=by simp[aw]
@[go_sem] theorem ib_sub:aw .sub k a k b=some (.int k (k.wrap (a-b))):=by simp[aw]
@[go_sem] theorem ib_mul:aw .mul k a k b=some (.int k (k.wrap (a*b))):=by simp[aw]
@[go_sem] theorem ib_eql:aw .eql k a k b=some (.bool (a==b)):=by simp[aw]
@[go_sem] theorem ib_neq:aw .neq k a k b=some (.bool (a !=b)):=by simp[aw]
@[go_sem] theorem ib_lss:aw .lss k a k b=some (.bool (decide (a<b))):=by simp[aw]
@[go_sem] theorem ib_leq:aw .leq k a k b=some (.bool (decide (a≤b))):=by simp[aw]
@[go_sem] theorem ib_gtr:aw .gtr k a k b=some (.bool (decide (a>b))):=by simp[aw]
@[go_sem] theorem ib_geq:aw .geq k a k b=some (.bool (decide (a≥b))):=by simp[aw]
end
theorem p6 (k:IntKind) (a:Int) {b:Int} (h:b≠0):aw .quo k a k b=some (.int k (k.wrap (a.tdiv b))):=by simp[aw,h]
theorem i6 (k:IntKind) (a:Int) {b:Int} (h:b≠0):aw .rem k a k b=some (.int k (a.tmod b)):=by simp[aw,h]
def QH (k:IntKind) (a b:Int):Int:=k.wrap (BitVec.ofInt k.bits a &&& BitVec.ofInt k.bits b).toNat
def orI (k:IntKind) (a b:Int):Int:=k.wrap (BitVec.ofInt k.bits a ||| BitVec.ofInt k.bits b).toNat
def HY (k:IntKind) (a b:Int):Int:=k.wrap (BitVec.ofInt k.bits a ^^^ BitVec.ofInt k.bits b).toNat
def Ez (k:IntKind) (a b:Int):Int:=k.wrap (a*2 ^ (min b.toNat k.bits))
def FA (k:IntKind) (a b:Int):Int:=a.fdiv (2 ^ (min b.toNat k.bits))
theorem d8 (k k':IntKind) (a:Int) {b:Int} (h:0≤b):aw .shl k a k' b=some (.int k (Ez k a b)):=by simp[aw,Ez];omega
theorem ax (k k':IntKind) (a:Int) {b:Int} (h:0≤b):aw .shr k a k' b=some (.int k (FA k a b)):=by simp[aw,FA];omega
@[go_sem] theorem ib_and (k:IntKind) (a b:Int):aw .and k a k b=some (.int k (QH k a b)):=by simp[aw,QH]
@[go_sem] theorem ib_or (k:IntKind) (a b:Int):aw .or k a k b=some (.int k (orI k a b)):=by simp[aw,orI]
@[go_sem] theorem ib_xor (k:IntKind) (a b:Int):aw .xor k a k b=some (.int k (HY k a b)):=by simp[aw,HY]
@[go_sem] theorem un_not (b:Bool):D.un .not (.bool b)=some (.bool !b):=rfl
@[go_sem] theorem un_neg (k:IntKind) (n:Int):D.un .neg (.int k n)=some (.int k (k.wrap (0-n))):=rfl
section
variable (a b:List UInt8)
@[go_sem] theorem sb_eql:f6 .eql a b=some (.bool (a==b)):=rfl
@[go_sem] theorem sb_neq:f6 .neq a b=some (.bool !(a==b)):=rfl
@[go_sem] theorem sb_lss:f6 .lss a b=some (.bool (Go.Op.bytesLess a b)):=rfl
@[go_sem] theorem sb_geq:f6 .geq a b=some (.bool !(Go.Op.bytesLess a b)):=rfl
end
theorem bd {n:Int} (h1: -9223372036854775808≤n) (h2:n<9223372036854775808):IntKind.i64.wrap n=n:=by
 simp[IntKind.wrap,IntKind.signed,IntKind.bits,BitVec.toInt_ofInt,Int.bmod_def];omega
theorem dr {n:Int} (h1:0≤n) (h2:n<18446744073709551616):IntKind.u64.wrap n=n:=by
 simp[IntKind.wrap,IntKind.signed,IntKind.bits];omega
theorem bdb (k:IntKind) (a:Int) (n:Nat) (h:n≤k.bits):FA k a n=a / 2 ^ n:=by
 unfold FA;rw[adv,Nat.min_eq_left h,Int.fdiv_eq_ediv_of_nonneg _ (Int.le_of_lt (Int.pow_pos abx))]
theorem zp (dst:Option Nat) (z:Nat) (x:AB) (es:List D) {n:Int} (h:0≤n):Br s dst z x (.d (.sl es)) n=(es[n.toNat]?).bind fun e=>if e.cells.length=z then some (AG dst (.Af e 0)) else none:=by
 unfold Br;rw[if_neg abu]
@[go_sem] theorem bml (dst:Option Nat) (z:Nat) (x:AB) (es:List D) (i:Nat):Br s dst z x (.d (.sl es)) (i:Int)=(es[i]?).bind fun e=>if e.cells.length=z then some (AG dst (.Af e 0)) else none:=by
 rw[zp _ _ _ _ abu];simp
attribute [go_sem] acf List.map_cons List.map_nil List.length_cons List.length_nil aby List.getElem?_cons_zero List.getElem?_cons_succ
end Go.Ev
namespace Go.Ev
open Go Go.RowKit
abbrev CE:Nat→Prop:=fun _=>True
def Rds (w:World) (cs:List Value) (xs:List D):Prop:=
 cs.length=xs.length∧(∀ c∈xs,c.AP=true)∧∀ (i:Nat) v c,cs[i]? =some v→xs[i]? =some c→Rd CE w v c
def IsF (P:Program) (w:World) (n:Nat) (t:TypeId) (G:List D→Prop):Prop:=
 ∀ (H:Type) (enc:TypeId×Value→H) (base:Nat) (spare:Nat→Bool) (held:Bool) (cs:List Value) (x:DataW H×List MemPlace),DataW.trod enc P w base spare held n t cs=some x→∃ xs,Rds w cs xs∧G xs
variable {P:Program} {w:World} {n:Nat} {t:TypeId}
theorem Rds.one {v:Value} {d:D} (h:Rd CE w v d) (hc:d.AP=true):Rds w [v] [d]:=
 ⟨rfl,by simpa using hc,fun i v' c h1 h2=>by
  cases i with
  |zero=>simp at h1 h2;subst h1;subst h2;exact h
  |succ i=>simp at h1⟩
theorem IsF.bool (ht:P.underlying t=some .bool):IsF P w n t fun xs=>∃ b,xs=[.bool b]:=by
 intro H enc base spare held cs x h;obtain⟨b,rfl,_⟩:=DataW.trod_bool ht h;exact⟨_,Rds.one (.bool b) rfl,b,rfl⟩
theorem IsF.int {k:IntKind} (ht:P.underlying t=some (.int k)):IsF P w n t fun xs=>∃ m,xs=[.int k m]∧(Lit.int k m).wf=true:=by
 intro H enc base spare held cs x h;obtain⟨m,rfl,_,hw⟩:=DataW.trod_int ht h;exact⟨_,Rds.one (.int k m) rfl,m,rfl,hw⟩
theorem IsF.str (ht:P.underlying t=some .string):IsF P w n t fun xs=>∃ s:List UInt8,xs=[.str s]∧s.length≤maxLen:=by
 intro H enc base spare held cs x h;obtain⟨s,rfl,_,hw⟩:=DataW.trod_string ht h;have e:(⟨s.data.toList.toArray⟩:ByteArray)=s:=by cases s;rfl
 have hl:s.data.toList.length=s.size:=by rw[ByteArray.size,Array.length_toList]
 refine⟨[.str s.data.toList],Rds.one ?_ rfl,_,rfl,by rw[hl];exact hw⟩
 have:=Rd.str (F:=CE) (w:=w) s.data.toList
 rwa [e] at this
theorem blj {α β:Type} {f:α→Option β}:∀ {l:List α} {r:List β},l.mapM f=some r→l.length=r.length∧∀ (i:Nat) x y,l[i]? =some x→r[i]? =some y→f x=some y
 | [],r,h=>by cases h;simp
 | a::l,r,h=>by
  rw[List.mapM_cons] at h;cases hf:f a with
  |none=>rw[hf] at h;cases h
  | some b=>
   cases hl:l.mapM f with
   |none=>rw[hf,hl] at h;cases h
   | some bs=>
    rw[hf,hl] at h;cases h;obtain⟨g1,g2⟩:=blj hl;refine⟨by simp[g1],fun i x y h1 h2=> ?_⟩
    cases i with
    |zero=>simp at h1 h2;subst h1;subst h2;exact hf
    |succ i=>exact g2 i x y (by simpa using h1) (by simpa using h2)
theorem Vc {base:Nat} {a:Addr} {m:Nat} {cs:List Value} (h:w.cells? base a m=some cs):cs.length=m∧∀ (j:Nat) v,cs[j]? =some v→w.cell? (a.add j)=some v:=by
 unfold World.cells? at h;split at h
 · obtain⟨g1,g2⟩:=blj h
   refine⟨by simpa using g1.symm,fun j v hj=> ?_⟩
   have hlt:j<(List.range m).length:=by rw[g1];exact(ab1.1 hj).1
   exact g2 j j v (by rw[ab0 hlt];simp) hj
 · cases h
theorem IsF.slice {e:TypeId} {G:List D→Prop} (ht:P.underlying t=some (.slice e)) (hz:P.cellsOf e≠0) (he:∀ m,m<n→IsF P w m e G) (mk:List D→D) (hmk:∀ xs,G xs→xs.length=P.cellsOf e→(mk xs).cells=xs):
   IsF P w n t fun xs=>∃ es:List D,xs=[.sl es]∧es.length≤maxLen∧∀ d∈es,∃ ys,G ys∧ys.length=P.cellsOf e∧d=mk ys:=by
 intro H enc base spare held cs x h;rcases DataW.trod_slice ht h with⟨rfl,_⟩|⟨a,len,cap,elems,rest,m,rfl,rfl,_,_,hl,hm,hlen,hel,_,_⟩
 · exact⟨_,Rds.one (.slA _ _) rfl,[],rfl,by simp,by simp⟩
 · have key:∀ i,i<len→∃ cs',∃ xs:List D,(cs'.length=P.cellsOf e∧∀ (j:Nat) v,cs'[j]? =some v→w.cell? ((a.add (i*P.cellsOf e)).add j)=some v)∧Rds w cs' xs∧G xs:=fun i hi=>by
     have h1:=hel i hi;rw[ab0 abu,ab7] at h1;obtain⟨cs',h2,h3⟩:=h1;obtain⟨xs,h4,h5⟩:=he m (Nat.lt_succ_self m) H enc base spare held cs' _ h3;exact⟨cs',xs,Vc h2,h4,h5⟩
   by_cases h0:len=0
   · subst h0
     exact⟨_,Rds.one (.slA _ cap) rfl,[],rfl,by simp,by simp⟩
   · obtain⟨b,o,rfl⟩:∃ b o,a=ad3 b o:=by
       obtain⟨cs',xs,⟨h1,h2⟩,h3,h4⟩:=key 0 abu;have hlt:0<cs'.length:=abu;have:=h2 0 _ (ab0 hlt);rw[Nat.zero_mul] at this;have:=World.cell?_spot this;obtain⟨b,o,sp⟩:=a;cases sp with
       |none=>exact⟨b,o,rfl⟩
       |some s=>simp[Addr.add] at this
     have hch:∀ i,∃ xs:List D,i<len→G xs∧xs.length=P.cellsOf e∧(∀ c∈xs,c.AP=true)∧∀ (j:Nat) c,xs[j]? =some c→∃ v,w.cell? (ad3 b (o+i*P.cellsOf e+j))=some v∧Rd CE w v c:=fun i=>by
       by_cases hi:i<len
       · obtain⟨cs',xs,⟨h1,h2⟩,⟨h3,h4,h5⟩,h6⟩:=key i hi
         refine⟨xs,fun _=>⟨h6,by omega,h4,fun j c hj=> ?_⟩⟩
         have hlt:j<cs'.length:=by rw[h3];exact(ab1.1 hj).1
         refine⟨cs'[j],?_,h5 j _ c (ab0 hlt) hj⟩;have:=h2 j _ (ab0 hlt);rw[ct,ct] at this;exact this
       · exact⟨[],fun h=>absurd h hi⟩
     let es:List D:=(List.range len).map fun i=>mk (hch i).choose
     have hes:∀ (i:Nat) d,es[i]? =some d→i<len∧d=mk (hch i).choose:=fun i d hd=>by
       simp only[es,acf,abz] at hd;obtain⟨j,h1,h2⟩:=hd;have hlt:=(ab1.1 h1).1;rw[ab0 hlt] at h1;simp at h1 hlt;subst h1;exact⟨hlt,h2.symm⟩
     have Ag:∀ i,i<len→(mk (hch i).choose).cells=(hch i).choose:=fun i hi=>hmk _ ((hch i).choose_spec hi).1 ((hch i).choose_spec hi).2.1
     refine⟨[.sl es],Rds.one ?_ rfl,es,rfl,by simp[es];omega,fun d hd=> ?_⟩
     · have:=Rd.Hf (F:=CE) (w:=w) (b:=b) (o:=o) (cap:=cap) (z:=P.cellsOf e) (es:=es) (by simp[es];omega) (fun d hd=> ?_) (fun i d hi=> ?_)
       · simpa[es] using this
       · obtain⟨i,hi⟩:=acx hd
         obtain⟨h1,rfl⟩:=hes i d hi;rw[Ag i h1];exact((hch i).choose_spec h1).2.1
       · obtain⟨h1,rfl⟩:=hes i d hi
         have hs:=(hch i).choose_spec h1;refine⟨by rw[Ag i h1];exact hs.2.2.1,fun j c hj=> ?_⟩
         rw[Ag i h1] at hj;obtain⟨v,q1,q2⟩:=hs.2.2.2 j c hj;exact⟨v,trivial,q1,q2⟩
     · obtain⟨i,hi⟩:=acx hd
       obtain⟨h1,rfl⟩:=hes i d hi;exact⟨_,((hch i).choose_spec h1).1,((hch i).choose_spec h1).2.1,rfl⟩
end Go.Ev
namespace Go.Ev
open Go Go.RowKit
variable {P:Program} {cfg:Cfg}
def Cx.none:Cx:=⟨fun _=>Option.none,fun _ _=>0,0⟩
theorem aq2 {ds:List D} {args:Array Value} {w:World} (hsz:args.size=ds.length) (B7:∀ (i:Nat) v d,args[i]? =some v→ds[i]? =some d→Rd CE w v d)
   (hg:∀ n e,cfg.H3 n=some e→C9 CE w n 0 e) (hgo:∀ n ob,cfg.CV n=some ob→Cf w n ob):Enters cfg Cx.none (ds.map .d) [] args w:=by
 have hF:AE Cx.none=CE:=by funext b;simp[AE,Cx.none]
 refine⟨⟨rfl,.nil rfl,fun b h=>absurd rfl h,fun l v h=> ?_,fun k v h=>(by cases h),fun c v h=>(by cases h),fun n e h=>by rw[hF];exact hg n e h,fun b h=> ?_,fun n ob h=>⟨rfl,hgo n ob h⟩⟩,by simpa using hsz,fun i v y h1 h2=> ?_⟩
 · cases l<;>cases h
 · rcases h with h|⟨_,h⟩<;>cases h
 · rw[acf] at h2
   cases hd:ds[i]? with
   |none=>rw[hd] at h2;cases h2
   |some d=>rw[hd] at h2;cases h2;exact RdV.d _ _ _ (by rw[hF];exact B7 i v d h1 hd)
theorem qf (hm:P.follows .mixedOrders=true) (hC:CM P cfg) (hF:ud P cfg) (hX:FU P cfg) {f:FuncId} {F:Func} {c:Code} (hf:P.funcs[f]? =some F) (hname:(F.name=="runtime.NumGoroutine")=false) (hb:F.body=some c)
   {ds:List D} {y:D} (h:evL cfg f 0 (ds.map .d) []=some (.d y,[])) {args:Array Value} {w:World} (hsz:args.size=ds.length) (B7:∀ (i:Nat) v d,args[i]? =some v→ds[i]? =some d→Rd CE w v d)
   (hg:∀ n e,cfg.H3 n=some e→C9 CE w n 0 e) (hgo:∀ n ob,cfg.CV n=some ob→Cf w n ob):Calls P f args w fun e w'=>∃ v,e= .returned v∧Rd CE w' v y∧Below w.heap.size w w':=by
 have hd:=lE hm hC hF hX f 0 _ [] _ _ h Cx.none w args (aq2 hsz B7 hg hgo);rcases hd with⟨v,w',h1,_⟩|⟨_,h2⟩
 · rw[BW hf hname hb] at h1
   cases h1
 · refine h2.mono fun e w' he=> ?_
   cases e with
   | returned v=>
    obtain⟨x',L⟩:=he;have hr:Rd (AE x') w' v y:=RdV.An L.res;exact⟨v,rfl,hr.mono fun b o u _ h=>⟨trivial,h⟩,L.fr.io.1,L.fr.io.2.1,L.fr.io.2.2,L.fr.size,fun k hk=>(L.fr.same k hk (.inl rfl)).1⟩
   |panicked c=>exact he.elim
   |outgrown=>exact he.elim
theorem bcb (hm:P.follows .mixedOrders=true) (hC:CM P cfg) (hF:ud P cfg) (hX:FU P cfg) {f:FuncId} {F:Func} {c:Code} (hf:P.funcs[f]? =some F) (hname:(F.name=="runtime.NumGoroutine")=false) (hb:F.body=some c)
  {ds:List D} (h:evL cfg f 0 (ds.map .d) []=some (.d (.bool true),[])) {args:Array Value} {w:World} (hsz:args.size=ds.length) (B7:∀ (i:Nat) v d,args[i]? =some v→ds[i]? =some d→Rd CE w v d)
  (hg:∀ n e,cfg.H3 n=some e→C9 CE w n 0 e) (hgo:∀ n ob,cfg.CV n=some ob→Cf w n ob):Calls P f args w fun e w'=>e= .returned (.bool true)∧Below w.heap.size w w':=
 (qf hm hC hF hX hf hname hb h hsz B7 hg hgo).mono fun e w' ⟨v,h1,h2,h3⟩=>⟨by rw[h1,h2.Cc],h3⟩
theorem ak {n:Nat} {f:FuncId} {d:Nat} {vs:List V} {m:List (Cel×V)} {r} (h:BU cfg n f d vs m=some r):evL cfg f d vs m=some r:=gh.2 ⟨n,h⟩
def Entry (P:Program) (p:FuncId×AN):Prop:=∃ F ad c,P.funcs[p.1]? =some F∧(F.name=="runtime.NumGoroutine")=false∧F.body=some c∧AQ P ad F=some p.2
def Entries (P:Program) (l:List (FuncId×AN)):Prop:=∀ p∈l,Entry P p
theorem Entries.nil:Entries P []:=fun _ h=>by cases h
theorem Entries.cons {p:FuncId×AN} {l:List (FuncId×AN)} (h:Entry P p) (hl:Entries P l):Entries P (p::l):=fun q hq=>by
 rcases ach.1 hq with rfl|hq
 · exact h
 · exact hl q hq
theorem Entry.mk' {F:Func} {f:FuncId} {fn:AN} {ad:AJ} {c:Code} (hf:P.funcs[f]? =some F) (hb:F.body=some c) (hn:(F.name=="runtime.NumGoroutine")=false) (hk:AQ P ad F=some fn):Entry P (f,fn):=⟨F,ad,c,hf,hn,hb,hk⟩
theorem bcd {F:Func} {fn:AN} {ad:AJ} (hk:AQ P ad F=some fn):∃ c,F.body=some c:=by
 unfold AQ at hk;split at hk
 · exact⟨_,‹_›⟩
 · cases hk
theorem Entry.of {F:Func} {f:FuncId} {fn:AN} {ad:AJ} (hf:P.funcs[f]? =some F) (hn:(F.name=="runtime.NumGoroutine")=false) (hk:AQ P ad F=some fn):Entry P (f,fn):=by
 obtain⟨c,hb⟩:=bcd hk;exact .mk' hf hb hn hk
end Go.Ev
namespace Go.Ev
open Go
def H7:Nat→Nat→List UInt8
 |0,_=>[]
 |n+1,u=>if u<10 then[UInt8.ofNat (48+u)] else H7 n (u / 10)++[UInt8.ofNat (48+u % 10)]
def Zz (n:Int):List UInt8:=if n<0 then 45::H7 20 n.natAbs else H7 20 n.toNat
def xItoa:List D→Option V
 | [.int .i64 n]=>if -9223372036854775808≤n∧n≤9223372036854775807 then some (.d (.str (Zz n))) else none
 |_=>none
def DR (P:Program) (cfg:Cfg) (f:FuncId) (g:List D→Option V):Prop:=
 ∀ ds r,g ds=some r→∀ (F:Nat→Prop) (args:Array Value) (w:World),args.size=ds.length→(∀ (i:Nat) v d,args[i]? =some v→ds[i]? =some d→Rd F w v d)→(∀ n e,cfg.H3 n=some e→C9 F w n 0 e)→(∀ n ob,cfg.CV n=some ob→Cf w n ob)→
  Fk P f args w fun v w'=>w.heap.size≤w'.heap.size∧(∀ b,b<w.heap.size→w'.heap[b]? =w.heap[b]?)∧Bh w w'∧
   match r with
   | .own _ z es=>∃ b o cap,v= .slice (some (ad3 b o)) es.length cap∧w.heap.size≤b∧b<w'.heap.size∧es.length≤cap∧DQ w' b∧Arr (fun b'=>(F b'∧b'<w.heap.size)∨(w.heap.size≤b'∧b'≠b)) w' b o cap z es
   | .d y=>Rd (fun b'=>F b'∨w.heap.size≤b') w' v y
   | .clo g [] ys=>∃ (vb:List Value) (es:List D),ys=es.map .d∧v= .func (.func g) #[] vb.toArray∧vb.length=es.length∧∀ (i:Nat) u e,vb[i]? =some u→es[i]? =some e→Rd (fun b'=>F b'∨w.heap.size≤b') w' u e
   |_=>False
theorem U6 {P:Program} {cfg:Cfg} (h:∀ f g,cfg.ext f=some g→DR P cfg f g):FU P cfg:=fun f g hf ds r hr F args w h1 h2 h3 h4=>h f g hf ds r hr F args w h1 h2 h3 h4
open Go.RowKit in
theorem uo {P:Program} {cfg:Cfg} {f:FuncId} {fn:Func} {c:Code} (hf:P.funcs[f]? =some fn) (hname:(fn.name=="runtime.NumGoroutine")=false) (hb:fn.body=some c) {g:List D→Option V}
  (h:∀ ds r,g ds=some r→∃ y,r= .d y∧y.plain=true∧∀ (F:Nat→Prop) (args:Array Value) (w:World),args.size=ds.length→(∀ (i:Nat) v d,args[i]? =some v→ds[i]? =some d→Rd F w v d)→(∀ n ob,cfg.CV n=some ob→Cf w n ob)→
   Calls P f args w fun e w'=>∃ v,e= .returned v∧Rd F w' v y∧Below w.heap.size w w'):DR P cfg f g:=by
 intro ds r hr F args w h1 h2 _ h4;obtain⟨y,rfl,hy,hc⟩:=h ds r hr;refine .inr ⟨BW hf hname hb args w,(hc F args w h1 h2 h4).mono fun e w' ⟨v,e1,e2,e3⟩=> ?_⟩
 subst e1;exact⟨e3.size,fun b hb=>e3.block b hb,⟨e3.os,e3.tape,e3.output⟩,e2.plain hy⟩
theorem qt {F:Nat→Prop} {w:World} {args:Array Value} {d:D} (h1:args.size=[d].length) (h2:∀ (i:Nat) v d',args[i]? =some v→[d][i]? =some d'→Rd F w v d'):∃ v,args= #[v]∧Rd F w v d:=by
 obtain⟨l⟩:=args
 match l,h1 with
 | [v],_=>exact⟨v,rfl,h2 0 v d rfl rfl⟩
theorem FN {F:Nat→Prop} {w:World} {args:Array Value} {d e:D} (h1:args.size=[d,e].length) (h2:∀ (i:Nat) v d',args[i]? =some v→[d,e][i]? =some d'→Rd F w v d'):∃ v u,args= #[v,u]∧Rd F w v d∧Rd F w u e:=by
 obtain⟨l⟩:=args
 match l,h1 with
 | [v,u],_=>exact⟨v,u,rfl,h2 0 v d rfl rfl,h2 1 u e rfl rfl⟩
end Go.Ev
namespace Go.Ev
open Go
variable (cfg:Cfg)
@[go_sem] theorem eqn_dd (c:QO) (a b:D):V.eqn cfg c (.d a) (.d b)=a.eqn cfg c b:=by cases c<;>rfl
@[go_sem] theorem eqn_bool (a b:Bool):D.eqn cfg .bool (.bool a) (.bool b)=some (a==b):=rfl
@[go_sem] theorem eqn_refn (d k o:Nat):V.eqn cfg .ptr (.ref d k o) (.d .Bs)=some false:=rfl
@[go_sem] theorem eqn_iptrn (e:D) (o:Nat):V.eqn cfg .ptr (.Af e o) (.d .Bs)=some false:=rfl
@[go_sem] theorem eqn_brefn (l:Loc) (i o:Nat):V.eqn cfg .ptr (.Am l i o) (.d .Bs)=some false:=rfl
@[go_sem] theorem eqn_clon (f:FuncId) (a b:List V):V.eqn cfg .func (.clo f a b) (.d .CU)=some false:=rfl
@[go_sem] theorem eqn_ifcn (t:TypeId) (v:V):V.eqn cfg .iface (.ifc t v) (.d .Be)=some false:=rfl
@[go_sem] theorem deqn_pp:D.eqn cfg .ptr .Bs .Bs=some true:=rfl
@[go_sem] theorem deqn_pn (e:D):D.eqn cfg .ptr (.ptr e) .Bs=some false:=rfl
@[go_sem] theorem deqn_np (e:D):D.eqn cfg .ptr .Bs (.ptr e)=some false:=rfl
@[go_sem] theorem deqn_ff:D.eqn cfg .func .CU .CU=some true:=rfl
@[go_sem] theorem deqn_ln (x:D):D.eqn cfg .FH .Be x=some true:=rfl
@[go_sem] theorem deqn_li (t:TypeId) (y x:D):D.eqn cfg .FH (.ifc t y) x=some false:=rfl
@[go_sem] theorem deqn_in (t:TypeId) (x:D):D.eqn cfg .iface (.ifc t x) .Be=some false:=rfl
@[go_sem] theorem deqn_ni (t:TypeId) (x:D):D.eqn cfg .iface .Be (.ifc t x)=some false:=rfl
end Go.Ev
namespace Go.Ev
open Go
variable (cfg:Cfg) (s:Get)
@[go_sem] theorem minD_max (k k':IntKind) (a b:Int):minD true [.int k a,.int k' b]=some (.int k (max a b)):=by
 show some (D.int k (if b>a then b else a))=_
 congr 2
 split<;>omega
@[go_sem] theorem minD_min (k k':IntKind) (a b:Int):minD false [.int k a,.int k' b]=some (.int k (min a b)):=by
 show some (D.int k (if b<a then b else a))=_
 congr 2
 split<;>omega
@[go_sem] theorem eK:f7 cfg s []=some []:=rfl
@[go_sem] theorem Zu (i:Nat) (x:AB) (r:List (Nat×AB)):f7 cfg s ((i,x)::r)=(dat cfg s x).bind fun d=>(f7 cfg s r).map fun ds=>(i,d)::ds:=by
 rw[f7];cases dat cfg s x<;>cases f7 cfg s r<;>rfl
@[go_sem] theorem eJ:de cfg s []=some []:=rfl
@[go_sem] theorem Zt (o n:Nat) (x:AB) (r:List (Nat×Nat×AB)):de cfg s ((o,n,x)::r)=(dat cfg s x).bind fun d=>(de cfg s r).map fun ds=>(o,n,d)::ds:=by
 rw[de];cases dat cfg s x<;>cases de cfg s r<;>rfl
@[go_sem] theorem fillE_nil (z:Nat) (es:List D):Eo z es []=some es:=rfl
@[go_sem] theorem kV (z i:Nat) (es:List D) (x:D) (r:List (Nat×D)):Eo z es ((i,x)::r)=if x.cells.length=z∧i<es.length∧x.storable=true then Eo z (es.set i x) r else none:=rfl
@[go_sem] theorem fillD_nil (cs:List D):EJ cs []=some cs:=rfl
@[go_sem] theorem kW (off size:Nat) (cs:List D) (x:D) (r:List (Nat×Nat×D)):EJ cs ((off,size,x)::r)=if x.cells.length=size∧off+size≤cs.length∧x.storable=true then EJ (setCells cs off x.cells) r else none:=rfl
@[go_sem] theorem aa5 (k:IntKind) (n:Int):(D.int k n).storable=true:=rfl
@[go_sem] theorem xg (b:Bool):(D.bool b).storable=true:=rfl
@[go_sem] theorem aa4 (b:List UInt8):(D.str b).storable=true:=rfl
attribute [go_sem] List.length_replicate List.replicate_succ List.replicate_zero List.set_cons_zero List.set_cons_succ List.length_nil
@[go_sem] theorem bA:b7 []=some []:=rfl
@[go_sem] theorem ald (n:Int) (r:List D):b7 (.int .u8 n::r)=(b7 r).map fun b=>UInt8.ofNat n.toNat::b:=by
 rw[b7];cases b7 r<;>rfl
def sbH (len:Nat):Option Int→Option (Nat×Nat)
 |some n=>if 0≤n∧n≤len then some (0,n.toNat) else none
 |none=>none
def sbL (len:Nat):Option Int→Option (Nat×Nat)
 |some n=>if 0≤n∧n≤len then some (n.toNat,len) else none
 |none=>none
def sbB (len:Nat):Option Int→Option Int→Option (Nat×Nat)
 |some m,some n=>if 0≤n∧n≤len∧0≤m∧m≤n then some (m.toNat,n.toNat) else none
 |_,_=>none
@[go_sem] theorem sb_none (len:Nat):bf cfg s len none none=some (0,len):=rfl
@[go_sem] theorem sb_hi (len:Nat) (x:AB):bf cfg s len none (some x)=sbH len ((dat cfg s x).bind D.toInt?):=by
 unfold bf sbH;simp only;cases(dat cfg s x).bind D.toInt? with
 |none=>rfl
 |some n=>simp only;by_cases h:0≤n∧n≤(len:Int)<;>simp[h]
@[go_sem] theorem sb_lo (len:Nat) (x:AB):bf cfg s len (some x) none=sbL len ((dat cfg s x).bind D.toInt?):=by
 unfold bf sbL;simp only;cases(dat cfg s x).bind D.toInt? <;>rfl
@[go_sem] theorem sb_both (len:Nat) (x y:AB):bf cfg s len (some x) (some y)=sbB len ((dat cfg s x).bind D.toInt?) ((dat cfg s y).bind D.toInt?):=by
 unfold bf sbB;simp only;cases(dat cfg s y).bind D.toInt? with
 |none=>cases(dat cfg s x).bind D.toInt? <;>rfl
 | some n=>
  simp only;cases(dat cfg s x).bind D.toInt? with
  |none=>by_cases h:0≤n∧n≤(len:Int)<;>simp[h]
  | some m=>
   simp only;by_cases h:0≤n∧n≤(len:Int)
   · by_cases k:0≤m∧m≤n
     · have e:max n 0=n:=abu
       simp[h,k,e]
     · have e:max n 0=n:=abu
       simp[h,e]
   · simp only[if_neg h]
     rw[if_neg (fun c=>h ⟨c.1,c.2.1⟩)]
@[go_sem] theorem sbH_ok {len:Nat} {n:Int} (h0:0≤n) (h1:n≤len):sbH len (some n)=some (0,n.toNat):=if_pos ⟨h0,h1⟩
@[go_sem] theorem sbL_ok {len:Nat} {n:Int} (h0:0≤n) (h1:n≤len):sbL len (some n)=some (n.toNat,len):=if_pos ⟨h0,h1⟩
@[go_sem] theorem sbB_ok {len:Nat} {m n:Int} (h0:0≤n) (h1:n≤len) (h2:0≤m) (h3:m≤n):sbB len (some m) (some n)=some (m.toNat,n.toNat):=if_pos ⟨h0,h1,h2,h3⟩
@[go_sem] theorem sB_add {a b:List UInt8} (h:a.length+b.length≤1000000):f6 .add a b=some (.str (a++b)):=if_pos (ac7 h abx)
@[go_sem] theorem sB_eql (a b:List UInt8):f6 .eql a b=some (.bool (a==b)):=rfl
@[go_sem] theorem sB_neq (a b:List UInt8):f6 .neq a b=some (.bool !(a==b)):=rfl
@[go_sem] theorem sB_lss (a b:List UInt8):f6 .lss a b=some (.bool (Go.Op.bytesLess a b)):=rfl
@[go_sem] theorem sB_leq (a b:List UInt8):f6 .leq a b=some (.bool (Go.Op.bytesLess a b||a==b)):=rfl
@[go_sem] theorem sB_gtr (a b:List UInt8):f6 .gtr a b=some (.bool !(Go.Op.bytesLess a b||a==b)):=rfl
@[go_sem] theorem sB_geq (a b:List UInt8):f6 .geq a b=some (.bool !(Go.Op.bytesLess a b)):=rfl
theorem bcg {n:Int} (h1:0≤n) (h2:n<256):IntKind.u8.wrap n=n:=by
 simp[IntKind.wrap,IntKind.signed,IntKind.bits];omega
end Go.Ev
namespace Go.Ev
open Go
open Go.RowKit
variable {P:Program} {cfg:Cfg} {f:FuncId} {fn:Func} {c:Code} (hf:P.funcs[f]? =some fn) (hname:(fn.name=="runtime.NumGoroutine")=false) (hb:fn.body=some c)
include hf hname hb
omit hb in
theorem bq {c:Code} (hb:fn.body=some c) (h:∀ ad len cap w,len≤cap→Calls P f #[.slice ad len cap] w fun e w'=>e= .returned (.slice ad len len)∧w'=w):
  ∀ ad len cap w,len≤cap→Fk P f #[.slice ad len cap] w fun v w'=>v= .slice ad len len∧w'=w:=fun ad len cap w hl=>by
 refine .inr ⟨BW hf hname hb _ w,(h ad len cap w hl).mono fun e w' ⟨e1,e2⟩=> ?_⟩
 subst e1;exact⟨rfl,e2⟩
