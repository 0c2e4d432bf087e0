import Derived.Test.YtmeohcmbohicoaaGreatDoorFtQ
import Derived.Test.YtmeohcmbohicoaaGreatDoorOtE
namespace Go.Proofs.YtmeohcmbohicoaaGreatDoor
open Go Go.Ev
set_option maxHeartbeats 4000000
abbrev Cr:=Nat×Nat×Nat×List UInt8
def addC (p:Parts) (c:Cr):Parts:=
 if c.2.1≠2 then p else
 if c.1=7 then {p with e:=p.e++[(a5 c.2.2.2).1],st:=p.st++[c.2.2.2]} else
 if c.1=3 then {p with a:=p.a++[(a5 c.2.2.2).1]} else
 if c.1=4 then {p with b:=p.b++[(a5 c.2.2.2).1]} else
 if c.1=5 then {p with c:=p.c++[(a5 c.2.2.2).1]} else p
theorem u9:∀ (fs:List Fld) (p:Parts),splM fs p=(fs.map Fld.core).foldl addC p
 | [],_=>rfl
 |f::r,p=>by rw[splM,List.map_cons,List.foldl_cons,u9 r];rfl
def wantC (c:Cr):Prop:=c.2.1=2→(c.1=7∨c.1=3∨c.1=4∨c.1=5)→(a5 c.2.2.2).2=0
theorem aw6 {fs:List Fld} (h:∀ c∈fs.map Fld.core,wantC c):∀ f∈fs,wantF f:=fun f hf=>h f.core (xr.2 ⟨f,hf,rfl⟩)
theorem oc (cs:List Cr) (c:Cr) (k:Nat):uC (cs++[c]) k=if c.1=k∧c.2.1=0 then c.2.2.1 else uC cs k:=by
 unfold uC;rw[List.reverse_append,List.reverse_cons,List.reverse_nil,List.nil_append,List.singleton_append,List.find?_cons];by_cases h:c.1=k∧c.2.1=0
 · rw[if_pos h,show(c.1==k&&c.2.1==0)=true by simp[h]]
 · rw[if_neg h,show(c.1==k&&c.2.1==0)=false by
  rw[xf];simp only[wq,ne_eq];rcases Decidable.not_and_iff_not_or_not.1 h with h|h
  · exact .inl h
  · exact .inr h]
theorem a6 (cs ds:List Cr) (k:Nat) (h:∀ c∈ds,¬ (c.1=k∧c.2.1=0)):uC (cs++ds) k=uC cs k:=by
 induction ds generalizing cs with
 |nil=>rw[List.append_nil]
 | cons d r ih=>
  rw[show cs++d::r=(cs++[d])++r by simp,ih _ (fun c hc=>h c (by simp[hc])),oc,if_neg (h d vq)]
def numP (j v:Nat):List Put:=if v=0 then[] else[.u j v]
def kidP (ks:List Nat):List Put:=if kidB ks=[] then[] else[.b 2 (kidB ks)]
def ndP (n:Nd):List Put:=[.u 1 n.kind]++kidP n.kids++n.names.map (Put.b 3)++numP 4 n.len++numP 5 n.prec++numP 6 n.scale
theorem putB_one (x:Put):putB [x]=x.bytes:=by simp[putB]
theorem putB_nil:putB []=[]:=rfl
theorem numP_put (j v:Nat):putB (numP j v)=numB j v:=by unfold numP numB;split<;>simp[putB,Put.bytes]
theorem kidP_put (ks:List Nat):putB (kidP ks)=kidF ks:=by unfold kidP kidF;split<;>simp[putB,Put.bytes]
theorem auj:∀ ns:List (List UInt8),putB (ns.map (Put.b 3))=namB ns
 | []=>rfl
 |x::r=>by rw[List.map_cons,iu,auj r];rfl
theorem a6v (n:Nd):putB (ndP n)=ndB n:=by
 unfold ndP ndB;simp only[eu,numP_put,kidP_put,auj,putB_one];rfl
theorem a7y (j v:Nat):(Put.u j v).core=(j,0,v,[]):=rfl
theorem sk (j:Nat) (b:List UInt8):(Put.b j b).core=(j,2,0,b):=rfl
theorem uC_none {cs:List Cr} {k:Nat} (h:∀ c∈cs,¬ (c.1=k∧c.2.1=0)):uC cs k=0:=by
 have:=a6 [] cs k h
 rwa [List.nil_append] at this
theorem pj (j v:Nat):∀ c∈(numP j v).map Put.core,c=(j,0,v,[]):=by
 unfold numP;split<;>simp[a7y]
theorem a68 (ks:List Nat):∀ c∈(kidP ks).map Put.core,c=(2,2,0,kidB ks):=by
 unfold kidP;split<;>simp[sk]
theorem axb (cs:List Cr) (j v:Nat) (h:∀ c∈cs,¬ (c.1=j∧c.2.1=0)):uC (cs++(numP j v).map Put.core) j=v:=by
 unfold numP;split
 · rename_i e
   rw[List.map_nil,List.append_nil,uC_none h,e]
 · rw[List.map_cons,List.map_nil,oc,a7y,if_pos ⟨rfl,rfl⟩]
def gz (num:Nat):List Cr→List Nat→List Nat×Nat
 | [],acc=>(acc,0)
 |c::r,acc=>if c.1==num then(if c.2.1==0 then gz num r (acc++[c.2.2.1]) else if c.2.1==2 then(if(packM c.2.2.2 (c.2.2.2.length+1) 0 acc).2=0 then gz num r (packM c.2.2.2 (c.2.2.2.length+1) 0 acc).1 else([],(packM c.2.2.2 (c.2.2.2.length+1) 0 acc).2)) else gz num r acc) else gz num r acc
theorem qz (num:Nat):∀ (fs:List Fld) (acc:List Nat),gy num fs acc=gz num (fs.map Fld.core) acc
 | [],acc=>rfl
 | f::r,acc=>by
  rw[List.map_cons,gy,gz];simp only[qz num r];rfl
theorem jy (num:Nat):∀ (cs ds:List Cr) (acc:List Nat),(∀ c∈cs,c.1≠num)→gz num (cs++ds) acc=gz num ds acc
 | [],ds,acc,_=>rfl
 | c::r,ds,acc,h=>by
  have hc:(c.1==num)=false:=by simpa using h c vq
  rw[List.cons_append,gz,hc];exact jy num r ds acc fun x hx=>h x (by simp[hx])
theorem aeu (b:List UInt8):∀ (ks:List Nat) (n p:Nat) (acc:List Nat),(∀ k∈ks,k≤262144)→b.drop p=kidB ks→p≤b.length→b.length-p<n→packM b n p acc=(acc++ks,0)
 | [],n+1,p,acc,_,h,hp,hn=>by
  have:b.length≤p:=by
   have:=congrArg List.length h;rw[List.length_drop] at this;simp[kidB] at this;omega
  rw[packM,if_neg vn,List.append_nil]
 | k::r,n+1,p,acc,hk,h,hp,hn=>by
  rw[k7] at h;have hpos:=nj k;have hl:=congrArg List.length h;rw[List.length_drop,v8] at hl;have hv:varM 0 0 (b.drop p)=(k,(varB 10 k).length,0):=by rw[h];exact gu (by have:=hk k vq;omega) _
  rw[packM,if_pos vn,hv];simp only[if_true];rw[aeu b r n (p+(varB 10 k).length) (acc++[k]) (fun x hx=>hk x (by simp[hx])) (by rw[← List.drop_drop,h,List.drop_left]) vn vn,wh]
  rfl
theorem avi (num:Nat):∀ fs:List Fld,(allM fs num).map (fun f=>f.b)=((fs.map Fld.core).filter fun c=>c.1==num&&c.2.1==2).map fun c=>c.2.2.2
 | []=>rfl
 | f::r=>by
  have ih:=avi num r;unfold allM at ih ⊢;rw[List.filter_cons,List.map_cons,List.filter_cons];have e:(f.core.1==num&&f.core.2.1==2)=isF num 2 f:=rfl;rw[e];split
  · rw[List.map_cons,List.map_cons,ih];rfl
  · exact ih
theorem ak3:∀ {fs:List Fld} {m:Nat},(∀ f∈fs,f.b.length≤m)→wt fs≤(m+1)*fs.length
 | [],m,_=>by simp[wt]
 | f::r,m,h=>by
  have h1:=h f vq;have h2:=ak3 (fs:=r) (m:=m) fun g hg=>h g (by simp[hg])
  rw[wt,List.length_cons,Nat.mul_add,Nat.mul_one];omega
structure NdW (n:Nd):Prop where
 k0:n.kind≤1000
 k1:∀ k∈n.kids,k≤262144
 k2:n.kids.length≤1000
 k3:n.len≤100000
 k4:n.prec≤1000
 k5:n.scale≤1000
 few:n.names.length≤1000
 all:(ndB n).length≤20000
theorem a6u {n:Nd} (h:NdW n):∃ fs,a5 (ndB n)=(fs,0)∧NdFs fs n:=by
 obtain⟨k0,k1,k2,k3,k4,k5,hf,ha⟩:=h;have hlen:(ndP n).length≤1010:=by
   have e:∀ j v,(numP j v).length≤1:=fun j v=>by unfold numP;split<;>simp
   have e2:(kidP n.kids).length≤1:=by unfold kidP;split<;>simp
   have:=e 4 n.len;have:=e 5 n.prec;have:=e 6 n.scale;unfold ndP;simp only[v8,List.length_cons,List.length_nil,vu];omega
 have hok:∀ x∈ndP n,x.ok:=by
   intro x hx;unfold ndP numP kidP at hx;simp only[xb,wc,xx,or_false,xr] at hx;rcases hx with((((rfl|hx)|⟨y,_,rfl⟩)|hx)|hx)|hx
   · simp only[Put.ok];omega
   · split at hx
     · cases hx
     · rw[xe] at hx;subst hx;simp only[Put.ok];omega
   · simp only[Put.ok];omega
   all_goals
     split at hx
     · cases hx
     · rw[xe] at hx;subst hx;simp only[Put.ok];omega
 obtain⟨fs,h1,h2⟩:=rk (ndP n) hok (by rw[a6v];omega) vn
 rw[a6v] at h1;have hp:=aet (ndB n);rw[h1] at hp;obtain⟨p1,p2⟩:=hp;dsimp only at p1 p2;have hc:fs.map Fld.core=[(1,0,n.kind,[])]++(kidP n.kids).map Put.core++(n.names.map (Put.b 3)).map Put.core++(numP 4 n.len).map Put.core++(numP 5 n.prec).map Put.core++(numP 6 n.scale).map Put.core:=by
   rw[h2];unfold ndP;simp only[List.map_append];rfl
 have cK:=a68 n.kids;have c4:=pj 4 n.len;have c5:=pj 5 n.prec;have c6:=pj 6 n.scale;have cN:∀ c∈(n.names.map (Put.b 3)).map Put.core,c.1=3∧c.2.1=2:=by
   intro c hc;rw[List.map_map] at hc;obtain⟨y,_,rfl⟩:=xr.1 hc;exact⟨rfl,rfl⟩
 have no:∀ {c:Cr} {a b u:Nat} {v:List UInt8} {k:Nat},c=(a,b,u,v)→a≠k→¬ (c.1=k∧c.2.1=0):=by
   rintro c a b u v k rfl h ⟨e,_⟩
   exact h e
 refine⟨fs,h1,⟨p2,fun f hf=>by have:=p1 f hf;omega,?_,?_,?_,?_,?_,?_,k0,k1,k2,k3,k4,k5,?_⟩⟩
 · rw[jz,hc,a6 _ _ _ (fun c hc=>no (c6 c hc) vr),a6 _ _ _ (fun c hc=>no (c5 c hc) vr),a6 _ _ _ (fun c hc=>no (c4 c hc) vr),
     a6 _ _ _ (fun c hc=>by have:=cN c hc;omega),a6 _ _ _ (fun c hc=>no (cK c hc) vr)]
   rfl
 · rw[qz,hc,wh,wh,wh,wh,jy 2 _ _ _ (fun c hc=>by rw[xe] at hc;subst hc;simp)]
   have tl:∀ acc,gz 2 ((n.names.map (Put.b 3)).map Put.core++((numP 4 n.len).map Put.core++((numP 5 n.prec).map Put.core++(numP 6 n.scale).map Put.core))) acc=(acc,0):=by
     intro acc;have:=jy 2 ((n.names.map (Put.b 3)).map Put.core++((numP 4 n.len).map Put.core++((numP 5 n.prec).map Put.core++(numP 6 n.scale).map Put.core))) [] acc (by
       intro c hc;simp only[xb] at hc;rcases hc with hc|hc|hc|hc
       · have:=cN c hc;omega
       · rw[c4 c hc];simp
       · rw[c5 c hc];simp
       · rw[c6 c hc];simp)
     rwa [List.append_nil] at this
   unfold kidP;split
   · rename_i e
     have:n.kids=[]:=by
       cases hk:n.kids with
       |nil=>rfl
       |cons x r=>rw[hk,k7] at e;simp[aw8] at e
     rw[List.map_nil,List.nil_append,tl,this]
   · rw[List.map_cons,List.map_nil,sk,List.singleton_append,gz]
     have hpk:=aeu (kidB n.kids) n.kids ((kidB n.kids).length+1) 0 [] k1 rfl (ww _) vn;simp only[beq_self_eq_true,if_true];rw[hpk];simp only[List.nil_append,if_true,show((2:Nat)==0)=false from rfl,vv,if_false]
     exact tl _
 · rw[avi,hc]
   simp only[List.filter_append];have skip:∀ {l:List Cr},(∀ c∈l,¬ (c.1=3∧c.2.1=2))→l.filter (fun c=>c.1==3&&c.2.1==2)=[]:=by
     intro l h;rw[List.filter_eq_nil_iff];intro c hc;have:=h c hc;simpa using this
   have keep:∀ ns:List (List UInt8),(((ns.map (Put.b 3)).map Put.core).filter (fun c=>c.1==3&&c.2.1==2)).map (fun c=>c.2.2.2)=ns:=by
     intro ns
     induction ns with
     |nil=>rfl
     |cons x r ih=>rw[List.map_cons,List.map_cons,sk,List.filter_cons,if_pos (by rfl),List.map_cons,ih]
   rw[skip (l:=[(1,0,n.kind,[])]) (fun c hc=>by rw[xe] at hc;subst hc;simp),skip (l:=(kidP n.kids).map Put.core) (fun c hc=>by rw[cK c hc];simp),skip (l:=(numP 4 n.len).map Put.core) (fun c hc=>by rw[c4 c hc];simp),skip (l:=(numP 5 n.prec).map Put.core) (fun c hc=>by rw[c5 c hc];simp),skip (l:=(numP 6 n.scale).map Put.core) (fun c hc=>by rw[c6 c hc];simp)]
   simp only[List.nil_append,List.append_nil];exact keep n.names
 · rw[jz,hc,a6 _ _ _ (fun c hc=>no (c6 c hc) vr),a6 _ _ _ (fun c hc=>no (c5 c hc) vr)]
   exact axb _ _ _ (fun c hc=>by
     simp only[xb,xe] at hc;rcases hc with(rfl|hc)|hc
     · simp
     · exact no (cK c hc) vr
     · have:=cN c hc;omega)
 · rw[jz,hc,a6 _ _ _ (fun c hc=>no (c6 c hc) vr)]
   exact axb _ _ _ (fun c hc=>by
     simp only[xb,xe] at hc;rcases hc with((rfl|hc)|hc)|hc
     · simp
     · exact no (cK c hc) vr
     · have:=cN c hc;omega
     · exact no (c4 c hc) vr)
 · rw[jz,hc]
   exact axb _ _ _ (fun c hc=>by
     simp only[xb,xe] at hc;rcases hc with(((rfl|hc)|hc)|hc)|hc
     · simp
     · exact no (cK c hc) vr
     · have:=cN c hc;omega
     · exact no (c4 c hc) vr
     · exact no (c5 c hc) vr)
 · have:=ak3 (fs:=fs) (m:=20000) (fun f hf=>by have:=p1 f hf;omega)
   have:(20000+1)*fs.length≤(20000+1)*4096:=Nat.mul_le_mul_left _ p2;omega
