import Derived.Test.YtmeohcmbohicoaaGreatDoorTyF
import Derived.Test.YtmeohcmbohicoaaGreatDoorFlD
namespace Go.Proofs.YtmeohcmbohicoaaGreatDoor
open Go Go.Ev
set_option maxHeartbeats 4000000
theorem chk_kids {t:Ty} {deep:Nat} {n:Int} (h:(chkT deep n t).2=0):ownM t=0∧∀ k∈t.kids,∃ n',(chkT (deep+1) n' k).2=0:=by
 have key:∀ (l:List Ty) (n:Int),(chkTs (deep+1) n l).2=0→∀ k∈l,∃ n',(chkT (deep+1) n' k).2=0:=by
   intro l
   induction l with
   |nil=>intro n _ k hk;cases hk
   | cons y r ih=>
    intro n hz k hk;rw[chkTs_cons] at hz;by_cases hx:((chkT (deep+1) n y).2 !=0)=true
    · rw[if_pos hx] at hz
      rw[hz] at hx;simp at hx
    · rw[if_neg hx] at hz
      rcases wc.1 hk with rfl|hk
      · exact⟨n,by simpa using hx⟩
      · exact ih _ hz k hk
 rw[chkT_eq] at h;by_cases h1:(decide ((deep:Int)>16)||decide (n≥100))=true
 · rw[if_pos h1] at h;simp at h
 rw[if_neg h1] at h;by_cases h2:(ownM t !=0)=true
 · rw[if_pos h2] at h
   simp only at h;rw[h] at h2;simp at h2
 rw[if_neg h2] at h;exact⟨by simpa using h2,key _ _ h⟩
theorem sg {par:Nat} {d:Int} {x:Ty×List Nat×Int×Int}:∀ (ks:List Ty) (i:Nat),x∈bo i par d ks→∃ k∈ks,∃ i',i'+k.size≤i+Ty.sizes ks∧x∈flatR i' par d k
 | [],i,h=>by rw[bo] at h;cases h
 | k::r,i,h=>by
  rw[bo] at h;rcases xb.1 h with h|h
  · exact⟨k,by simp,i,by rw[Ty.sizes];omega,h⟩
  · obtain⟨k',hk,i',hi,hx⟩:=sg r _ h
    exact⟨k',by simp[hk],i',by rw[Ty.sizes];omega,hx⟩
theorem aur:∀ (l:List Ty) (i k:Nat),k∈kidAt i l→k≤i+Ty.sizes l
 | [],i,k,h=>by cases h
 | y::l,i,k,h=>by
  rw[kidAt] at h;rcases wc.1 h with rfl|h
  · omega
  · have:=aur l _ k h
    rw[Ty.sizes];omega
theorem fz:∀ (m:Nat) (t:Ty) (deep:Nat) (n:Int) (i:Nat) (p q:Int),t.size≤m→(chkT deep n t).2=0→∀ x∈flatR i p q t,ownM x.1=0∧(∀ k∈x.2.1,k≤i+t.size)∧x.2.1.length≤t.size∧x.1.size≤t.size
 |0,t,_,_,_,_,_,h,_=>by have:=t.size_pos;omega
 | m+1,t,deep,n,i,p,q,h,hc=>by
  intro x hx;obtain⟨h1,h2⟩:=chk_kids hc;have hs:=t.size_eq;rw[lg] at hx;rcases wc.1 hx with rfl|hx
  · refine⟨h1,fun k hk=> ?_,?_,wa _⟩
    · have:=aur _ _ k hk;omega
    · show(kidAt (i+1) t.kids).length≤_
      rw[i9];have:=nv t.kids;omega
  · obtain⟨k,hk,i',hi,hx⟩:=sg _ _ hx
    obtain⟨n',hn⟩:=h2 k hk;have hlt:=Ty.size_kid hk;obtain⟨a,b,c,d⟩:=fz m k (deep+1) n' i' _ _ vn hn x hx;exact⟨a,fun z hz=>by have:=b z hz;omega,by omega,by omega⟩
theorem po:(∀ (t:Ty) (i:Nat) (p q:Int),flatT i p q t=(flatR i p q t).map fun n=>nodT n.1 n.2.1 n.2.2.1 n.2.2.2)
 | .mk k ns ks l pr s,i,p,q=>by rw[flatT_eq,lg,List.map_cons,show(Ty.mk k ns ks l pr s).kids=ks from rfl,flatTs_map ks]
where flatTs_map:∀ (ks:List Ty) (i par:Nat) (q:Int),fh i par q ks=(bo i par q ks).map fun n=>nodT n.1 n.2.1 n.2.2.1 n.2.2.2
 | [],i,par,q=>by rw[flatTs_nil,bo];rfl
 |k::r,i,par,q=>by rw[flatTs_cons,bo,List.map_append,po k,flatTs_map r]
def ndOf (n:Ty×List Nat×Int×Int):Nd:=⟨n.1.kind.toNat,n.2.1,n.1.names,n.1.len.toNat,n.1.prec.toNat,n.1.scale.toNat⟩
theorem ae4 (ns:List Tx):∀ (q:List Tx) (i:Nat),fg ns i q=true→∀ s∈q,s.length≤100
 | [],i,_,s,h=>by cases h
 | y::q,i,h,s,hs=>by
  rw[fg] at h;simp only[wb,v7,xm,wd] at h;rcases wc.1 hs with rfl|hs
  · have:=h.1.1.2;omega
  · exact ae4 ns q _ h.2 s hs
theorem mh {t:Ty} (h:ownM t=0):(0≤t.kind∧t.kind≤17)∧afa t=true∧(t.kind≠12→t.names=[])∧fg t.names 0 t.names=true∧restT t=0:=by
 unfold ownM at h;split at h
 · cases h
 split at h
 · cases h
 rename_i h1;split at h
 · cases h
 rename_i h2;split at h
 · rename_i h3
   simp only[xg,we,not_or] at h1;simp only[xg,wb,v7,we,not_or,not_and,bne_iff_ne,ne_eq,wg] at h2;refine⟨⟨by omega,by omega⟩,h2.1,fun hk=> ?_,h3,h⟩
   have:=h2.2 hk;exact xl vn
 · cases h
theorem nq {t:Ty} (h:restT t=0):(0≤t.len∧t.len≤4096)∧(0≤t.prec∧t.prec≤18)∧(0≤t.scale∧t.scale≤18):=by
 unfold restT at h;split at h
 · cases h
 rename_i h1;have hl:0≤t.len∧t.len≤4096:=by
   by_cases hk:(t.kind==16||t.kind==17)=true
   · rw[hk] at h1
     simp at h1;omega
   · rw[wk] at hk
     rw[hk] at h1;simp at h1;omega
 split at h
 · split at h
   · cases h
   · rename_i h2
     simp at h2;exact⟨hl,by omega,by omega⟩
 · split at h
   · cases h
   · rename_i h2
     simp at h2;exact⟨hl,by omega,by omega⟩
theorem ajp {t:Ty} (h:ownM t=0):t.names.length≤t.kids.length:=by
 obtain⟨_,hk,hn,_,_⟩:=mh h;by_cases h12:t.kind=12
 · unfold afa at hk
   rw[h12] at hk;simp at hk;omega
 · rw[hn h12];exact ww _
theorem ndOf_R {n:Ty×List Nat×Int×Int} (h:ownM n.1=0):sigD n=nodR (ndOf n,.sl (n.1.kids.map Ty.d),.int .i64 n.2.2.1,.int .i64 n.2.2.2):=by
 obtain⟨⟨h1,_⟩,_,_,_,hr⟩:=mh h;obtain⟨⟨h2,_⟩,⟨h3,_⟩,h4,_⟩:=nq hr;unfold sigD nodR ndOf intsD;simp only[yf h1,yf h2,yf h3,yf h4];rfl
theorem jr:(∀ (t:Ty) (i:Nat) (p q:Int),∀ x∈flatR i p q t,x.2.1.length=x.1.kids.length)
 | .mk k ns ks l pr s,i,p,q=>fun x hx=>by
  rw[lg] at hx;rcases wc.1 hx with rfl|hx
  · exact i9 _ _
  · exact flatRs_kids ks _ _ _ x hx
where flatRs_kids:∀ (ks:List Ty) (i par:Nat) (q:Int),∀ x∈bo i par q ks,x.2.1.length=x.1.kids.length
 | [],i,par,q=>fun x hx=>by rw[bo] at hx;cases hx
 | k::r,i,par,q=>fun x hx=>by
  rw[bo] at hx;rcases xb.1 hx with hx|hx
  · exact jr k _ _ _ x hx
  · exact flatRs_kids r _ _ _ x hx
def wtR (l:List (Ty×List Nat×Int×Int)):Nat:=(l.map fun x=>1+x.1.kids.length).sum
theorem ak4 (x:Ty×List Nat×Int×Int) (l:List (Ty×List Nat×Int×Int)):wtR (x::l)=1+x.1.kids.length+wtR l:=by simp[wtR]
theorem avk (a b:List (Ty×List Nat×Int×Int)):wtR (a++b)=wtR a+wtR b:=by simp[wtR]
theorem auw:(∀ (t:Ty) (i:Nat) (p q:Int),wtR (flatR i p q t)+1=2*t.size)
 | .mk k ns ks l pr s,i,p,q=>by
  rw[lg,ak4,Ty.size];have:=flatRs_wt ks (i+1) i (q+1);show 1+ks.length+wtR (bo (i+1) i (q+1) ks)+1=_;omega
where flatRs_wt:∀ (ks:List Ty) (i par:Nat) (q:Int),wtR (bo i par q ks)+ks.length=2*Ty.sizes ks
 | [],i,par,q=>by rw[bo,Ty.sizes];rfl
 | k::r,i,par,q=>by
  rw[bo,avk,Ty.sizes,List.length_cons];have:=auw k i par q;have:=flatRs_wt r (i+k.size) par q;omega
theorem auq:∀ ks:List Nat,(kidB ks).length≤10*ks.length
 | []=>ww _
 | k::r=>by
  rw[k7,v8,List.length_cons];have:=auq r;have:=cl 10 k;omega
theorem auk:∀ ns:List (List UInt8),(∀ s∈ns,s.length≤100)→(namB ns).length≤120*ns.length
 | [],_=>ww _
 | k::r,h=>by
  rw[ae6,v8,List.length_cons];have:=auk r fun s hs=>h s (by simp[hs])
  have:=(bz 3 k).2;have:=h k vq;omega
theorem tj (j v:Nat):(numB j v).length≤20:=by
 unfold numB;split
 · exact ww _
 · exact(a8 j v).2
theorem kidF_len (ks:List Nat):(kidF ks).length≤20+10*ks.length:=by
 unfold kidF;have:=auq ks;split
 · exact ww _
 · have:=(bz 2 (kidB ks)).2
   omega
theorem ajt {n:Ty×List Nat×Int×Int} (h:ownM n.1=0) (hk:n.2.1.length=n.1.kids.length):(ndB (ndOf n)).length≤180*(1+n.1.kids.length):=by
 have h1:=(a8 1 (ndOf n).kind).2;have h2:=kidF_len (ndOf n).kids;have h3:=auk (ndOf n).names (ae4 _ _ 0 (mh h).2.2.2.1);have h4:=tj 4 (ndOf n).len;have h5:=tj 5 (ndOf n).prec;have h6:=tj 6 (ndOf n).scale;have h7:=ajp h;have h8:(ndOf n).kids.length=n.1.kids.length:=hk;have h9:(ndOf n).names.length=n.1.names.length:=rfl;unfold ndB;simp only[v8];omega
theorem aui:∀ (l:List (Ty×List Nat×Int×Int)),(∀ x∈l,ownM x.1=0∧x.2.1.length=x.1.kids.length)→(ndsB (l.map ndOf)).length≤200*wtR l
 | [],_=>ww _
 | x::l,h=>by
  rw[List.map_cons,i7,v8,ak4];obtain⟨h1,h2⟩:=h x vq;have:=aui l fun y hy=>h y (by simp[hy])
  have:=(bz 4 (ndB (ndOf x))).2;have:=ajt h1 h2;omega
theorem nd_ok {t:Ty} (h:(chkT 1 0 t).2=0):∀ x∈flatR 0 (-1) 1 t,NdOk (ndOf x):=by
 intro x hx;have hz:=fp h;obtain⟨h1,h2,h3,h4⟩:=fz _ t 1 0 0 (-1) 1 (wa _) h x hx;have hk:=jr t 0 (-1) 1 x hx;obtain⟨⟨a1,a2⟩,_,_,_,hr⟩:=mh h1;obtain⟨⟨b1,b2⟩,⟨b3,b4⟩,b5,b6⟩:=nq hr;have hn:=ajp h1;have hl:=ajt h1 hk;exact⟨by show x.1.kind.toNat≤_;omega,fun k hk=>by have:=h2 k hk;omega,by show x.1.len.toNat≤_;omega,by show x.1.prec.toNat≤_;omega,by show x.1.scale.toNat≤_;omega,
  ⟨by show x.2.1.length≤_;omega,by show x.1.names.length≤_;omega⟩,by omega⟩
theorem ajs {t:Ty} (h:(chkT 1 0 t).2=0):(ndsB ((flatR 0 (-1) 1 t).map ndOf)).length≤40000:=by
 have hz:=fp h;have h1:=aui (flatR 0 (-1) 1 t) fun x hx=>⟨(fz _ t 1 0 0 (-1) 1 (wa _) h x hx).1,jr t 0 (-1) 1 x hx⟩
 have h2:=auw t 0 (-1) 1;omega
theorem few_K:∀ (m:Nat) (t:Ty) (deep:Nat),fewT deep t<1000→fewK m t
 |0,_,_,_=>trivial
 | m+1,t,deep,h=>by
  have key:∀ (r:List Ty) (n:Int),fewTs (deep+1) n r<1000→∀ k∈r,fewT (deep+1) k<1000∨n<0:=by
    intro r
    induction r with
    |nil=>intro n _ k hk;cases hk
    | cons y r ih=>
      intro n h k hk;rw[fewTs_cons] at h;have hb:=fewT_bd _ y (deep+1) (wa _);split at h
      · omega
      · rename_i hc
        simp only[we] at hc;rcases wc.1 hk with rfl|hk
        · by_cases hn:n<0
          · exact .inr hn
          · left
            by_cases hl:fewT (deep+1) k<1000
            · exact hl
            · exfalso
              have:∀ (r:List Ty) (n:Int),1000≤n→¬ fewTs (deep+1) n r<1000:=by
               intro r
               induction r with
               |nil=>intro n hn h;rw[fewTs_nil] at h;omega
               | cons y r ih2=>
                intro n hn h;rw[fewTs_cons] at h;have hb:=fewT_bd _ y (deep+1) (wa _);split at h
                · omega
                · exact ih2 _ vn h
              exact this r _ vn h
        · rcases ih _ h k hk with h1|h1
          · exact .inl h1
          · right;omega
  rw[fewT_eq] at h;split at h
  · omega
  · rename_i hc
    simp only[xg,we,not_or] at hc;split at h
    · omega
    · refine⟨by omega,by omega,fun k hk=>few_K m k (deep+1) ?_⟩
      rcases key t.kids 1 h k hk with h1|h1
      · exact h1
      · omega
theorem si:∀ (m:Nat) (t:Ty),fewK m t→smallT m t
 |0,_,_=>trivial
 |m+1,t,⟨a,b,c⟩=>⟨by omega,by omega,fun k hk=>si m k (c k hk)⟩
theorem a7k {t:Ty} (h:fewTB t=true):fewK t.size t∧smallT t.size t:=by
 have h1:fewT 1 t≤150:=by simpa[fewTB] using h
 have:=few_K t.size t 1 vn;exact⟨this,si _ _ this⟩
theorem dv (t:Ty) (hs:smallT t.size t) (h:(chkT 1 0 t).2=0):evL cfg n_bl 0 [.d t.d] []=some (.own false 9 ((flatR 0 (-1) 1 t).map sigD),[]):=by
 have hz:=fp h;have h1:=ref13_Check_ans t hs;have h2:=flat_ans t vn;rw[h] at h1;rw[o_bl];generalize(flatR 0 (-1) 1 t).map sigD=q at *;simp(disch:=first|exact vm|fail) only[go_sem,X_bl,c_bl,h1,h2]
