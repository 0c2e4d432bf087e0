import Derived.Test.YtmeohcmbohicoaaGreatDoorOtF
namespace Go.Proofs.YtmeohcmbohicoaaGreatDoor
open Go Go.Ev
set_option maxHeartbeats 4000000
mutual
theorem pq:∀ (t:Ty) (i:Nat) (p q:Int),flL i t=(flatR i p q t).map fun x=>(x.1,x.2.1)
 | .mk k ns ks l pr s,i,p,q=>by rw[flL,flatR,List.map_cons,auz ks (i+1) i (q+1)]
theorem auz:∀ (r:List Ty) (i:Nat) (p:Nat) (q:Int),flLs i r=(bo i p q r).map fun x=>(x.1,x.2.1)
 | [],i,p,q=>by rw[flLs,bo];rfl
 |k::r,i,p,q=>by rw[flLs,bo,List.map_append,pq k i p q,auz r (i+k.size) p q]
end
def ndT (t:Ty):List Nd:=(flatR 0 (-1) 1 t).map ndOf
theorem ndT_len (t:Ty):(ndT t).length=t.size:=by
 unfold ndT;rw[vu,← flL_len t 0,pq t 0 (-1) 1,vu]
theorem ndOf_G {n:Ty×List Nat×Int×Int} (h:ownM n.1=0):nodF (ndOf n)=nodG (n.1,n.2.1):=by
 obtain⟨⟨a1,a2⟩,_,_,_,hr⟩:=mh h;obtain⟨⟨b1,b2⟩,⟨b3,b4⟩,b5,b6⟩:=nq hr;unfold nodF nodG ndOf;simp only[yf a1,yf b1,yf b3,yf b5]
theorem ndW {t:Ty} (h:(chkT 1 0 t).2=0):∀ n∈ndT t,NdW n:=by
 intro n hn;obtain⟨x,hx,rfl⟩:=xr.1 hn;have hz:=fp h;obtain⟨h1,h2,h3,h4⟩:=fz _ t 1 0 0 (-1) 1 (wa _) h x hx;have hk:=jr t 0 (-1) 1 x hx;obtain⟨⟨a1,a2⟩,_,_,_,hr⟩:=mh h1;obtain⟨⟨b1,b2⟩,⟨b3,b4⟩,b5,b6⟩:=nq hr;have hn:=ajp h1;have hl:=ajt h1 hk;exact⟨by show x.1.kind.toNat≤_;omega,fun k hk=>by have:=h2 k hk;omega,by show x.2.1.length≤_;omega,by show x.1.len.toNat≤_;omega,by show x.1.prec.toNat≤_;omega,by show x.1.scale.toNat≤_;omega,by show x.1.names.length≤_;omega,by omega⟩
def ndsP (ns:List Nd):List Put:=ns.map fun n=>Put.b 4 (ndB n)
theorem ndsP_put:∀ ns:List Nd,putB (ndsP ns)=ndsB ns
 | []=>rfl
 | n::r=>by
  have:=ndsP_put r;unfold ndsP at this ⊢;rw[List.map_cons,iu,this,i7];rfl
def encP (t:Ty):List Put:=[.u 1 3,.u 2 0]++ndsP (ndT t)++[.u 6 5]++List.replicate t.size (.b 7 stat1)++[.u 8 7]
def othP (num v:Nat) (x:List UInt8) (t:Ty):List Put:=[.u num v,.b num x]++encP t++[.u (num+1) v]
theorem fold_nodes:∀ (ns:List Nd) (p:Parts),((ndsP ns).map Put.core).foldl addC p={p with b:=p.b++ns.map fun n=>(a5 (ndB n)).1}
 | [],p=>by simp[ndsP]
 | n::r,p=>by
  have:=fold_nodes r (addC p (4,2,0,ndB n));unfold ndsP at this ⊢;rw[List.map_cons,List.map_cons,List.foldl_cons,sk,this];simp[addC]
theorem fold_stats:∀ (k:Nat) (p:Parts),((List.replicate k (Put.b 7 stat1)).map Put.core).foldl addC p={p with e:=p.e++List.replicate k st1F,st:=p.st++List.replicate k stat1}
 |0,p=>by simp
 | k+1,p=>by
  rw[List.replicate_succ,List.map_cons,List.foldl_cons,sk,fold_stats k];have e:addC p (7,2,0,stat1)={p with e:=p.e++[st1F],st:=p.st++[stat1]}:=by
   unfold addC;simp[mc]
  rw[e];simp[List.replicate_succ]
theorem encP_len {t:Ty} (h:(chkT 1 0 t).2=0):(putB (encP t)).length≤43000∧(encP t).length≤210:=by
 have hz:=fp h;have hn:=ajs h;have hr:(putB (List.replicate t.size (Put.b 7 stat1))).length≤24*t.size:=by
   have:=th (List.replicate t.size (Put.b 7 stat1)) 24 (fun x hx=>by
    rw[(List.mem_replicate.1 hx).2];exact(bz 7 stat1).2)
   rwa [List.length_replicate] at this
 have hl:=ndT_len t;constructor
 · unfold encP
   simp only[eu,v8,ndsP_put];have a:=(a8 1 3).2;have b:=(a8 2 0).2;have c:=(a8 6 5).2;have d:=(a8 8 7).2;have e:(putB [Put.u 1 3,Put.u 2 0]).length=(uintF 1 3).length+(uintF 2 0).length:=by simp[putB,Put.bytes]
   have f:(putB [Put.u 6 5]).length=(uintF 6 5).length:=by simp[putB,Put.bytes]
   have g:(putB [Put.u 8 7]).length=(uintF 8 7).length:=by simp[putB,Put.bytes]
   have hn':(ndsB (ndT t)).length≤40000:=hn;omega
 · unfold encP ndsP
   simp only[v8,List.length_cons,List.length_nil,vu,List.length_replicate];omega
theorem oth_ok {t:Ty} (h:(chkT 1 0 t).2=0) (num v:Nat) (x:List UInt8) (h1:9≤num) (h2:num≤268435456) (hv:v<18446744073709551616) (hx:x.length≤100):
   ∃ fs p,FootT (putB (othP num v x t)) fs p t∧uM fs 2=0∧uM fs 6=5∧uM fs 8=7:=by
 have hz:=fp h;obtain⟨l1,l2⟩:=encP_len h;have hlen:(putB (othP num v x t)).length≤262144:=by
   unfold othP;simp only[eu,v8];have a:=(a8 num v).2;have b:=(bz num x).2;have c:=(a8 (num+1) v).2;have e:(putB [Put.u num v,Put.b num x]).length=(uintF num v).length+(av num x).length:=by simp[putB,Put.bytes]
   have f:(putB [Put.u (num+1) v]).length=(uintF (num+1) v).length:=by simp[putB,Put.bytes]
   omega
 obtain⟨fs,g1,g2⟩:=rk (othP num v x t) (by
   intro y hy;unfold othP encP ndsP at hy;simp only[xb,wc,xx,or_false,xr,List.mem_replicate] at hy;rcases hy with((rfl|rfl)| (((((rfl|rfl)|⟨n,_,rfl⟩)|rfl)|⟨_,rfl⟩)|rfl))|rfl
   all_goals (simp only[Put.ok];omega)) hlen (by unfold othP;simp only[v8,List.length_cons,List.length_nil];omega)
 have hc:fs.map Fld.core=[(num,0,v,[]),(num,2,0,x),(1,0,3,[]),(2,0,0,[])]++(ndsP (ndT t)).map Put.core++[(6,0,5,[])]++(List.replicate t.size (Put.b 7 stat1)).map Put.core++[(8,0,7,[])]++[(num+1,0,v,[])]:=by
   rw[g2];unfold othP encP;simp only[List.map_append,List.map_cons,List.map_nil,a7y,sk,wh,List.cons_append,List.nil_append]
 have cT:∀ c∈(ndsP (ndT t)).map Put.core,∃ n∈ndT t,c=(4,2,0,ndB n):=by
   intro c hc;unfold ndsP at hc;rw[List.map_map] at hc;obtain⟨n,hn,rfl⟩:=xr.1 hc;exact⟨n,hn,rfl⟩
 have cS:∀ c∈(List.replicate t.size (Put.b 7 stat1)).map Put.core,c=(7,2,0,stat1):=by
   intro c hc;obtain⟨p,hp,rfl⟩:=xr.1 hc;rw[(List.mem_replicate.1 hp).2];rfl
 have noT:∀ k,∀ c∈(ndsP (ndT t)).map Put.core,¬ (c.1=k∧c.2.1=0):=by
   intro k c hc;obtain⟨n,_,rfl⟩:=cT c hc;simp
 have noS:∀ k,∀ c∈(List.replicate t.size (Put.b 7 stat1)).map Put.core,¬ (c.1=k∧c.2.1=0):=by
   intro k c hc;rw[cS c hc];simp
 have hP:splM fs i6=⟨[],(ndT t).map (fun n=>(a5 (ndB n)).1),[],List.replicate t.size st1F,List.replicate t.size stat1⟩:=by
   rw[u9,hc];simp only[List.foldl_append];have eA:([(num,0,v,[]),(num,2,0,x),(1,0,3,[]),(2,0,0,[])]:List Cr).foldl addC i6=i6:=by
     have n7:¬ num=7:=vn;have n3:¬ num=3:=vn;have n4:¬ num=4:=vn;have n5:¬ num=5:=vn;simp[addC,n7,n3,n4,n5]
   rw[eA,fold_nodes];have eB:∀ p,([(6,0,5,[])]:List Cr).foldl addC p=p:=fun p=>rfl
   have eC:∀ p,([(8,0,7,[])]:List Cr).foldl addC p=p:=fun p=>rfl
   have eD:∀ p,([(num+1,0,v,[])]:List Cr).foldl addC p=p:=fun p=>rfl
   rw[eB,fold_stats,eC,eD];rfl
 have hW:=ndW h;have one:∀ {c:Cr} {a b u:Nat} {w:List UInt8} {k:Nat},c∈[(a,b,u,w)]→a≠k→¬ (c.1=k∧c.2.1=0):=by
   intro c a b u w k hc h;rw[xe] at hc;subst hc
   rintro ⟨e,_⟩
   exact h e
 have u2:uM fs 2=0:=by
   rw[jz,hc,a6 _ _ _ (fun c hc=>one hc vn),a6 _ _ _ (fun c hc=>one hc vn),a6 _ _ _ (noS 2),a6 _ _ _ (fun c hc=>one hc vn),a6 _ _ _ (noT 2)]
   have e:([(num,0,v,[]),(num,2,0,x),(1,0,3,[]),(2,0,0,[])]:List Cr)=[(num,0,v,[]),(num,2,0,x),(1,0,3,[])]++[(2,0,0,[])]:=rfl;rw[e,oc,if_pos ⟨rfl,rfl⟩]
 have u6:uM fs 6=5:=by
   rw[jz,hc,a6 _ _ _ (fun c hc=>one hc vn),a6 _ _ _ (fun c hc=>one hc vn),a6 _ _ _ (noS 6),oc,if_pos ⟨rfl,rfl⟩]
 have u8:uM fs 8=7:=by
   rw[jz,hc,a6 _ _ _ (fun c hc=>one hc vn),oc,if_pos ⟨rfl,rfl⟩]
 refine⟨fs,_,⟨hlen,g1,aw6 ?_,hP,by omega,by omega,by omega,rfl,?_,?_,rfl,rfl⟩,u2,u6,u8⟩
 · intro c hcm
   rw[hc] at hcm;simp only[xb,wc,xx,or_false] at hcm;intro hw hk;rcases hcm with(((((rfl|rfl|rfl|rfl)|hcm)|rfl)|hcm)|rfl)|rfl
   · simp at hw
   · exfalso;simp only at hk;omega
   · simp at hw
   · simp at hw
   · obtain⟨n,hn,rfl⟩:=cT c hcm
     obtain⟨fs',e,_⟩:=a6u (hW n hn);show(a5 (ndB n)).2=0;rw[e]
   · simp at hw
   · rw[cS c hcm]
     show(a5 stat1).2=0;rw[mc]
   · simp at hw
   · simp at hw
 · show((ndT t).map fun n=>(a5 (ndB n)).1).length=t.size
   rw[vu,ndT_len]
 · intro i fs' y hf hy
   have hf:((ndT t).map fun n=>(a5 (ndB n)).1)[i]? =some fs':=hf
   rw[pq t 0 (-1) 1] at hy;unfold ndT at hf;rw[List.map_map,v6] at hf;rw[v6] at hy;cases hz:(flatR 0 (-1) 1 t)[i]? with
   |none=>rw[hz] at hf;cases hf
   | some z=>
     rw[hz] at hf hy;simp only[Option.map_some,Option.some.injEq,Function.comp] at hf hy;have hm:=List.mem_of_getElem? hz;have ho:=(fz _ t 1 0 0 (-1) 1 (wa _) h z hm).1;obtain⟨fs2,e,hnf⟩:=a6u (hW (ndOf z) (xr.2 ⟨z,hm,rfl⟩));rw[e] at hf;subst hf;exact⟨ndOf z,hnf,by rw[ndOf_G ho,← hy]⟩
