import Derived.Test.YtkdiccgfbfbjlaaGreatCoK
namespace Go.Proofs.YtkdiccgfbfbjlaaGreat
open Go Go.Ev
set_option maxHeartbeats 4000000
set_option maxRecDepth 100000
def ownI (x:List Int):V:=match x with
 | []=> .d .nilS
 |y::r=> .own false 1 ((y::r).map (D.int .i64))
theorem eb:ownI []= .d .nilS:=rfl
theorem vv {x:List Int} (h:x≠[]):ownI x= .own false 1 (x.map (D.int .i64)):=by
 cases x with
 |nil=>exact absurd rfl h
 |cons y r=>rfl
abbrev mR (sg:Bool) (x:List UInt8) (L:List Int):List (Cel×V):=[(⟨0,3,0⟩,.d (.bool (sg))),(⟨0,6,0⟩,ownB x),(⟨0,7,0⟩,ownI L)]
abbrev mQ (sg:Bool) (x:List UInt8) (L:List Int):List (Cel×V):=[(⟨0,3,0⟩,.d (.bool (sg))),(⟨0,6,0⟩,ownB x),(⟨0,7,0⟩,.d (i64s L))]
abbrev rfE (p:List Int) (i:Nat):List (Nat×V):=[(1,.ref 0 6 0),(2,.ref 0 3 0),(16,.d (i64s p)),(17,.d (.int .i64 ((p.length:Int)))),(18,.d (.int .i64 ((i:Int))))]
theorem rf_in {sg:Bool} (L p:List Int) (hf:∀ v∈p,inI v) (hl:p.length≤128):∀ (q:List Int) (i:Nat) (x:List UInt8),p.drop i=q→i≤p.length→x≠[]→x.length+10*q.length≤500000→
  ∃ x':List UInt8,x'≠[]∧x'.length≤x.length+10*q.length∧∀ (k:Ex→St→Ans) (K:List Kf),go ⟨cfg,2,k⟩ (.c (.loop au7):: .b 2::K) ⟨rfE p i,mQ sg x L⟩=go ⟨cfg,2,k⟩ K ⟨rfE p p.length++[(19,.d (.bool (false)))],mQ sg x' L⟩
 | [],i,x,hq,hi,hx,hxl=>by
  have:=cf hq;have:i=p.length:=yp;subst this;have d_a:decide ((p.length:Int)<p.length)=false:=by simp<;>omega
  refine⟨x,hx,by omega,fun k K=> ?_⟩
  simp only[mQ,ah hx];rw[go_loop];simp(disch:=first|exact yo|fail) only[go_sem,X_aw,rfE,i64s,d_a,List.cons_append,List.nil_append]
 | v::q,i,x,hq,hi,hx,hxl=>by
  obtain⟨g1,h2,h3⟩:=da hq;have d_a:decide ((i:Int)<p.length)=true:=by simp<;>omega
  rw[List.length_cons] at hxl;obtain⟨x1,p1,p2,p3⟩:=xn (b:=x) yp (hf v (List.mem_of_getElem? h2)) sg;obtain⟨x',q1,q2,q3⟩:=rf_in L p hf hl q (i+1) x1 h3 g1 p1 yp;refine⟨x',q1,by rw[List.length_cons];omega,fun k K=>Eq.trans ?_ (q3 k K)⟩
  simp only[mQ,ah hx,ah p1];rw[go_loop];simp(disch:=first|exact yo|fail) only[go_sem,X_aw,rfE,i64s,d_a,h2,p3,Int.natCast_add]
abbrev rgE (L:List Int):List (Nat×V):=[(0,.ref 0 7 0),(1,.ref 0 6 0),(2,.ref 0 3 0),(7,.clo n_da [] [.d (.ptr (.sl (L.map (D.int .i64)))),.d (.ptr (.int .i64 128))])]
theorem ayd {sg:Bool} (L:List Int) (K:List Kf):∀ (ps:List (List Int)) (x:List UInt8),(∀ p∈ps,1≤p.length∧p.length≤128∧∀ v∈p,inI v)→x.length+11*(ps.map List.length).sum≤400000→
  ∃ x':List UInt8,(x'≠[]∨ps=[]∧x'=x)∧x'.length≤x.length+11*(ps.map List.length).sum∧goE (fx cfg 1 []) [8] a5c ajn (rgE L) K (ps.map fun p=>[.sl (p.map (D.int .i64))]) (mQ sg x L)=go (fx cfg 1 []) K ⟨rgE L,mQ sg x' L⟩
 | [],x,hp,hx=>⟨x,.inr ⟨rfl,rfl⟩,by omega,rfl⟩
 | p::ps,x,hp,hx=>by
  obtain⟨h1,h2,h3⟩:=hp p yt;rw[List.map_cons,List.sum_cons] at hx;obtain⟨x1,p1,p2,p3⟩:=rf_in (sg:=sg) L p h3 h2 p 0 (x++[wU (256-p.length)]) rfl (aad _) yt (by simp;omega)
  rw[zo,List.length_singleton] at p2;obtain⟨x',q1,q2,q3⟩:=ayd L K ps x1 (fun q hq=>hp q (by simp[hq])) yp
  have hx':x'≠[]:=by
    rcases q1 with q1|⟨_,rfl⟩
    · exact q1
    · exact p1
  refine⟨x',.inl hx',by rw[List.map_cons,List.sum_cons];omega,?_⟩
  rw[List.map_cons,ka];simp only[mQ,rfE,rgE,Int.natCast_zero,ah p1,ah (show x++[wU (256-p.length)]≠[] by simp),i64s,List.map_append,List.map_cons,List.map_nil] at p3 q3 ⊢
  by_cases hz:x=[]
  · subst hz
    rw[List.map_nil,List.nil_append] at p3;rw[am];simp(disch:=first|exact yo|fail) only[go_sem,X_aw,wB]
    refine(p3 _ [.b 1]).trans ?_;simp(disch:=first|exact yo|fail) only[go_sem,X_aw,List.cons_append,List.nil_append]
    exact q3
  · rw[ah hz]
    simp(disch:=first|exact yo|fail) only[go_sem,X_aw,wB]
    refine(p3 _ [.b 1]).trans ?_;simp(disch:=first|exact yo|fail) only[go_sem,X_aw,List.cons_append,List.nil_append]
    exact q3
theorem avr {sg:Bool} (x:List UInt8) (L:List Int) (hL:L≠[]) (hf:∀ v∈L,inI v) (hl:L.length≤20000) (hx:x.length≤100000):
   ∃ x':List UInt8,x'≠[]∧x'.length≤x.length+11*L.length∧evL cfg n_aw 1 [.ref 0 7 0,.ref 0 6 0,.ref 0 3 0] (mR sg x L)=some (.d (.tup []),mR sg x' []):=by
 obtain⟨ps,h1,h2,h3⟩:=jw (D.int .i64) 128 yp L.length L (y7 _);have hs:=oq (L.map (D.int .i64)) (n:=128) yu;have hit:=qn (es:=L.map (D.int .i64)) (n:=128) yu yu (qm L) (by simp;omega)
 have hc:=wc;rw[yz,show(128:Int).toNat=128 from rfl,h1] at hit
 have hne:ps≠[]:=by
   intro e;rw[e] at h3;exact hL (z8 h3.symm)
 obtain⟨x',q1,q2,q3⟩:=ayd (sg:=sg) L [.b 0,.c age] ps x (fun p hp=>⟨(h2 p hp).1,(h2 p hp).2.1,fun v hv=>hf v ((h2 p hp).2.2 v hv)⟩) yp
 rw[h3] at q2;have hx':x'≠[]:=by
   rcases q1 with q1|⟨q1,_⟩
   · exact q1
   · exact absurd q1 hne
 refine⟨x',hx',q2,?_⟩;simp only[mQ,rgE,i64s,ah hx'] at q3;simp only[mR,vv hL,ah hx',eb];rw[e_aw 1 _ _ rfl rfl];by_cases hz:x=[]
 · subst hz
   rw[am] at q3 ⊢;simp(disch:=first|exact yo|fail) only[go_sem,X_aw,c_aw,hs,hit,hc]
   refine q3.trans ?_;simp(disch:=first|exact yo|fail) only[go_sem,X_aw]
 · rw[ah hz] at q3 ⊢
   simp(disch:=first|exact yo|fail) only[go_sem,X_aw,c_aw,hs,hit,hc]
   refine q3.trans ?_;simp(disch:=first|exact yo|fail) only[go_sem,X_aw]
set_option maxRecDepth 100000
theorem avq {sg:Bool} (x:List UInt8):evL cfg n_aw 1 [.ref 0 7 0,.ref 0 6 0,.ref 0 3 0] (mR sg x [])=some (.d (.tup []),mR sg x []):=by
 have hs:=oq [] (n:=128) yu;have hit:gk [.ptr (.sl []),.ptr (.int .i64 128)]=some []:=rfl;have hc:=wc;rw[e_aw 1 _ _ rfl rfl];simp only[mR,eb];by_cases hz:x=[]
 · subst hz
   simp only[am];simp(disch:=first|exact yo|fail) only[go_sem,X_aw,c_aw,hs,hit,hc]
 · simp only[ah hz]
   simp(disch:=first|exact yo|fail) only[go_sem,X_aw,c_aw,hs,hit,hc]
theorem sn {sg:Bool} (x:List UInt8) (L:List Int) (hf:∀ v∈L,inI v) (hl:L.length≤20000) (hx:x.length≤100000):
   ∃ x':List UInt8,(L≠[]→x'≠[])∧(x≠[]→x'≠[])∧x'.length≤x.length+11*L.length∧evL cfg n_aw 1 [.ref 0 7 0,.ref 0 6 0,.ref 0 3 0] (mR sg x L)=some (.d (.tup []),mR sg x' []):=by
 by_cases hL:L=[]
 · subst hL
   exact⟨x,fun h=>absurd rfl h,id,by omega,avq x⟩
 · obtain⟨x',h1,h2,h3⟩:=avr (sg:=sg) x L hL hf hl hx
   exact⟨x',fun _=>h1,fun _=>h1,h2,h3⟩
abbrev reE (l:List Int) (i:Nat):List (Nat×V):=[(0,.d (i64s l)),(3,.ref 0 3 0),(6,.ref 0 6 0),(7,.ref 0 7 0),(8,.clo n_aw [] [.ref 0 7 0,.ref 0 6 0,.ref 0 3 0]),(9,.d (.int .i64 ((i:Int))))]
theorem re_in {sg:Bool} {l:List Int} (hf:∀ v∈l,inI v) (hl:l.length≤5000) (s:Int) (K:List Kf):∀ (k n i:Nat) (x:List UInt8),n≤k→i+n≤l.length→x.length≤12*i→
  ∃ (i' n':Nat) (x':List UInt8),i≤i'∧i'≤l.length∧(3≤n→i<i'∧x'≠[])∧(x≠[]→x'≠[])∧x'.length≤12*i'∧
    go X_ac (.c (.loop xc):: .b 3::K) ⟨reE l i++[(10,.d (.int .i64 ((n:Int)))),(11,.d (.int .i64 (s)))],mR sg x []⟩=go X_ac K ⟨reE l i'++[(10,.d (.int .i64 ((n':Int)))),(11,.d (.int .i64 (s))),(50,.d (.bool (false)))],mR sg x' []⟩
 | k,n,i,x,hk,hi,hx=>by
  by_cases h3:n<3
  · have d_a:decide ((n:Int)≥3)=false:=by simp<;>omega
    refine⟨i,n,x,y7 _,by omega,fun h=>by omega,id,by omega,?_⟩
    rw[go_loop];simp only[mR,eb];by_cases hz:x=[]
    · subst hz
      simp(disch:=first|exact yo|fail) only[go_sem,X_ac,reE,i64s,d_a,am,List.cons_append,List.nil_append]
    · rw[ah hz]
      simp(disch:=first|exact yo|fail) only[go_sem,X_ac,reE,i64s,d_a,List.cons_append,List.nil_append]
  · cases k with
    |zero=>omega
    |succ k=>
    have d_a:decide ((n:Int)≥3)=true:=by simp<;>omega
    obtain⟨v,hv⟩:∃ v,l[i]? =some v:=⟨_,yy yp⟩
    obtain⟨m,hm3,hmn,hmm⟩:∃ m:Nat,3≤m∧m≤n∧(n≤130∧m=n∨130<n∧n<133∧m=n-3∨133≤n∧m=130):=by
      by_cases c1:n≤130
      · exact⟨n,by omega,by omega,.inl ⟨c1,rfl⟩⟩
      · by_cases c2:n<133
        · exact⟨n-3,by omega,by omega,.inr (.inl ⟨by omega,c2,rfl⟩)⟩
        · exact⟨130,by omega,by omega,.inr (.inr ⟨by omega,rfl⟩)⟩
    obtain⟨x1,p1,p2,p3⟩:=xn (b:=x++[wU ((m:Int)-3),wU s]) (by simp;omega) (hf v (List.mem_of_getElem? hv)) sg
    simp only[zo,List.length_cons,List.length_nil] at p2;obtain⟨i',n',x',q1,q2,q3,q4,q5,q6⟩:=re_in (sg:=sg) hf hl s K k (n-m) (i+m) x1 yp yp yp;refine⟨i',n',x',by omega,q2,fun _=>⟨by omega,q4 p1⟩,fun _=>q4 p1,q5,Eq.trans ?_ q6⟩
    have e2:(i:Int)+m=((i+m:Nat):Int):=yp;have e3:(n:Int)-m=((n-m:Nat):Int):=yp;simp only[mR,eb,ah p1];simp only[List.map_append,List.map_cons,List.map_nil] at p3;rcases hmm with⟨c1,rfl⟩|⟨c1,c2,rfl⟩|⟨c1,rfl⟩
    · have e1:min (m:Int) 130=m:=yp
      have e4:(m:Int)-m=0:=yp;rw[go_loop];by_cases hz:x=[]
      · subst hz
        simp only[List.map_nil,List.nil_append] at p3;simp(disch:=first|exact yo|fail) only[go_sem,X_ac,reE,i64s,d_a,e1,e2,e3,hv,p3,wB,am,List.cons_append,List.nil_append,Int.reduceGT,decide_false,gt_iff_lt,Int.reduceLT,Int.sub_self,Nat.sub_self,Int.natCast_zero]
      · rw[ah hz]
        simp(disch:=first|exact yo|fail) only[go_sem,X_ac,reE,i64s,d_a,e1,e2,e3,hv,p3,wB,List.cons_append,List.nil_append,Int.reduceGT,decide_false,gt_iff_lt,Int.reduceLT,Int.sub_self,Nat.sub_self,Int.natCast_zero]
    · have e1:min (n:Int) 130=130:=yp
      have d_d:decide ((n:Int)-130>0)=true:=by simp<;>omega
      have d_f:decide ((n:Int)-130<3)=true:=by simp<;>omega
      have em:(n:Int)-3=((n-3:Nat):Int):=yp;generalize n-3=m at *;rw[go_loop];by_cases hz:x=[]
      · subst hz
        simp only[List.map_nil,List.nil_append] at p3;simp(disch:=first|exact yo|fail) only[go_sem,X_ac,reE,i64s,d_a,e1,e2,e3,em,d_d,d_f,hv,p3,wB,am,List.cons_append,List.nil_append]
      · rw[ah hz]
        simp(disch:=first|exact yo|fail) only[go_sem,X_ac,reE,i64s,d_a,e1,e2,e3,em,d_d,d_f,hv,p3,wB,List.cons_append,List.nil_append]
    · have e1:min (n:Int) 130=130:=yp
      have z:((130:Nat):Int)=130:=rfl;have d_d:decide (((n-130:Nat):Int)>0)=true:=by simp<;>omega
      have d_f:decide (((n-130:Nat):Int)<3)=false:=by simp<;>omega
      have z2:(130:Int)-3=127:=rfl;simp only[z,z2] at p3 e2 e3;rw[go_loop];by_cases hz:x=[]
      · subst hz
        simp only[List.map_nil,List.nil_append] at p3;simp(disch:=first|exact yo|fail) only[go_sem,X_ac,reE,i64s,d_a,e1,e2,e3,d_d,d_f,hv,p3,wB,am,List.cons_append,List.nil_append]
      · rw[ah hz]
        simp(disch:=first|exact yo|fail) only[go_sem,X_ac,reE,i64s,d_a,e1,e2,e3,d_d,d_f,hv,p3,wB,List.cons_append,List.nil_append]
