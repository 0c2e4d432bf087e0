import Derived.Test.YtkdiccgfbfbjlaaGreatCoL
set_option linter.unusedSectionVars false
namespace Go.Proofs.YtkdiccgfbfbjlaaGreat
open Go Go.Ev
variable [Sh]
set_option maxHeartbeats 4000000
set_option maxRecDepth 100000
theorem baz {sg:Bool} (x:List UInt8):evL cfg Ht 1 [.ref 0 7 0,.ref 0 6 0,.ref 0 3 0] (mR sg x [])=some (.d (.tup []),mR sg x []):=by
 have hs:=xn [] (n:=128) abx;have hit:jj [.ptr (.sl []),.ptr (.int .i64 128)]=some []:=rfl;have hc:=aqb;rw[e_bn 1 _ _ rfl rfl];simp only[mR,ep];by_cases hz:x=[]
 · subst hz
   simp only[af];simp(disch:=first|exact abt|fail) only[go_sem,F7,SB,hs,hit,hc]
 · simp only[ac hz]
   simp(disch:=first|exact abt|fail) only[go_sem,F7,SB,hs,hit,hc]
theorem vh {sg:Bool} (x:List UInt8) (L:List Int) (hf:∀ v∈L,inI v) (hl:L.length≤20000) (hx:x.length≤400000):
   ∃ x':List UInt8,(L≠[]→x'≠[])∧(x≠[]→x'≠[])∧x'.length≤x.length+11*L.length∧evL cfg Ht 1 [.ref 0 7 0,.ref 0 6 0,.ref 0 3 0] (mR sg x L)=some (.d (.tup []),mR sg x' []):=by
 by_cases hL:L=[]
 · subst hL
   exact⟨x,fun h=>absurd rfl h,id,by omega,baz x⟩
 · obtain⟨x',h1,h2,h3⟩:=ba0 (sg:=sg) x L hL hf hl hx
   exact⟨x',fun _=>h1,fun _=>h1,h2,h3⟩
abbrev reE (l:List Int) (i:Nat):List (Nat×V):=[(0,.d (AR l)),(3,.ref 0 3 0),(6,.ref 0 6 0),(7,.ref 0 7 0),(8,.clo Ht [] [.ref 0 7 0,.ref 0 6 0,.ref 0 3 0]),(9,.d (.int .i64 ((i:Int))))]
theorem Zr {sg:Bool} {l:List Int} (hf:∀ v∈l,inI v) (hl:l.length≤16384) (s:Int) (K:List Kf):∀ (k n i:Nat) (x:List UInt8),n≤k→i+n≤l.length→x.length≤12*i→
  ∃ (i' n':Nat) (x':List UInt8),i≤i'∧i'≤l.length∧(3≤n→i<i'∧x'≠[])∧(x≠[]→x'≠[])∧x'.length≤12*i'∧
    go DU (.c (.loop aak):: .b 3::K) ⟨reE l i++[(10,.d (.int .i64 ((n:Int)))),(11,.d (.int .i64 (s)))],mR sg x []⟩=go DU K ⟨reE l i'++[(10,.d (.int .i64 ((n':Int)))),(11,.d (.int .i64 (s))),(50,.d (.bool (false)))],mR sg x' []⟩
 | k,n,i,x,hk,hi,hx=>by
  by_cases h3:n<3
  · have d_a:decide ((n:Int)≥3)=false:=by simp<;>omega
    refine⟨i,n,x,ab5 _,by omega,fun h=>by omega,id,by omega,?_⟩
    rw[go_loop];simp only[mR,ep];by_cases hz:x=[]
    · subst hz
      simp(disch:=first|exact abt|fail) only[go_sem,DU,reE,AR,d_a,af,List.cons_append,List.nil_append]
    · rw[ac hz]
      simp(disch:=first|exact abt|fail) only[go_sem,DU,reE,AR,d_a,List.cons_append,List.nil_append]
  · cases k with
    |zero=>omega
    |succ k=>
    have d_a:decide ((n:Int)≥3)=true:=by simp<;>omega
    obtain⟨v,hv⟩:∃ v,l[i]? =some v:=⟨_,ab0 abu⟩
    obtain⟨m,hm3,hmn,hmm⟩:∃ m:Nat,3≤m∧m≤n∧(n≤130∧m=n∨130<n∧n<133∧m=n-3∨133≤n∧m=130):=by
      by_cases c1:n≤130
      · exact⟨n,by omega,by omega,.inl ⟨c1,rfl⟩⟩
      · by_cases c2:n<133
        · exact⟨n-3,by omega,by omega,.inr (.inl ⟨by omega,c2,rfl⟩)⟩
        · exact⟨130,by omega,by omega,.inr (.inr ⟨by omega,rfl⟩)⟩
    obtain⟨x1,p1,p2,p3⟩:=aay (b:=x++[wU ((m:Int)-3),wU s]) (by simp;omega) (hf v (List.mem_of_getElem? hv)) sg
    simp only[aci,List.length_cons,List.length_nil] at p2;obtain⟨i',n',x',q1,q2,q3,q4,q5,q6⟩:=Zr (sg:=sg) hf hl s K k (n-m) (i+m) x1 abu abu abu;refine⟨i',n',x',by omega,q2,fun _=>⟨by omega,q4 p1⟩,fun _=>q4 p1,q5,Eq.trans ?_ q6⟩
    have e2:(i:Int)+m=((i+m:Nat):Int):=abu;have e3:(n:Int)-m=((n-m:Nat):Int):=abu;simp only[mR,ep,ac p1];simp only[List.map_append,List.map_cons,List.map_nil] at p3;rcases hmm with⟨c1,rfl⟩|⟨c1,c2,rfl⟩|⟨c1,rfl⟩
    · have e1:min (m:Int) 130=m:=abu
      have e4:(m:Int)-m=0:=abu;rw[go_loop];by_cases hz:x=[]
      · subst hz
        simp only[List.map_nil,List.nil_append] at p3;simp(disch:=first|exact abt|fail) only[go_sem,DU,reE,AR,d_a,e1,e2,e3,hv,p3,wB,af,List.cons_append,List.nil_append,Int.reduceGT,decide_false,gt_iff_lt,Int.reduceLT,Int.sub_self,Nat.sub_self,Int.natCast_zero]
      · rw[ac hz]
        simp(disch:=first|exact abt|fail) only[go_sem,DU,reE,AR,d_a,e1,e2,e3,hv,p3,wB,List.cons_append,List.nil_append,Int.reduceGT,decide_false,gt_iff_lt,Int.reduceLT,Int.sub_self,Nat.sub_self,Int.natCast_zero]
    · have e1:min (n:Int) 130=130:=abu
      have d_d:decide ((n:Int)-130>0)=true:=by simp<;>omega
      have d_f:decide ((n:Int)-130<3)=true:=by simp<;>omega
      have em:(n:Int)-3=((n-3:Nat):Int):=abu;generalize n-3=m at *;rw[go_loop];by_cases hz:x=[]
      · subst hz
        simp only[List.map_nil,List.nil_append] at p3;simp(disch:=first|exact abt|fail) only[go_sem,DU,reE,AR,d_a,e1,e2,e3,em,d_d,d_f,hv,p3,wB,af,List.cons_append,List.nil_append]
      · rw[ac hz]
        simp(disch:=first|exact abt|fail) only[go_sem,DU,reE,AR,d_a,e1,e2,e3,em,d_d,d_f,hv,p3,wB,List.cons_append,List.nil_append]
    · have e1:min (n:Int) 130=130:=abu
      have z:((130:Nat):Int)=130:=rfl;have d_d:decide (((n-130:Nat):Int)>0)=true:=by simp<;>omega
      have d_f:decide (((n-130:Nat):Int)<3)=false:=by simp<;>omega
      have z2:(130:Int)-3=127:=rfl;simp only[z,z2] at p3 e2 e3;rw[go_loop];by_cases hz:x=[]
      · subst hz
        simp only[List.map_nil,List.nil_append] at p3;simp(disch:=first|exact abt|fail) only[go_sem,DU,reE,AR,d_a,e1,e2,e3,d_d,d_f,hv,p3,wB,af,List.cons_append,List.nil_append]
      · rw[ac hz]
        simp(disch:=first|exact abt|fail) only[go_sem,DU,reE,AR,d_a,e1,e2,e3,d_d,d_f,hv,p3,wB,List.cons_append,List.nil_append]
end Go.Proofs.YtkdiccgfbfbjlaaGreat
namespace Go.Proofs.YtkdiccgfbfbjlaaGreat
open Go Go.Ev
variable [Sh]
set_option maxHeartbeats 4000000
set_option maxRecDepth 100000
theorem cu (n:Nat) (x:List UInt8):(Bw x).A4 n=true:=by cases x<;>rfl
theorem qx (n:Nat) (x:List Int):(Qv x).A4 n=true:=by cases x<;>rfl
theorem sy (x:List Int):(Qv x).home 0=Qv x:=by cases x<;>rfl
theorem bdp {sg:Bool} {l:List Int} (hf:∀ v∈l,inI v) (hl:l.length≤16384):∀ (k i:Nat) (x:List UInt8) (L:List Int) (o:List (Nat×V)),l.length-i≤k→i≤l.length→x.length+11*L.length≤12*i→(∀ v∈L,inI v)→
  (o=[]∨∃ a b,o=[(10,a),(11,b),(50,.d (.bool (false)))])→
  ∃ x':List UInt8,x'.length≤12*l.length∧go DU [.c (.loop aaj),.b 1,.c (.seq yo (.seq yn .ret))] ⟨reE l i++o,mR sg x L⟩=some (.d (.tup [.sl (x'.map AD),.int .i64 0]),[])
 | k,i,x,L,o,hk,hi,hx,hL,ho=>by
  by_cases hlt:i<l.length
  · cases k with
    |zero=>omega
    |succ k=>
    have d_a:decide ((i:Int)<l.length)=true:=by simp<;>omega
    have et:List.take l.length (l.map (D.int .i64))=l.map (D.int .i64):=adw abw;have hd:(l.drop i).length=l.length-i:=ado;obtain⟨n,s,n1,n2,he⟩:=boe (l:=l.drop i) (fun v hv=>hf v (adc hv)) abu abu
    obtain⟨v,hv⟩:∃ v,l[i]? =some v:=⟨_,ab0 hlt⟩
    rw[hd] at n2;simp only[AR,List.map_drop] at he;rcases ab2 (decide ((n:Int)<3)) with d_c|d_c<;>have p_c:=d_c<;>simp only[ab4,ab3,acg,ab6,ne_eq] at p_c
    · obtain⟨x',q1,q2⟩:=bdp (sg:=sg) hf hl k (i+1) x (L++[v]) [] abu abu (by rw[aci,List.length_singleton];omega) (fun u hu=>by
        rcases acz.1 hu with hu|hu
        · exact hL u hu
        · rw[acv] at hu;subst hu;exact hf u (List.mem_of_getElem? hv)) (.inl rfl)
      refine⟨x',q1,Eq.trans ?_ q2⟩;have hxh:(Bw x).home 0=Bw x:=ga x;simp only[mR,yw (show L++[v]≠[] by simp),List.map_append,List.map_cons,List.map_nil,List.append_nil,Int.natCast_add]
      rw[go_loop];by_cases hz:L=[]
      · subst hz
        by_cases hy:x=[]
        · subst hy
          simp only[ep,af];rcases ho with rfl|⟨p,q,rfl⟩<;>simp(disch:=first|exact abt|fail) only[go_sem,DU,reE,AR,d_a,d_c,et,he,hv,Int.natCast_add,aby,List.cons_append,List.nil_append,List.map_nil]
        · simp only[ep,ac hy]
          rcases ho with rfl|⟨p,q,rfl⟩<;>simp(disch:=first|exact abt|fail) only[go_sem,DU,reE,AR,d_a,d_c,et,he,hv,Int.natCast_add,aby,List.cons_append,List.nil_append,List.map_nil]
      · by_cases hy:x=[]
        · subst hy
          simp only[yw hz,af];rcases ho with rfl|⟨p,q,rfl⟩<;>simp(disch:=first|exact abt|fail) only[go_sem,DU,reE,AR,d_a,d_c,et,he,hv,Int.natCast_add,aby,List.cons_append,List.nil_append]
        · simp only[yw hz,ac hy]
          rcases ho with rfl|⟨p,q,rfl⟩<;>simp(disch:=first|exact abt|fail) only[go_sem,DU,reE,AR,d_a,d_c,et,he,hv,Int.natCast_add,aby,List.cons_append,List.nil_append]
    · obtain⟨x1,p1,p2,p3,p4⟩:=vh (sg:=sg) x L hL abu abu
      obtain⟨i',n',x2,r1,r2,r3,r4,r5,r6⟩:=Zr (sg:=sg) hf hl s [.b 2,.c (.loop aaj),.b 1,.c (.seq yo (.seq yn .ret))] n n i x1 (ab5 _) abu abu;obtain⟨x',q1,q2⟩:=bdp (sg:=sg) hf hl k i' x2 [] [(10,.d (.int .i64 ((n':Int)))),(11,.d (.int .i64 (s))),(50,.d (.bool (false)))] abu r2 (by simp;omega) abw (.inr ⟨_,_,rfl⟩)
      refine⟨x',q1,Eq.trans ?_ (r6.trans (Eq.trans ?_ q2))⟩
      · simp only[mR] at p4 ⊢
        rw[go_loop];rcases ho with rfl|⟨p,q,rfl⟩<;>simp(disch:=first|exact abt|fail) only[go_sem,DU,reE,AR,d_a,d_c,et,he,p4,ga,sy,cu,qx,aby,List.cons_append,List.nil_append]
      · simp(disch:=first|exact abt|fail) only[go_sem,DU,reE,AR,List.cons_append,List.nil_append]
  · have:i=l.length:=abu
    subst this;have d_a:decide ((l.length:Int)<l.length)=false:=by simp<;>omega
    obtain⟨x1,p1,p2,p3,p4⟩:=vh (sg:=sg) x L hL abu abu;refine⟨x1,by omega,?_⟩
    simp only[mR] at p4 ⊢;rw[go_loop];by_cases hz:x1=[]
    · subst hz
      rw[af] at p4;rcases ho with rfl|⟨p,q,rfl⟩<;>simp(disch:=first|exact abt|fail) only[go_sem,DU,reE,AR,d_a,p4,ga,sy,cu,qx,ep,aby,List.cons_append,List.nil_append,List.map_nil]
    · rw[ac hz] at p4
      rcases ho with rfl|⟨p,q,rfl⟩<;>simp(disch:=first|exact abt|fail) only[go_sem,DU,reE,AR,d_a,p4,ga,sy,cu,qx,ep,aby,List.cons_append,List.nil_append]
theorem VO {sg:Bool} {l:List Int} (h:DI sg l) (hl:l.length≤16384):∃ x:List UInt8,x.length≤12*l.length∧evL cfg Rr 0 [.d (AR l),.d (.bool (sg))] []=some (.d (.tup [.sl (x.map AD),.int .i64 0]),[]):=by
 obtain⟨x,h1,h2⟩:=bdp (sg:=sg) (fun v hv=>(h v hv).1) hl l.length 0 [] [] [] abu (aco _) abw abw (.inl rfl)
 refine⟨x,h1,Eq.trans ?_ h2⟩;have d_a:decide ((l.length:Int)>16384)=false:=by simp<;>omega
 rw[o_af];simp only[mR,af,ep,List.append_nil,Int.natCast_zero];cases sg with
 |true=>simp(disch:=first|exact abt|fail) only[go_sem,DU,Vw,reE,AR,d_a,Int.natCast_zero,aby]
 | false=>
  have hc:=p9 G7 (.inr rfl) l (fun v hv=>(h v hv).2 rfl) abu
  unfold AR at hc;simp(disch:=first|exact abt|fail) only[go_sem,DU,Vw,reE,AR,d_a,hc,Int.natCast_zero,aby]
theorem YH {sg:Bool} {l:List Int} (h:DI sg l) (hN:l.length≤16384) {v:Int} (hv:v=1∨v=2):∃ x:List UInt8,x.length≤66*l.length∧evL cfg Pt 0 [.d (AR l),.d (.bool (sg)),.d (.int .i64 (v))] []=some (.d (.tup [.sl (x.map AD),.int .i64 0]),[]):=by
 rcases hv with rfl|rfl
 · obtain⟨x,h1,h2⟩:=VO h abu
   have hb:=ku h abu;have d_a:decide ((l.length:Int)>16384)=false:=by simp<;>omega
   refine⟨x,by omega,?_⟩
   rw[o_bb];unfold AR at *;simp(disch:=first|exact abt|fail) only[go_sem,HU,Vv,hb,d_a,h2,aby]
 · exact VN h hN
end Go.Proofs.YtkdiccgfbfbjlaaGreat
namespace Go.Proofs.YtkdiccgfbfbjlaaGreat
open Go Go.Ev
variable [Sh]
set_option maxHeartbeats 4000000
set_option maxRecDepth 100000
theorem av (n:Nat) (x:List UInt8):(Bw x).home n=Bw x:=by cases x<;>rfl
theorem pb (n:Nat) (x:List UInt8):(Bw x).Co n=Bw x:=by cases x<;>rfl
theorem p5 (l:List UInt8):(l.map AD).all D.AP=true:=by simp[D.AP,br]
abbrev mE (x L:List UInt8):List (Cel×V):=[(⟨0,3,0⟩,Bw x),(⟨0,4,0⟩,Bw L)]
abbrev mF (x L:List UInt8):List (Cel×V):=[(⟨0,3,0⟩,Bw x),(⟨0,4,0⟩,.d (.sl (L.map AD)))]
abbrev bgE (L:List UInt8):List (Nat×V):=[(0,.ref 0 4 0),(1,.ref 0 3 0),(4,.clo Hm [] [.d (.ptr (.sl (L.map AD))),.d (.ptr (.int .i64 128))])]
theorem bns (L:List UInt8) (K:List Kf):∀ (ps:List (List UInt8)) (x:List UInt8),(∀ p∈ps,1≤p.length∧p.length≤128)→x.length+2*(ps.map List.length).sum≤400000→
  ∃ x':List UInt8,(x'≠[]∨ps=[]∧x'=x)∧x'.length≤x.length+2*(ps.map List.length).sum∧goE (fx cfg 1 []) [5] bn2 bn1 (bgE L) K (ps.map fun p=>[.sl (p.map AD)]) (mF x L)=go (fx cfg 1 []) K ⟨bgE L,mF x' L⟩
 | [],x,hp,hx=>⟨x,.inr ⟨rfl,rfl⟩,by omega,rfl⟩
 | p::ps,x,hp,hx=>by
  obtain⟨h1,h2⟩:=hp p abw;rw[List.map_cons,List.sum_cons] at hx;have Ai:x++[wU (256-p.length)]++p≠[]:=by simp
  obtain⟨x',q1,q2,q3⟩:=bns L K ps (x++[wU (256-p.length)]++p) (fun q hq=>hp q (by simp[hq])) (by simp;omega)
  simp only[aci,List.length_singleton] at q2;have hx':x'≠[]:=by
    rcases q1 with q1|⟨_,rfl⟩
    · exact q1
    · exact Ai
  refine⟨x',.inl hx',by rw[List.map_cons,List.sum_cons];omega,Eq.trans ?_ q3⟩
  rw[List.map_cons,ln];simp only[mF,bgE,ac Ai,List.map_append,List.map_cons,List.map_nil];by_cases hz:x=[]
  · subst hz
    rw[af];simp(disch:=first|exact abt|fail) only[go_sem,WN,wB,List.map_nil,List.nil_append]
  · rw[ac hz]
    simp(disch:=first|exact abt|fail) only[go_sem,WN,wB]
theorem wz (x L:List UInt8) (hl:L.length≤20000) (hx:x.length≤100000):
   ∃ x':List UInt8,x'.length≤x.length+2*L.length∧evL cfg RW 1 [.ref 0 4 0,.ref 0 3 0] (mE x L)=some (.d (.tup []),mE x' []):=by
 by_cases hz:L=[]
 · subst hz
   have hs:=rl [] (n:=128) abx;have hit:jj [.ptr (.sl []),.ptr (.int .i64 128)]=some []:=rfl;have hc:=zh;refine⟨x,by omega,?_⟩
   rw[e_c8 1 _ _ rfl rfl];simp only[mE,af];simp(disch:=first|exact abt|fail) only[go_sem,WN,Yy,hs,hit,hc,av,cu,pb]
 obtain⟨ps,h1,h2,h3⟩:=eb AD 128 abu L.length L (ab5 _);have hs:=rl (L.map AD) (n:=128) abx;have hit:=nn (es:=L.map AD) (n:=128) abx abx (p5 L) (by simp;omega)
 have hc:=zh;rw[aby,show(128:Int).toNat=128 from rfl,h1] at hit
 obtain⟨x',q1,q2,q3⟩:=bns L [.b 0,.c bex] ps x (fun p hp=>⟨(h2 p hp).1,(h2 p hp).2.1⟩) abu
 rw[h3] at q2;refine⟨x',q2,?_⟩;simp only[mF,bgE] at q3;simp only[mE,af];rw[e_c8 1 _ _ rfl rfl];rw[ac hz];simp(disch:=first|exact abt|fail) only[go_sem,WN,Yy,hs,hit,hc,av,cu,pb]
 refine q3.trans ?_;simp(disch:=first|exact abt|fail) only[go_sem,WN,av,cu,pb]
end Go.Proofs.YtkdiccgfbfbjlaaGreat
namespace Go.Proofs.YtkdiccgfbfbjlaaGreat
open Go Go.Ev
variable [Sh]
set_option maxHeartbeats 4000000
set_option maxRecDepth 100000
abbrev beE (l:List UInt8) (i:Nat):List (Nat×V):=[(0,.d (.sl ((l).map AD))),(3,.ref 0 3 0),(4,.ref 0 4 0),(5,.clo RW [] [.ref 0 4 0,.ref 0 3 0]),(6,.d (.int .i64 ((i:Int))))]
theorem bF (l x L:List UInt8) (hl:l.length≤16384) (i:Nat) (hi:i<l.length) (K:List Kf):∀ (k n:Nat),l.length-n≤k→1≤n→i+n≤l.length→
  ∃ n':Nat,n≤n'∧i+n'≤l.length∧go EP (.c (.loop baj):: .b 2::K) ⟨beE l i++[(7,.d (.int .i64 ((n:Int))))],mE x L⟩=go EP K ⟨beE l i++[(7,.d (.int .i64 ((n':Int)))),(35,.d (.bool (false)))],mE x L⟩
 | k,n,hk,hn,hin=>by
  have e1:(i:Int)+n=((i+n:Nat):Int):=abu;obtain⟨u,hu⟩:∃ u,l[i]? =some u:=⟨_,ab0 hi⟩
  have eu:=br u;by_cases c1:i+n<l.length
  · have d_a:decide (((i+n:Nat):Int)<l.length)=true:=by simp<;>omega
    rcases ab2 (decide ((n:Int)<130)) with d_c|d_c<;>have p_c:=d_c<;>simp only[ab4,ab3,acg,ab6,ne_eq] at p_c
    · obtain⟨v,hv⟩:∃ v,l[i+n]? =some v:=⟨_,ab0 c1⟩
      have ev:=br v;cases c2:((v.toNat:Int)==(u.toNat:Int)) with
      | true=>
       cases k with
       |zero=>omega
       |succ k=>
       obtain⟨n',q1,q2,q3⟩:=bF l x L hl i hi K k (n+1) abu abu abu;have ez:((n+1:Nat):Int)=(n:Int)+1:=abu;refine⟨n',by omega,q2,Eq.trans ?_ q3⟩
       rw[go_loop];simp(disch:=first|exact abt|fail) only[go_sem,EP,beE,mE,d_a,d_c,e1,c2,hu,hv,eu,ev,av,List.cons_append,List.nil_append,aby,ez]
      | false=>
       refine⟨n,ab5 _,hin,?_⟩;rw[go_loop];simp(disch:=first|exact abt|fail) only[go_sem,EP,beE,mE,d_a,d_c,e1,c2,hu,hv,eu,ev,av,List.cons_append,List.nil_append,aby]
    · refine⟨n,ab5 _,hin,?_⟩
      rw[go_loop];simp(disch:=first|exact abt|fail) only[go_sem,EP,beE,mE,d_a,d_c,e1,av,List.cons_append,List.nil_append,aby]
  · have d_a:decide (((i+n:Nat):Int)<l.length)=false:=by simp<;>omega
    refine⟨n,ab5 _,hin,?_⟩;rw[go_loop];simp(disch:=first|exact abt|fail) only[go_sem,EP,beE,mE,d_a,e1,av,List.cons_append,List.nil_append,aby]
theorem bnt (l:List UInt8) (hl:l.length≤16384):∀ (k i:Nat) (x L:List UInt8),l.length-i≤k→i≤l.length→x.length+2*L.length≤2*i→
  ∃ x':List UInt8,x'.length≤2*l.length∧go EP [.c (.loop aai),.b 0,.c (.seq yh (.seq yg .ret))] ⟨beE l i,mE x L⟩=some (Bw x',[])
 | k,i,x,L,hk,hi,hx=>by
  by_cases hlt:i<l.length
  · cases k with
    |zero=>omega
    |succ k=>
    have d_a:decide ((i:Int)<l.length)=true:=by simp<;>omega
    have z1:((1:Nat):Int)=1:=rfl;obtain⟨v,hv⟩:∃ v,l[i]? =some v:=⟨_,ab0 hlt⟩
    obtain⟨n,n1,n2,hin⟩:=bF l x L hl i hlt [.c (.seq (.seq a6p (.cond (.t 39) (.seq yl yk) yj)) yi),.b 1,.c (.loop aai),.b 0,.c (.seq yh (.seq yg .ret))] l.length 1 abu (ab5 _) abu;have e1:(i:Int)+n=((i+n:Nat):Int):=abu;rcases ab2 (decide ((n:Int)≥3)) with d_c|d_c<;>have p_c:=d_c<;>simp only[ab4,ab3,acg,ab6,ne_eq] at p_c
    · obtain⟨x1,p1,p2⟩:=wz x L abu abu
      obtain⟨x',q1,q2⟩:=bnt l hl k (i+n) (x1++[wU ((n:Int)-3),v]) [] abu n2 (by simp;omega)
      refine⟨x',q1,Eq.trans (Eq.trans ?_ hin) (Eq.trans ?_ q2)⟩
      · rw[go_loop]
        simp(disch:=first|exact abt|fail) only[go_sem,EP,beE,mE,d_a,av,z1,List.cons_append,List.nil_append,aby]
      · simp only[mE,af,ac (show x1++[wU ((n:Int)-3),v]≠[] by simp),List.map_append,List.map_cons,List.map_nil] at p2 ⊢
        by_cases hz:x1=[]
        · subst hz
          rw[af] at p2;simp(disch:=first|exact abt|fail) only[go_sem,EP,beE,d_c,p2,hv,e1,wB,av,cu,List.cons_append,List.nil_append,List.map_nil]
        · rw[ac hz] at p2
          simp(disch:=first|exact abt|fail) only[go_sem,EP,beE,d_c,p2,hv,e1,wB,av,cu,List.cons_append,List.nil_append]
    · have hp:((l.take (i+n)).drop i).length=n:=by rw[ado,adp];omega
      have hpn:(l.take (i+n)).drop i≠[]:=by intro e;rw[e] at hp;simp at hp;omega
      obtain⟨x',q1,q2⟩:=bnt l hl k (i+n) x (L++(l.take (i+n)).drop i) abu n2 (by rw[aci,hp];omega)
      refine⟨x',q1,Eq.trans (Eq.trans ?_ hin) (Eq.trans ?_ q2)⟩
      · rw[go_loop]
        simp(disch:=first|exact abt|fail) only[go_sem,EP,beE,mE,d_a,av,z1,List.cons_append,List.nil_append,aby]
      · have ha:=arw hpn abu
        simp only[mE,ac (show L++(l.take (i+n)).drop i≠[] by simp[hpn]),List.map_append]
        simp only[List.map_drop,List.map_take] at ha ⊢;by_cases hz:L=[]
        · subst hz
          simp(disch:=first|exact abt|fail) only[go_sem,EP,beE,d_c,e1,ha,af,av,List.cons_append,List.nil_append,List.map_nil,aby]
        · rw[ac hz]
          simp(disch:=first|exact abt|fail) only[go_sem,EP,beE,d_c,e1,av,List.cons_append,List.nil_append,aby,ado,adp]
  · have:i=l.length:=abu
    subst this;have d_a:decide ((l.length:Int)<l.length)=false:=by simp<;>omega
    obtain⟨x1,p1,p2⟩:=wz x L abu abu;refine⟨x1,by omega,?_⟩
    simp only[mE,af] at p2 ⊢;rw[go_loop];by_cases hz:x1=[]
    · subst hz
      rw[af] at p2;simp(disch:=first|exact abt|fail) only[go_sem,EP,beE,d_a,p2,av,cu,af,aby]
    · rw[ac hz] at p2
      rw[ac hz];simp(disch:=first|exact abt|fail) only[go_sem,EP,beE,d_a,p2,av,cu,aby]
theorem aaa {l:List UInt8} (hl:l.length≤16384):∃ x:List UInt8,x.length≤2*l.length∧evL cfg Pu 0 [.d (.sl ((l).map AD))] []=some (Bw x,[]):=by
 obtain⟨x,h1,h2⟩:=bnt l hl l.length 0 [] [] abu (aco _) abw;refine⟨x,h1,Eq.trans ?_ h2⟩;rw[o_ak];simp(disch:=first|exact abt|fail) only[go_sem,EP,ZA,beE,mE,af,Int.natCast_zero]
abbrev cf (l:List Bool):D:= .sl (l.map D.bool)
abbrev fpE (l:List Bool) (x:List UInt8) (i:Nat):List (Nat×V):=[(3,.own false 1 (x.map AD)),(11,.d (cf l)),(12,.d (.int .i64 ((l.length:Int)))),(13,.d (.int .i64 ((i:Int))))]
theorem aqr (l:List Bool) (hl:l.length≤16384):∀ (q:List Bool) (i:Nat) (x:List UInt8),l.drop i=q→i≤l.length→x.length=(l.length+7) / 8→x≠[]∨l=[]→
  ∃ x':List UInt8,x'.length=(l.length+7) / 8∧go SO [.c (.loop bnx),.b 0,.c (.seq bd5 .ret)] ⟨fpE l x i,[]⟩=some (.own false 1 (x'.map AD),[])
 | [],i,x,hq,hi,hx,hx0=>by
  have:=aq hq;have:i=l.length:=abu;subst this;have d_a:decide ((l.length:Int)<l.length)=false:=by simp<;>omega
  refine⟨x,hx,?_⟩;rw[go_loop];simp(disch:=first|exact abt|fail) only[go_sem,SO,fpE,cf,d_a]
 | v::q,i,x,hq,hi,hx,hx0=>by
  obtain⟨h1,h2,h3⟩:=ba hq;have d_a:decide ((i:Int)<l.length)=true:=by simp<;>omega
  have e1:IntKind.i64.wrap (Int.tdiv (i:Int) 8)=((i / 8:Nat):Int):=by
   rw[show(8:Int)=((8:Nat):Int) from rfl,← Int.ofNat_tdiv]
   exact bd abu abu
  have e2:Int.tmod (i:Int) 8=((i % 8:Nat):Int):=by
   rw[show(8:Int)=((8:Nat):Int) from rfl,← Int.ofNat_tmod]
  obtain⟨y,hy⟩:∃ y,x[i / 8]? =some y:=⟨_,ab0 abu⟩
  have ey:=br y;have hlx:i / 8<x.length:=abu;cases v with
  | false=>
   obtain⟨x',q1,q2⟩:=aqr l hl q (i+1) x h3 h1 hx hx0;refine⟨x',q1,Eq.trans ?_ q2⟩;rw[go_loop];simp(disch:=first|exact abt|fail) only[go_sem,SO,fpE,cf,d_a,h2,Int.natCast_add]
  | true=>
   obtain⟨x',q1,q2⟩:=aqr l hl q (i+1) (x.set (i / 8) (oU (y.toNat) (FA .u8 128 ((i % 8:Nat):Int)))) h3 h1 (by rw[List.length_set];exact hx) (by
    rcases hx0 with hx0|hx0
    · left;intro e;have:=congrArg List.length e;rw[List.length_set,List.length_nil] at this;exact hx0 (acw this)
    · exact .inr hx0)
   refine⟨x',q1,Eq.trans ?_ q2⟩;rw[go_loop];simp(disch:=first|exact abt|fail) only[go_sem,SO,fpE,cf,d_a,h2,hy,ey,e1,e2,p6,i6,ax,oB,setB,setL,Int.natCast_add]
theorem akw {l:List Bool} (hl:l.length≤16384):∃ x:List UInt8,x.length≤5000∧evL cfg Po 0 [.d (cf l)] []=some (.d (.sl ((x).map AD)),[]):=by
 obtain⟨x,h1,h2⟩:=aqr l hl l 0 (List.replicate ((l.length+7) / 8) 0) rfl (aco _) abw (by
   by_cases h:l=[]
   · exact .inr h
   · left
     have:=List.length_pos_iff.2 h;intro e;have:=congrArg List.length e;rw[List.length_replicate,List.length_nil] at this;omega)
 have e1:IntKind.i64.wrap (Int.tdiv ((l.length:Int)+7) 8)=(((l.length+7) / 8:Nat):Int):=by
   rw[show(l.length:Int)+7=((l.length+7:Nat):Int) by omega,show(8:Int)=((8:Nat):Int) from rfl,← Int.ofNat_tdiv]
   exact bd abu abu
 have e0:(List.replicate ((l.length+7) / 8) 0).map AD=List.replicate ((l.length+7) / 8) (.int .u8 0):=by rw[List.map_replicate];rfl
 simp only[fpE,e0,Int.natCast_zero] at h2;have hp:evL cfg RL 0 [.d (cf l)] []=some (.own false 1 (x.map AD),[]):=by
   rw[o_cz,← h2];simp(disch:=first|exact abt|fail) only[go_sem,SO,Ys,cf,e1,p6,aby]
 obtain⟨y,g1,g2⟩:=aaa (l:=x) abu;have d_a:decide ((l.length:Int)>16384)=false:=by simp<;>omega
 refine⟨y,by omega,?_⟩
 rw[o_du];by_cases hz:y=[]
 · subst hz
   rw[af] at g2;simp(disch:=first|exact abt|fail) only[go_sem,oD,Vo,cf,d_a,hp,g2,List.map_nil,aby]
 · rw[ac hz] at g2
   simp(disch:=first|exact abt|fail) only[go_sem,oD,Vo,cf,d_a,hp,g2,aby]
