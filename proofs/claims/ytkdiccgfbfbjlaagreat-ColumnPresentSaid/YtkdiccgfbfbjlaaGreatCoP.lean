import Derived.Test.YtkdiccgfbfbjlaaGreatCoM
namespace Go.Proofs.YtkdiccgfbfbjlaaGreat
open Go Go.Ev
set_option maxHeartbeats 4000000
set_option maxRecDepth 100000
theorem b7 (n:Nat) (x:List UInt8):(ownB x).upTo n=true:=by cases x<;>rfl
theorem my (n:Nat) (x:List Int):(ownI x).upTo n=true:=by cases x<;>rfl
theorem ny (x:List Int):(ownI x).home 0=ownI x:=by cases x<;>rfl
theorem ato {sg:Bool} {l:List Int} (hf:∀ v∈l,inI v) (hl:l.length≤5000):∀ (k i:Nat) (x:List UInt8) (L:List Int) (o:List (Nat×V)),l.length-i≤k→i≤l.length→x.length+11*L.length≤12*i→(∀ v∈L,inI v)→
  (o=[]∨∃ a b,o=[(10,a),(11,b),(50,.d (.bool (false)))])→
  ∃ x':List UInt8,x'.length≤12*l.length∧go X_ab [.c (.loop tr),.b 1,.c (.seq si (.seq se .ret))] ⟨reE l i++o,mR sg x L⟩=some (.d (.tup [.sl (x'.map byteD),.int .i64 0]),[])
 | k,i,x,L,o,hk,hi,hx,hL,ho=>by
  by_cases hlt:i<l.length
  · cases k with
    |zero=>omega
    |succ k=>
    have d_a:decide ((i:Int)<l.length)=true:=by simp<;>omega
    have et:List.take l.length (l.map (D.int .i64))=l.map (D.int .i64):=List.take_of_length_le uy;have hd:(l.drop i).length=l.length-i:=wy;obtain⟨n,s,n1,n2,he⟩:=a0j (l:=l.drop i) (fun v hv=>hf v (ws hv)) uw uw
    obtain⟨v,hv⟩:∃ v,l[i]? =some v:=⟨_,u4 hlt⟩
    rw[hd] at n2;simp only[i64s,List.map_drop] at he;rcases vf (decide ((n:Int)<3)) with d_c|d_c<;>have p_c:=d_c<;>simp only[vn,vd,wb,vo,ne_eq] at p_c
    · obtain⟨x',q1,q2⟩:=ato (sg:=sg) hf hl k (i+1) x (L++[v]) [] uw uw (by rw[v9,List.length_singleton];omega) (fun u hu=>by
        rcases w8.1 hu with hu|hu
        · exact hL u hu
        · rw[wx] at hu;subst hu;exact hf u (List.mem_of_getElem? hv)) (.inl rfl)
      refine⟨x',q1,Eq.trans ?_ q2⟩;have hxh:(ownB x).home 0=ownB x:=eq x;simp only[mR,fz (show L++[v]≠[] by simp),List.map_append,List.map_cons,List.map_nil,List.append_nil,Int.natCast_add]
      rw[go_loop];by_cases hz:L=[]
      · subst hz
        by_cases hy:x=[]
        · subst hy
          simp only[bl,af];rcases ho with rfl|⟨p,q,rfl⟩<;>simp(disch:=first|exact uv|fail) only[go_sem,X_ab,reE,i64s,d_a,d_c,et,he,hv,Int.natCast_add,u3,List.cons_append,List.nil_append,List.map_nil]
        · simp only[bl,ae hy]
          rcases ho with rfl|⟨p,q,rfl⟩<;>simp(disch:=first|exact uv|fail) only[go_sem,X_ab,reE,i64s,d_a,d_c,et,he,hv,Int.natCast_add,u3,List.cons_append,List.nil_append,List.map_nil]
      · by_cases hy:x=[]
        · subst hy
          simp only[fz hz,af];rcases ho with rfl|⟨p,q,rfl⟩<;>simp(disch:=first|exact uv|fail) only[go_sem,X_ab,reE,i64s,d_a,d_c,et,he,hv,Int.natCast_add,u3,List.cons_append,List.nil_append]
        · simp only[fz hz,ae hy]
          rcases ho with rfl|⟨p,q,rfl⟩<;>simp(disch:=first|exact uv|fail) only[go_sem,X_ab,reE,i64s,d_a,d_c,et,he,hv,Int.natCast_add,u3,List.cons_append,List.nil_append]
    · obtain⟨x1,p1,p2,p3,p4⟩:=ph (sg:=sg) x L hL uw uw
      obtain⟨i',n',x2,r1,r2,r3,r4,r5,r6⟩:=re_in (sg:=sg) hf hl s [.b 2,.c (.loop tr),.b 1,.c (.seq si (.seq se .ret))] n n i x1 (u9 _) uw uw;obtain⟨x',q1,q2⟩:=ato (sg:=sg) hf hl k i' x2 [] [(10,.d (.int .i64 ((n':Int)))),(11,.d (.int .i64 (s))),(50,.d (.bool (false)))] uw r2 (by simp;omega) uy (.inr ⟨_,_,rfl⟩)
      refine⟨x',q1,Eq.trans ?_ (r6.trans (Eq.trans ?_ q2))⟩
      · simp only[mR] at p4 ⊢
        rw[go_loop];rcases ho with rfl|⟨p,q,rfl⟩<;>simp(disch:=first|exact uv|fail) only[go_sem,X_ab,reE,i64s,d_a,d_c,et,he,p4,eq,ny,b7,my,u3,List.cons_append,List.nil_append]
      · simp(disch:=first|exact uv|fail) only[go_sem,X_ab,reE,i64s,List.cons_append,List.nil_append]
  · have:i=l.length:=uw
    subst this;have d_a:decide ((l.length:Int)<l.length)=false:=by simp<;>omega
    obtain⟨x1,p1,p2,p3,p4⟩:=ph (sg:=sg) x L hL uw uw;refine⟨x1,by omega,?_⟩
    simp only[mR] at p4 ⊢;rw[go_loop];by_cases hz:x1=[]
    · subst hz
      rw[af] at p4;rcases ho with rfl|⟨p,q,rfl⟩<;>simp(disch:=first|exact uv|fail) only[go_sem,X_ab,reE,i64s,d_a,p4,eq,ny,b7,my,bl,u3,List.cons_append,List.nil_append,List.map_nil]
    · rw[ae hz] at p4
      rcases ho with rfl|⟨p,q,rfl⟩<;>simp(disch:=first|exact uv|fail) only[go_sem,X_ab,reE,i64s,d_a,p4,eq,ny,b7,my,bl,u3,List.cons_append,List.nil_append]
theorem enc1_ans {sg:Bool} {l:List Int} (h:Fine sg l) (hl:l.length≤5000):∃ x:List UInt8,x.length≤12*l.length∧evL cfg n_ab 0 [.d (i64s l),.d (.bool (sg))] []=some (.d (.tup [.sl (x.map byteD),.int .i64 0]),[]):=by
 obtain⟨x,h1,h2⟩:=ato (sg:=sg) (fun v hv=>(h v hv).1) hl l.length 0 [] [] [] uw (wq _) uy uy (.inl rfl)
 refine⟨x,h1,Eq.trans ?_ h2⟩;have d_a:decide ((l.length:Int)>16384)=false:=by simp<;>omega
 rw[o_ab];simp only[mR,af,bl,List.append_nil,Int.natCast_zero];cases sg with
 |true=>simp(disch:=first|exact uv|fail) only[go_sem,X_ab,c_ab,reE,i64s,d_a,Int.natCast_zero,u3]
 | false=>
  have hc:=me n_bx (.inr rfl) l (fun v hv=>(h v hv).2 rfl) uw
  unfold i64s at hc;simp(disch:=first|exact uv|fail) only[go_sem,X_ab,c_ab,reE,i64s,d_a,hc,Int.natCast_zero,u3]
theorem enc_ans {sg:Bool} {l:List Int} (h:Fine sg l) (h512:l.length≤512) {v:Int} (hv:v=1∨v=2):∃ x:List UInt8,x.length≤2+64*l.length∧evL cfg n_aq 0 [.d (i64s l),.d (.bool (sg)),.d (.int .i64 (v))] []=some (.d (.tup [.sl (x.map byteD),.int .i64 0]),[]):=by
 rcases hv with rfl|rfl
 · obtain⟨x,h1,h2⟩:=enc1_ans h uw
   have hb:=jf h uw;have d_a:decide ((l.length:Int)>16384)=false:=by simp<;>omega
   refine⟨x,by omega,?_⟩
   rw[o_aq];unfold i64s at *;simp(disch:=first|exact uv|fail) only[go_sem,X_aq,c_aq,hb,d_a,h2,u3]
 · exact enc2_ans h h512
set_option maxRecDepth 100000
theorem ap (n:Nat) (x:List UInt8):(ownB x).home n=ownB x:=by cases x<;>rfl
theorem lm (n:Nat) (x:List UInt8):(ownB x).homeN n=ownB x:=by cases x<;>rfl
theorem l9 (l:List UInt8):(l.map byteD).all D.isCell=true:=by simp[D.isCell,bp]
abbrev mE (x L:List UInt8):List (Cel×V):=[(⟨0,3,0⟩,ownB x),(⟨0,4,0⟩,ownB L)]
abbrev mF (x L:List UInt8):List (Cel×V):=[(⟨0,3,0⟩,ownB x),(⟨0,4,0⟩,.d (.sl (L.map byteD)))]
abbrev bgE (L:List UInt8):List (Nat×V):=[(0,.ref 0 4 0),(1,.ref 0 3 0),(4,.clo n_c9 [] [.d (.ptr (.sl (L.map byteD))),.d (.ptr (.int .i64 128))])]
theorem az2 (L:List UInt8) (K:List Kf):∀ (ps:List (List UInt8)) (x:List UInt8),(∀ p∈ps,1≤p.length∧p.length≤128)→x.length+2*(ps.map List.length).sum≤400000→
  ∃ x':List UInt8,(x'≠[]∨ps=[]∧x'=x)∧x'.length≤x.length+2*(ps.map List.length).sum∧goE (fx cfg 1 []) [5] az8 az7 (bgE L) K (ps.map fun p=>[.sl (p.map byteD)]) (mF x L)=go (fx cfg 1 []) K ⟨bgE L,mF x' L⟩
 | [],x,hp,hx=>⟨x,.inr ⟨rfl,rfl⟩,by omega,rfl⟩
 | p::ps,x,hp,hx=>by
  obtain⟨h1,h2⟩:=hp p uy;rw[List.map_cons,List.sum_cons] at hx;have hne:x++[wU (256-p.length)]++p≠[]:=by simp
  obtain⟨x',q1,q2,q3⟩:=az2 L K ps (x++[wU (256-p.length)]++p) (fun q hq=>hp q (by simp[hq])) (by simp;omega)
  simp only[v9,List.length_singleton] at q2;have hx':x'≠[]:=by
    rcases q1 with q1|⟨_,rfl⟩
    · exact q1
    · exact hne
  refine⟨x',.inl hx',by rw[List.map_cons,List.sum_cons];omega,Eq.trans ?_ q3⟩
  rw[List.map_cons,gw];simp only[mF,bgE,ae hne,List.map_append,List.map_cons,List.map_nil];by_cases hz:x=[]
  · subst hz
    rw[af];simp(disch:=first|exact uv|fail) only[go_sem,X_bp,wB,List.map_nil,List.nil_append]
  · rw[ae hz]
    simp(disch:=first|exact uv|fail) only[go_sem,X_bp,wB]
theorem qp (x L:List UInt8) (hl:L.length≤20000) (hx:x.length≤100000):
   ∃ x':List UInt8,x'.length≤x.length+2*L.length∧evL cfg n_bp 1 [.ref 0 4 0,.ref 0 3 0] (mE x L)=some (.d (.tup []),mE x' []):=by
 by_cases hz:L=[]
 · subst hz
   have hs:=m6 [] (n:=128) uz;have hit:ep [.ptr (.sl []),.ptr (.int .i64 128)]=some []:=rfl;have hc:=s7;refine⟨x,by omega,?_⟩
   rw[e_bp 1 _ _ rfl rfl];simp only[mE,af];simp(disch:=first|exact uv|fail) only[go_sem,X_bp,c_bp,hs,hit,hc,ap,b7,lm]
 obtain⟨ps,h1,h2,h3⟩:=fu byteD 128 uw L.length L (u9 _);have hs:=m6 (L.map byteD) (n:=128) uz;have hit:=kg (es:=L.map byteD) (n:=128) uz uz (l9 L) (by simp;omega)
 have hc:=s7;rw[u3,show(128:Int).toNat=128 from rfl,h1] at hit
 obtain⟨x',q1,q2,q3⟩:=az2 L [.b 0,.c at9] ps x (fun p hp=>⟨(h2 p hp).1,(h2 p hp).2.1⟩) uw
 rw[h3] at q2;refine⟨x',q2,?_⟩;simp only[mF,bgE] at q3;simp only[mE,af];rw[e_bp 1 _ _ rfl rfl];rw[ae hz];simp(disch:=first|exact uv|fail) only[go_sem,X_bp,c_bp,hs,hit,hc,ap,b7,lm]
 refine q3.trans ?_;simp(disch:=first|exact uv|fail) only[go_sem,X_bp,ap,b7,lm]
set_option maxRecDepth 100000
abbrev beE (l:List UInt8) (i:Nat):List (Nat×V):=[(0,.d (.sl ((l).map byteD))),(3,.ref 0 3 0),(4,.ref 0 4 0),(5,.clo n_bp [] [.ref 0 4 0,.ref 0 3 0]),(6,.d (.int .i64 ((i:Int))))]
theorem be_in (l x L:List UInt8) (hl:l.length≤5000) (i:Nat) (hi:i<l.length) (K:List Kf):∀ (k n:Nat),l.length-n≤k→1≤n→i+n≤l.length→
  ∃ n':Nat,n≤n'∧i+n'≤l.length∧go X_af (.c (.loop aqc):: .b 2::K) ⟨beE l i++[(7,.d (.int .i64 ((n:Int))))],mE x L⟩=go X_af K ⟨beE l i++[(7,.d (.int .i64 ((n':Int)))),(35,.d (.bool (false)))],mE x L⟩
 | k,n,hk,hn,hin=>by
  have e1:(i:Int)+n=((i+n:Nat):Int):=uw;obtain⟨u,hu⟩:∃ u,l[i]? =some u:=⟨_,u4 hi⟩
  have eu:=bp u;by_cases c1:i+n<l.length
  · have d_a:decide (((i+n:Nat):Int)<l.length)=true:=by simp<;>omega
    rcases vf (decide ((n:Int)<130)) with d_c|d_c<;>have p_c:=d_c<;>simp only[vn,vd,wb,vo,ne_eq] at p_c
    · obtain⟨v,hv⟩:∃ v,l[i+n]? =some v:=⟨_,u4 c1⟩
      have ev:=bp v;cases c2:((v.toNat:Int)==(u.toNat:Int)) with
      | true=>
       cases k with
       |zero=>omega
       |succ k=>
       obtain⟨n',q1,q2,q3⟩:=be_in l x L hl i hi K k (n+1) uw uw uw;have ez:((n+1:Nat):Int)=(n:Int)+1:=uw;refine⟨n',by omega,q2,Eq.trans ?_ q3⟩
       rw[go_loop];simp(disch:=first|exact uv|fail) only[go_sem,X_af,beE,mE,d_a,d_c,e1,c2,hu,hv,eu,ev,ap,List.cons_append,List.nil_append,u3,ez]
      | false=>
       refine⟨n,u9 _,hin,?_⟩;rw[go_loop];simp(disch:=first|exact uv|fail) only[go_sem,X_af,beE,mE,d_a,d_c,e1,c2,hu,hv,eu,ev,ap,List.cons_append,List.nil_append,u3]
    · refine⟨n,u9 _,hin,?_⟩
      rw[go_loop];simp(disch:=first|exact uv|fail) only[go_sem,X_af,beE,mE,d_a,d_c,e1,ap,List.cons_append,List.nil_append,u3]
  · have d_a:decide (((i+n:Nat):Int)<l.length)=false:=by simp<;>omega
    refine⟨n,u9 _,hin,?_⟩;rw[go_loop];simp(disch:=first|exact uv|fail) only[go_sem,X_af,beE,mE,d_a,e1,ap,List.cons_append,List.nil_append,u3]
theorem az3 (l:List UInt8) (hl:l.length≤5000):∀ (k i:Nat) (x L:List UInt8),l.length-i≤k→i≤l.length→x.length+2*L.length≤2*i→
  ∃ x':List UInt8,x'.length≤2*l.length∧go X_af [.c (.loop tq),.b 0,.c (.seq r9 (.seq r8 .ret))] ⟨beE l i,mE x L⟩=some (ownB x',[])
 | k,i,x,L,hk,hi,hx=>by
  by_cases hlt:i<l.length
  · cases k with
    |zero=>omega
    |succ k=>
    have d_a:decide ((i:Int)<l.length)=true:=by simp<;>omega
    have z1:((1:Nat):Int)=1:=rfl;obtain⟨v,hv⟩:∃ v,l[i]? =some v:=⟨_,u4 hlt⟩
    obtain⟨n,n1,n2,hin⟩:=be_in l x L hl i hlt [.c (.seq (.seq an9 (.cond (.t 39) (.seq sd sc) sb)) sa),.b 1,.c (.loop tq),.b 0,.c (.seq r9 (.seq r8 .ret))] l.length 1 uw (u9 _) uw;have e1:(i:Int)+n=((i+n:Nat):Int):=uw;rcases vf (decide ((n:Int)≥3)) with d_c|d_c<;>have p_c:=d_c<;>simp only[vn,vd,wb,vo,ne_eq] at p_c
    · obtain⟨x1,p1,p2⟩:=qp x L uw uw
      obtain⟨x',q1,q2⟩:=az3 l hl k (i+n) (x1++[wU ((n:Int)-3),v]) [] uw n2 (by simp;omega)
      refine⟨x',q1,Eq.trans (Eq.trans ?_ hin) (Eq.trans ?_ q2)⟩
      · rw[go_loop]
        simp(disch:=first|exact uv|fail) only[go_sem,X_af,beE,mE,d_a,ap,z1,List.cons_append,List.nil_append,u3]
      · simp only[mE,af,ae (show x1++[wU ((n:Int)-3),v]≠[] by simp),List.map_append,List.map_cons,List.map_nil] at p2 ⊢
        by_cases hz:x1=[]
        · subst hz
          rw[af] at p2;simp(disch:=first|exact uv|fail) only[go_sem,X_af,beE,d_c,p2,hv,e1,wB,ap,b7,List.cons_append,List.nil_append,List.map_nil]
        · rw[ae hz] at p2
          simp(disch:=first|exact uv|fail) only[go_sem,X_af,beE,d_c,p2,hv,e1,wB,ap,b7,List.cons_append,List.nil_append]
    · have hp:((l.take (i+n)).drop i).length=n:=by rw[wy,xa];omega
      have hpn:(l.take (i+n)).drop i≠[]:=by intro e;rw[e] at hp;simp at hp;omega
      obtain⟨x',q1,q2⟩:=az3 l hl k (i+n) x (L++(l.take (i+n)).drop i) uw n2 (by rw[v9,hp];omega)
      refine⟨x',q1,Eq.trans (Eq.trans ?_ hin) (Eq.trans ?_ q2)⟩
      · rw[go_loop]
        simp(disch:=first|exact uv|fail) only[go_sem,X_af,beE,mE,d_a,ap,z1,List.cons_append,List.nil_append,u3]
      · have ha:=afc hpn uw
        simp only[mE,ae (show L++(l.take (i+n)).drop i≠[] by simp[hpn]),List.map_append]
        simp only[List.map_drop,List.map_take] at ha ⊢;by_cases hz:L=[]
        · subst hz
          simp(disch:=first|exact uv|fail) only[go_sem,X_af,beE,d_c,e1,ha,af,ap,List.cons_append,List.nil_append,List.map_nil,u3]
        · rw[ae hz]
          simp(disch:=first|exact uv|fail) only[go_sem,X_af,beE,d_c,e1,ap,List.cons_append,List.nil_append,u3,wy,xa]
  · have:i=l.length:=uw
    subst this;have d_a:decide ((l.length:Int)<l.length)=false:=by simp<;>omega
    obtain⟨x1,p1,p2⟩:=qp x L uw uw;refine⟨x1,by omega,?_⟩
    simp only[mE,af] at p2 ⊢;rw[go_loop];by_cases hz:x1=[]
    · subst hz
      rw[af] at p2;simp(disch:=first|exact uv|fail) only[go_sem,X_af,beE,d_a,p2,ap,b7,af,u3]
    · rw[ae hz] at p2
      rw[ae hz];simp(disch:=first|exact uv|fail) only[go_sem,X_af,beE,d_a,p2,ap,b7,u3]
theorem brle_ans {l:List UInt8} (hl:l.length≤5000):∃ x:List UInt8,x.length≤2*l.length∧evL cfg n_af 0 [.d (.sl ((l).map byteD))] []=some (ownB x,[]):=by
 obtain⟨x,h1,h2⟩:=az3 l hl l.length 0 [] [] uw (wq _) uy;refine⟨x,h1,Eq.trans ?_ h2⟩;rw[o_af];simp(disch:=first|exact uv|fail) only[go_sem,X_af,c_af,beE,mE,af,Int.natCast_zero]
abbrev ba (l:List Bool):D:= .sl (l.map D.bool)
abbrev fpE (l:List Bool) (x:List UInt8) (i:Nat):List (Nat×V):=[(3,.own false 1 (x.map byteD)),(11,.d (ba l)),(12,.d (.int .i64 ((l.length:Int)))),(13,.d (.int .i64 ((i:Int))))]
theorem aep (l:List Bool) (hl:l.length≤16384):∀ (q:List Bool) (i:Nat) (x:List UInt8),l.drop i=q→i≤l.length→x.length=(l.length+7) / 8→x≠[]∨l=[]→
  ∃ x':List UInt8,x'.length=(l.length+7) / 8∧go X_bo [.c (.loop az9),.b 0,.c (.seq auc .ret)] ⟨fpE l x i,[]⟩=some (.own false 1 (x'.map byteD),[])
 | [],i,x,hq,hi,hx,hx0=>by
  have:=fe hq;have:i=l.length:=uw;subst this;have d_a:decide ((l.length:Int)<l.length)=false:=by simp<;>omega
  refine⟨x,hx,?_⟩;rw[go_loop];simp(disch:=first|exact uv|fail) only[go_sem,X_bo,fpE,ba,d_a]
 | v::q,i,x,hq,hi,hx,hx0=>by
  obtain⟨h1,h2,h3⟩:=gk hq;have d_a:decide ((i:Int)<l.length)=true:=by simp<;>omega
  have e1:IntKind.i64.wrap (Int.tdiv (i:Int) 8)=((i / 8:Nat):Int):=by
   rw[show(8:Int)=((8:Nat):Int) from rfl,← Int.ofNat_tdiv]
   exact wrap_i64 uw uw
  have e2:Int.tmod (i:Int) 8=((i % 8:Nat):Int):=by
   rw[show(8:Int)=((8:Nat):Int) from rfl,← Int.ofNat_tmod]
  obtain⟨y,hy⟩:∃ y,x[i / 8]? =some y:=⟨_,u4 uw⟩
  have ey:=bp y;have hlx:i / 8<x.length:=uw;cases v with
  | false=>
   obtain⟨x',q1,q2⟩:=aep l hl q (i+1) x h3 h1 hx hx0;refine⟨x',q1,Eq.trans ?_ q2⟩;rw[go_loop];simp(disch:=first|exact uv|fail) only[go_sem,X_bo,fpE,ba,d_a,h2,Int.natCast_add]
  | true=>
   obtain⟨x',q1,q2⟩:=aep l hl q (i+1) (x.set (i / 8) (oU (y.toNat) (shrI .u8 128 ((i % 8:Nat):Int)))) h3 h1 (by rw[List.length_set];exact hx) (by
    rcases hx0 with hx0|hx0
    · left;intro e;have:=congrArg List.length e;rw[List.length_set,List.length_nil] at this;exact hx0 (wd this)
    · exact .inr hx0)
   refine⟨x',q1,Eq.trans ?_ q2⟩;rw[go_loop];simp(disch:=first|exact uv|fail) only[go_sem,X_bo,fpE,ba,d_a,h2,hy,ey,e1,e2,apk,ib_rem,a7,oB,setB,setL,Int.natCast_add]
theorem ayy {l:List Bool} (hl:l.length≤16384):∃ x:List UInt8,x.length≤5000∧evL cfg n_bz 0 [.d (ba l)] []=some (.d (.sl ((x).map byteD)),[]):=by
 obtain⟨x,h1,h2⟩:=aep l hl l 0 (List.replicate ((l.length+7) / 8) 0) rfl (wq _) uy (by
   by_cases h:l=[]
   · exact .inr h
   · left
     have:=xj.2 h;intro e;have:=congrArg List.length e;rw[List.length_replicate,List.length_nil] at this;omega)
 have e1:IntKind.i64.wrap (Int.tdiv ((l.length:Int)+7) 8)=(((l.length+7) / 8:Nat):Int):=by
   rw[show(l.length:Int)+7=((l.length+7:Nat):Int) by omega,show(8:Int)=((8:Nat):Int) from rfl,← Int.ofNat_tdiv]
   exact wrap_i64 uw uw
 have e0:(List.replicate ((l.length+7) / 8) 0).map byteD=List.replicate ((l.length+7) / 8) (.int .u8 0):=by rw[List.map_replicate];rfl
 simp only[fpE,e0,Int.natCast_zero] at h2;have hp:evL cfg n_bo 0 [.d (ba l)] []=some (.own false 1 (x.map byteD),[]):=by
   rw[o_bo,← h2];simp(disch:=first|exact uv|fail) only[go_sem,X_bo,c_bo,ba,e1,apk,u3]
 obtain⟨y,g1,g2⟩:=brle_ans (l:=x) uw;have d_a:decide ((l.length:Int)>16384)=false:=by simp<;>omega
 refine⟨y,by omega,?_⟩
 rw[o_bz];by_cases hz:y=[]
 · subst hz
   rw[af] at g2;simp(disch:=first|exact uv|fail) only[go_sem,X_bz,c_bz,ba,d_a,hp,g2,List.map_nil,u3]
 · rw[ae hz] at g2
   simp(disch:=first|exact uv|fail) only[go_sem,X_bz,c_bz,ba,d_a,hp,g2,u3]
