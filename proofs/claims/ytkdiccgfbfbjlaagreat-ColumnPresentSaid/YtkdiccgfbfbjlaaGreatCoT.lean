import Derived.Test.YtkdiccgfbfbjlaaGreatCoR
import Derived.KernelRfl
namespace Go.Proofs.YtkdiccgfbfbjlaaGreat
open Go Go.Ev
set_option maxHeartbeats 4000000
set_option maxRecDepth 100000
abbrev fiE (t:List Int) (b x:List UInt8) (f i:Nat):List (Nat×V):=[(0,.own false 1 (t.map (D.int .i64))),(1,.d (.sl ((b).map byteD))),(5,ownB x),(6,.d (.int .i64 ((f:Int)))),(7,.d (.int .i64 ((i:Int))))]
theorem setI (t:List Int) (j:Nat) (z:Int):(t.map (D.int .i64)).set j (.int .i64 z)=(t.set j z).map (D.int .i64):=by rw[List.map_set]
theorem pf (k:IntKind) (n z:Int):(D.int k n).setAt 0 [.int .i64 z]=some (.int .i64 z):=rfl
theorem fi_in (t:List Int) (b x:List UInt8) (hb:b.length≤70000) (f i o:Nat) (ho:o<i) (K:List Kf):∀ (k n:Nat),b.length-n≤k→4≤n→i+n≤b.length→
  ∃ n':Nat,4≤n'∧i+n'≤b.length∧go X_ax (.c (.loop tn):: .b 2::K) ⟨fiE t b x f i++[(9,.d (.int .i64 ((o:Int)))),(10,.d (.int .i64 ((n:Int))))],[]⟩=go X_ax K ⟨fiE t b x f i++[(9,.d (.int .i64 ((o:Int)))),(10,.d (.int .i64 ((n':Int)))),(72,.d (.bool (false)))],[]⟩
 | k,n,hk,hn,hin=>by
  have e1:(i:Int)+n=((i+n:Nat):Int):=uw;have e2:(o:Int)+n=((o+n:Nat):Int):=uw;by_cases c1:i+n<b.length
  · have d_a:decide (((i+n:Nat):Int)<b.length)=true:=by simp<;>omega
    obtain⟨u,hu⟩:∃ u,b[i+n]? =some u:=⟨_,u4 c1⟩
    obtain⟨v,hv⟩:∃ v,b[o+n]? =some v:=⟨_,u4 uw⟩
    have eu:=bp u;have ev:=bp v;cases c2:((v.toNat:Int)==(u.toNat:Int)) with
    | true=>
     cases k with
     |zero=>omega
     |succ k=>
     obtain⟨n',q1,q2,q3⟩:=fi_in t b x hb f i o ho K k (n+1) uw uw uw;have ez:((n+1:Nat):Int)=(n:Int)+1:=uw;refine⟨n',q1,q2,Eq.trans ?_ q3⟩;rw[go_loop];simp(disch:=first|exact uv|fail) only[go_sem,X_ax,fiE,d_a,e1,e2,c2,hu,hv,eu,ev,ap,List.cons_append,List.nil_append,u3,ez]
    | false=>
     refine⟨n,hn,hin,?_⟩;rw[go_loop];simp(disch:=first|exact uv|fail) only[go_sem,X_ax,fiE,d_a,e1,e2,c2,hu,hv,eu,ev,ap,List.cons_append,List.nil_append,u3]
  · have d_a:decide (((i+n:Nat):Int)<b.length)=false:=by simp<;>omega
    refine⟨n,hn,hin,?_⟩;rw[go_loop];simp(disch:=first|exact uv|fail) only[go_sem,X_ax,fiE,d_a,e1,ap,List.cons_append,List.nil_append,u3]
theorem ay1 (b:List UInt8) (hb:b.length≤70000):∀ (k i f:Nat) (x:List UInt8) (t:List Int),b.length-i≤k→f≤i→i≤b.length→t.length=4096→(∀ v∈t,-1≤v∧v<i)→x.length≤3*f→
  ∃ x':List UInt8,x'≠[]∧x'.length≤3*b.length+1∧go X_ax [.c (.loop tm),.b 0,.c (.seq rk .ret)] ⟨fiE t b x f i,[]⟩=some (.own false 1 (x'.map byteD),[])
 | k,i,f,x,t,hk,hfi,hi,ht,hv,hx=>by
  have et:List.take b.length (b.map byteD)=b.map byteD:=List.take_of_length_le uy;have e4:(i:Int)+4=((i+4:Nat):Int):=uw;by_cases hlt:i+4≤b.length
  · cases k with
    |zero=>omega
    |succ k=>
    have d_a:decide (((i+4:Nat):Int)≤b.length)=true:=by simp<;>omega
    have hd:(b.drop i).length=b.length-i:=wy;obtain⟨h,h1,hh⟩:=hash_ans (q:=b.drop i) uw;simp only[List.map_drop] at hh;obtain⟨v,hv0⟩:∃ v,t[h]? =some v:=⟨_,u4 uw⟩
    obtain⟨v1,v2⟩:=hv v (List.mem_of_getElem? hv0);have ht':(t.set h (i:Int)).length=4096:=by rw[List.length_set];exact ht
    have hlh:h<t.length:=uw;have hv':∀ j:Nat,i<j→∀ z∈t.set h (i:Int),-1≤z∧z<j:=fun j hj z hz=>by
      rcases ww hz with hz|rfl
      · have:=hv z hz;omega
      · omega
    have next:=ay1 b hb k (i+1) f x (t.set h (i:Int)) uw uw uw ht' (hv' _ uw) hx
    have ez:((i+1:Nat):Int)=(i:Int)+1:=uw;by_cases c0:v<0
    · have d_c:decide (v<0)=true:=by simp<;>omega
      obtain⟨x',q1,q2,q3⟩:=next
      refine⟨x',q1,q2,Eq.trans ?_ q3⟩;rw[go_loop];simp(disch:=first|exact uv|fail) only[go_sem,X_ax,fiE,d_a,d_c,e4,et,hh,hv0,setI,pf,ap,u3,ez]
    · have d_c:decide (v<0)=false:=by simp<;>omega
      obtain⟨o,rfl⟩:∃ o:Nat,v=(o:Int):=⟨v.toNat,by omega⟩
      have eo:(i:Int)-o=((i-o:Nat):Int):=uw;rcases vf (decide (((i-o:Nat):Int)>65535)) with d_f|d_f<;>have p_f:=d_f<;>simp only[vn,vd,wb,vo,ne_eq] at p_f
      · obtain⟨x',q1,q2,q3⟩:=next
        refine⟨x',q1,q2,Eq.trans ?_ q3⟩;rw[go_loop];simp(disch:=first|exact uv|fail) only[go_sem,X_ax,fiE,d_a,d_c,d_f,e4,et,hh,hv0,eo,setI,pf,ap,u3,ez]
      · have eo4:(o:Int)+4=((o+4:Nat):Int):=uw
        obtain⟨cq,hq⟩:=azd (p:=(b.take (o+4)).drop o) (q:=(b.take (i+4)).drop i) (by simp;omega) (by simp;omega)
        simp only[List.map_drop,List.map_take] at hq;cases cq with
        | false=>
         obtain⟨x',q1,q2,q3⟩:=next
         refine⟨x',q1,q2,Eq.trans ?_ q3⟩;rw[go_loop];simp(disch:=first|exact uv|fail) only[go_sem,X_ax,fiE,d_a,d_c,d_f,e4,eo4,et,hh,hv0,hq,eo,setI,pf,ap,u3,ez]
        | true=>
         obtain⟨n,n1,n2,n3⟩:=fi_in (t.set h (i:Int)) b x hb f i o uw [.c (.seq rp (.seq rn rl)),.b 1,.c (.loop tm),.b 0,.c (.seq rk .ret)] b.length 4 uw (u9 _) hlt;have hp:((b.take i).drop f).length=i-f:=by rw[wy,xa];omega
         obtain⟨x1,p1,p2,p3⟩:=put_copy (x:=x) (q:=(b.take i).drop f) (back:=i-o) (n:=n) n1 uw;rw[hp] at p2;simp only[List.map_drop,List.map_take] at p3;obtain⟨x',q1,q2,q3⟩:=ay1 b hb k (i+n) (i+n) x1 (t.set h (i:Int)) uw (u9 _) n2 ht' (hv' _ uw) uw;have en:(i:Int)+n=((i+n:Nat):Int):=uw;have z4:((4:Nat):Int)=4:=rfl;refine⟨x',q1,q2,Eq.trans (Eq.trans ?_ n3) (Eq.trans ?_ q3)⟩
         · rw[go_loop]
           simp(disch:=first|exact uv|fail) only[go_sem,X_ax,fiE,d_a,d_c,d_f,e4,eo4,et,hh,hv0,hq,eo,setI,pf,ap,z4,u3,List.cons_append,List.nil_append]
         · simp only[fiE,ae p1]
           by_cases hz:x=[]
           · subst hz
             rw[af] at p3 ⊢;simp(disch:=first|exact uv|fail) only[go_sem,X_ax,p3,eo,en,u3,List.cons_append,List.nil_append]
           · rw[ae hz] at p3 ⊢
             simp(disch:=first|exact uv|fail) only[go_sem,X_ax,p3,eo,en,u3,List.cons_append,List.nil_append]
  · have d_a:decide (((i+4:Nat):Int)≤b.length)=false:=by simp<;>omega
    have hq:(b.drop f).length=b.length-f:=wy;obtain⟨x',q1,q2,q3⟩:=apf (x:=x) (q:=b.drop f) uw;simp only[List.map_drop] at q3;refine⟨x',q1,by omega,?_⟩
    rw[go_loop];by_cases hz:x=[]
    · subst hz
      rw[af] at q3;simp(disch:=first|exact uv|fail) only[go_sem,X_ax,fiE,d_a,e4,et,q3,af,u3]
    · rw[ae hz] at q3
      rw[show fiE t b x f i=[(0,.own false 1 (t.map (D.int .i64))),(1,.d (.sl ((b).map byteD))),(5,.own false 1 (x.map byteD)),(6,.d (.int .i64 ((f:Int)))),(7,.d (.int .i64 ((i:Int))))] from by unfold fiE;rw[ae hz]]
      simp(disch:=first|exact uv|fail) only[go_sem,X_ax,d_a,e4,et,q3,u3]
set_option maxRecDepth 100000
theorem table_ok:∃ t:List Int,t.length=4096∧(∀ v∈t,v= -1)∧evL cfg n_dg 0 [] []=some (.own false 1 (t.map (D.int .i64)),[]):=by
 refine⟨List.replicate 4096 (-1),List.length_replicate,fun v hv=>(List.mem_replicate.1 hv).2,?_⟩
 rw[List.map_replicate];refine a9 (n:=1) ?_;have hx:cfg.ext n_dg=some xTab:=rfl;simp only[evFn,hx,allD,Option.map_some,Option.bind_some,xTab]
theorem find_ans {b:List UInt8} (hb:b.length≤70000) {t:List Int} (ht:t.length=4096) (hv:∀ v∈t,v= -1):∃ x:List UInt8,x≠[]∧x.length≤3*b.length+1∧evL cfg n_ax 0 [.own false 1 (t.map (D.int .i64)),.d (.sl ((b).map byteD))] []=some (.own false 1 (x.map byteD),[]):=by
 obtain⟨x,h1,h2,h3⟩:=ay1 b hb b.length 0 0 [] t uw (u9 _) (wq _) ht (fun v h=>by have:=hv v h;omega) uy
 refine⟨x,h1,h2,Eq.trans ?_ h3⟩;rw[show evL cfg n_ax 0 [.own false 1 (t.map (D.int .i64)),.d (.sl ((b).map byteD))] []=go X_ax [.c c_ax] ⟨[(0,.own false 1 (t.map (D.int .i64))),(1,.d (.sl ((b).map byteD)))],[]⟩ from ai (fn:=i_ax) rfl rfl _ _ _ rfl rfl]
 simp(disch:=first|exact uv|fail) only[go_sem,X_ax,c_ax,fiE,af,Int.natCast_zero]
theorem pack_lz {b:List UInt8} (hb:b.length≤70000):∃ x:List UInt8,x≠[]∧x.length≤3*b.length+1∧evL cfg n_b4 0 [.d (.sl ((b).map byteD))] []=some (.d (.sl ((x).map byteD)),[]):=by
 obtain⟨t,t1,t2,ht⟩:=table_ok;obtain⟨x,h1,h2,h3⟩:=find_ans hb t1 t2;obtain⟨y,g1,g2,g3⟩:=apf (x:=[]) (q:=b) (by simp;omega)
 rw[af] at g3;simp only[List.length_nil,Nat.zero_add] at g2;have d_a:decide ((b.length:Int)>1048576)=false:=by simp<;>omega
 rw[o_b4];rcases vf (decide ((y.length:Int)<x.length)) with d_c|d_c<;>have p_c:=d_c<;>simp only[vn,vd,wb,vo,ne_eq] at p_c
 · refine⟨y,g1,by omega,?_⟩
   simp(disch:=first|exact uv|fail) only[go_sem,X_b4,c_b4,ht,h3,g3,d_a,d_c,u3]
 · refine⟨x,h1,h2,?_⟩
   simp(disch:=first|exact uv|fail) only[go_sem,X_b4,c_b4,ht,h3,g3,d_a,d_c,u3]
theorem qc (n:Nat) (c:Bool):∃ p q r:UInt8,evL cfg n_b6 0 [.d (.int .i64 ((n:Int))),.d (.bool (c))] []=some (.d (.sl [byteD p,byteD q,byteD r]),[]):=by
 rw[o_b6];cases c with
 | true=>
  simp(disch:=first|exact uv|fail) only[go_sem,X_b6,c_b6,ej,a7,wB]
  exact⟨_,_,_,rfl⟩
 | false=>
  simp(disch:=first|exact uv|fail) only[go_sem,X_b6,c_b6,ej,a7,wB]
  exact⟨_,_,_,rfl⟩
abbrev cgE (b:List UInt8) (z:Int):List (Nat×V):=[(8,.ref 0 8 0),(31,.clo n_c9 [] [.d (.ptr (.sl (b.map byteD))),.d (.ptr (.int .i64 z))])]
theorem ae1 (b:List UInt8) (z:Int) (K:List Kf):∀ (ps:List (List UInt8)) (x:List UInt8),(∀ p∈ps,1≤p.length∧p.length≤65536)→x.length+4*(ps.map List.length).sum≤4000000→
  ∃ x':List UInt8,goE (fx cfg 0 [.t 6,.t 7]) [32] ae7 ae6 (cgE b z) K (ps.map fun p=>[.sl (p.map byteD)]) [(⟨0,8,0⟩,ownB x)]=go (fx cfg 0 [.t 6,.t 7]) K ⟨cgE b z,[(⟨0,8,0⟩,ownB x')]⟩
 | [],x,hp,hx=>⟨x,rfl⟩
 | p::ps,x,hp,hx=>by
  obtain⟨h1,h2⟩:=hp p uy;rw[List.map_cons,List.sum_cons] at hx;obtain⟨y,y1,y2,y3⟩:=pack_lz (b:=p) uw;rcases vf (decide ((y.length:Int)≥p.length)) with d_c|d_c<;>have p_c:=d_c<;>simp only[vn,vd,wb,vo,ne_eq] at p_c
  · obtain⟨h0,h3,h4,hh⟩:=qc p.length true
    have hne:x++[h0,h3,h4]++p≠[]:=by simp
    obtain⟨x',q⟩:=ae1 b z K ps (x++[h0,h3,h4]++p) (fun q hq=>hp q (by simp[hq])) (by simp;omega)
    refine⟨x',Eq.trans ?_ q⟩;rw[List.map_cons,gw];simp only[cgE,ae hne,List.map_append,List.map_cons,List.map_nil];by_cases hz:x=[]
    · subst hz
      rw[af];simp(disch:=first|exact uv|fail) only[go_sem,X_am,y3,d_c,hh,List.map_nil,List.nil_append,u3]
    · rw[ae hz]
      simp(disch:=first|exact uv|fail) only[go_sem,X_am,y3,d_c,hh,u3]
  · obtain⟨h0,h3,h4,hh⟩:=qc y.length false
    have hne:x++[h0,h3,h4]++y≠[]:=by simp
    obtain⟨x',q⟩:=ae1 b z K ps (x++[h0,h3,h4]++y) (fun q hq=>hp q (by simp[hq])) (by simp;omega)
    refine⟨x',Eq.trans ?_ q⟩;rw[List.map_cons,gw];simp only[cgE,ae hne,List.map_append,List.map_cons,List.map_nil];by_cases hz:x=[]
    · subst hz
      rw[af];simp(disch:=first|exact uv|fail) only[go_sem,X_am,y3,d_c,hh,List.map_nil,List.nil_append,u3]
    · rw[ae hz]
      simp(disch:=first|exact uv|fail) only[go_sem,X_am,y3,d_c,hh,u3]
theorem ad8 {c:Int} (h:c=0∨c=4):evL cfg n_cn 0 [.d (.int .i64 (c))] []=some (.d (.bool (true)),[]):=by
 rcases h with rfl|rfl
 · exact a9 (n:=5) ux
 · exact a9 (n:=5) ux
theorem azm {b:List UInt8} (hb:b.length≤60000) {c z:Int} (hc:c=0∨c=4) (z1:1≤z) (z2:z≤65536):∃ x:List UInt8,evL cfg n_am 0 [.d (.sl ((b).map byteD)),.d (.int .i64 (c)),.d (.int .i64 (z))] []=some (.d (.tup [.sl (x.map byteD),.int .i64 0]),[]):=by
 have hk:=ad8 hc;have d_a:decide (z<1)=false:=by simp<;>omega
 have d_d:decide (z>65536)=false:=by simp<;>omega
 rcases hc with rfl|rfl
 · refine⟨b,?_⟩
   rw[o_am];by_cases hz:b=[]
   · subst hz
     have hcl:=ku;simp(disch:=first|exact uv|fail) only[go_sem,X_am,c_am,hk,d_a,d_d,hcl,Int.reduceBEq,List.map_nil]
   · have hcl:=kv hz uw
     simp(disch:=first|exact uv|fail) only[go_sem,X_am,c_am,hk,d_a,d_d,hcl,Int.reduceBEq]
 · obtain⟨ps,h1,h2,h3⟩:=fu byteD z.toNat uw b.length b (u9 _)
   have hs:=m6 (b.map byteD) (n:=z) uw;have hit:=kg (es:=b.map byteD) (n:=z) uw uw (l9 b) (by simp;omega)
   have hi:=s7;rw[u3,h1] at hit;obtain⟨x',q⟩:=ae1 b z [.b 1,.c (.seq acn .ret)] ps [] (fun p hp=>⟨(h2 p hp).1,by have:=(h2 p hp).2.1;omega⟩) (by simp;omega)
   refine⟨x',?_⟩;simp only[cgE,af] at q;rw[o_am];simp(disch:=first|exact uv|fail) only[go_sem,X_am,c_am,hk,d_a,d_d,hs,hit,hi,Int.reduceBEq]
   refine q.trans ?_;by_cases hz:x'=[]
   · subst hz
     simp(disch:=first|exact uv|fail) only[go_sem,X_am,af,List.map_nil]
   · rw[ae hz]
     simp(disch:=first|exact uv|fail) only[go_sem,X_am]
