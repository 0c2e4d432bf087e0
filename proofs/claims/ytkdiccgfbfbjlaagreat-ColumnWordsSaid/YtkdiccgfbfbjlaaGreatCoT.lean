import Derived.Test.YtkdiccgfbfbjlaaGreatCoR
import Derived.KernelRfl
namespace Go.Proofs.YtkdiccgfbfbjlaaGreat
open Go Go.Ev
set_option maxHeartbeats 4000000
set_option maxRecDepth 100000
abbrev fiE (t:List Int) (b x:List UInt8) (f i:Nat):List (Nat×V):=[(0,.own false 1 (t.map (D.int .i64))),(1,.d (.sl ((b).map byteD))),(5,ownB x),(6,.d (.int .i64 ((f:Int)))),(7,.d (.int .i64 ((i:Int))))]
theorem setI (t:List Int) (j:Nat) (z:Int):(t.map (D.int .i64)).set j (.int .i64 z)=(t.set j z).map (D.int .i64):=by rw[List.map_set]
theorem aki (k:IntKind) (n z:Int):(D.int k n).setAt 0 [.int .i64 z]=some (.int .i64 z):=rfl
theorem fi_in (t:List Int) (b x:List UInt8) (hb:b.length≤70000) (f i o:Nat) (ho:o<i) (K:List Kf):∀ (k n:Nat),b.length-n≤k→4≤n→i+n≤b.length→
  ∃ n':Nat,4≤n'∧i+n'≤b.length∧go X_ba (.c (.loop w9):: .b 2::K) ⟨fiE t b x f i++[(9,.d (.int .i64 ((o:Int)))),(10,.d (.int .i64 ((n:Int))))],[]⟩=go X_ba K ⟨fiE t b x f i++[(9,.d (.int .i64 ((o:Int)))),(10,.d (.int .i64 ((n':Int)))),(72,.d (.bool (false)))],[]⟩
 | k,n,hk,hn,hin=>by
  have e1:(i:Int)+n=((i+n:Nat):Int):=yp;have e2:(o:Int)+n=((o+n:Nat):Int):=yp;by_cases c1:i+n<b.length
  · have d_a:decide (((i+n:Nat):Int)<b.length)=true:=by simp<;>omega
    obtain⟨u,hu⟩:∃ u,b[i+n]? =some u:=⟨_,yy c1⟩
    obtain⟨v,hv⟩:∃ v,b[o+n]? =some v:=⟨_,yy yp⟩
    have eu:=ce u;have ev:=ce v;cases c2:((v.toNat:Int)==(u.toNat:Int)) with
    | true=>
     cases k with
     |zero=>omega
     |succ k=>
     obtain⟨n',q1,q2,q3⟩:=fi_in t b x hb f i o ho K k (n+1) yp yp yp;have ez:((n+1:Nat):Int)=(n:Int)+1:=yp;refine⟨n',q1,q2,Eq.trans ?_ q3⟩;rw[go_loop];simp(disch:=first|exact yo|fail) only[go_sem,X_ba,fiE,d_a,e1,e2,c2,hu,hv,eu,ev,iq,List.cons_append,List.nil_append,yz,ez]
    | false=>
     refine⟨n,hn,hin,?_⟩;rw[go_loop];simp(disch:=first|exact yo|fail) only[go_sem,X_ba,fiE,d_a,e1,e2,c2,hu,hv,eu,ev,iq,List.cons_append,List.nil_append,yz]
  · have d_a:decide (((i+n:Nat):Int)<b.length)=false:=by simp<;>omega
    refine⟨n,hn,hin,?_⟩;rw[go_loop];simp(disch:=first|exact yo|fail) only[go_sem,X_ba,fiE,d_a,e1,iq,List.cons_append,List.nil_append,yz]
theorem a3u (b:List UInt8) (hb:b.length≤70000):∀ (k i f:Nat) (x:List UInt8) (t:List Int),b.length-i≤k→f≤i→i≤b.length→t.length=4096→(∀ v∈t,-1≤v∧v<i)→x.length≤3*f→
  ∃ x':List UInt8,x'≠[]∧x'.length≤3*b.length+1∧go X_ba [.c (.loop w8),.b 0,.c (.seq u2 .ret)] ⟨fiE t b x f i,[]⟩=some (.own false 1 (x'.map byteD),[])
 | k,i,f,x,t,hk,hfi,hi,ht,hv,hx=>by
  have et:List.take b.length (b.map byteD)=b.map byteD:=aaz yt;have e4:(i:Int)+4=((i+4:Nat):Int):=yp;by_cases hlt:i+4≤b.length
  · cases k with
    |zero=>omega
    |succ k=>
    have d_a:decide (((i+4:Nat):Int)≤b.length)=true:=by simp<;>omega
    have hd:(b.drop i).length=b.length-i:=aat;obtain⟨h,h1,hh⟩:=hash_ans (q:=b.drop i) yp;simp only[List.map_drop] at hh;obtain⟨v,hv0⟩:∃ v,t[h]? =some v:=⟨_,yy yp⟩
    obtain⟨v1,v2⟩:=hv v (List.mem_of_getElem? hv0);have ht':(t.set h (i:Int)).length=4096:=by rw[List.length_set];exact ht
    have hlh:h<t.length:=yp;have hv':∀ j:Nat,i<j→∀ z∈t.set h (i:Int),-1≤z∧z<j:=fun j hj z hz=>by
      rcases aap hz with hz|rfl
      · have:=hv z hz;omega
      · omega
    have next:=a3u b hb k (i+1) f x (t.set h (i:Int)) yp yp yp ht' (hv' _ yp) hx
    have ez:((i+1:Nat):Int)=(i:Int)+1:=yp;by_cases c0:v<0
    · have d_c:decide (v<0)=true:=by simp<;>omega
      obtain⟨x',q1,q2,q3⟩:=next
      refine⟨x',q1,q2,Eq.trans ?_ q3⟩;rw[go_loop];simp(disch:=first|exact yo|fail) only[go_sem,X_ba,fiE,d_a,d_c,e4,et,hh,hv0,setI,aki,iq,yz,ez]
    · have d_c:decide (v<0)=false:=by simp<;>omega
      obtain⟨o,rfl⟩:∃ o:Nat,v=(o:Int):=⟨v.toNat,by omega⟩
      have eo:(i:Int)-o=((i-o:Nat):Int):=yp;rcases y9 (decide (((i-o:Nat):Int)>65535)) with d_f|d_f<;>have p_f:=d_f<;>simp only[zh,zb,zt,zi,ne_eq] at p_f
      · obtain⟨x',q1,q2,q3⟩:=next
        refine⟨x',q1,q2,Eq.trans ?_ q3⟩;rw[go_loop];simp(disch:=first|exact yo|fail) only[go_sem,X_ba,fiE,d_a,d_c,d_f,e4,et,hh,hv0,eo,setI,aki,iq,yz,ez]
      · have eo4:(o:Int)+4=((o+4:Nat):Int):=yp
        obtain⟨cq,hq⟩:=a39 (p:=(b.take (o+4)).drop o) (q:=(b.take (i+4)).drop i) (by simp;omega) (by simp;omega)
        simp only[List.map_drop,List.map_take] at hq;cases cq with
        | false=>
         obtain⟨x',q1,q2,q3⟩:=next
         refine⟨x',q1,q2,Eq.trans ?_ q3⟩;rw[go_loop];simp(disch:=first|exact yo|fail) only[go_sem,X_ba,fiE,d_a,d_c,d_f,e4,eo4,et,hh,hv0,hq,eo,setI,aki,iq,yz,ez]
        | true=>
         obtain⟨n,n1,n2,n3⟩:=fi_in (t.set h (i:Int)) b x hb f i o yp [.c (.seq u5 (.seq u4 u3)),.b 1,.c (.loop w8),.b 0,.c (.seq u2 .ret)] b.length 4 yp (y7 _) hlt;have hp:((b.take i).drop f).length=i-f:=by rw[aat,aao];omega
         obtain⟨x1,p1,p2,p3⟩:=put_copy (x:=x) (q:=(b.take i).drop f) (back:=i-o) (n:=n) n1 yp;rw[hp] at p2;simp only[List.map_drop,List.map_take] at p3;obtain⟨x',q1,q2,q3⟩:=a3u b hb k (i+n) (i+n) x1 (t.set h (i:Int)) yp (y7 _) n2 ht' (hv' _ yp) yp;have en:(i:Int)+n=((i+n:Nat):Int):=yp;have z4:((4:Nat):Int)=4:=rfl;refine⟨x',q1,q2,Eq.trans (Eq.trans ?_ n3) (Eq.trans ?_ q3)⟩
         · rw[go_loop]
           simp(disch:=first|exact yo|fail) only[go_sem,X_ba,fiE,d_a,d_c,d_f,e4,eo4,et,hh,hv0,hq,eo,setI,aki,iq,z4,yz,List.cons_append,List.nil_append]
         · simp only[fiE,ah p1]
           by_cases hz:x=[]
           · subst hz
             rw[am] at p3 ⊢;simp(disch:=first|exact yo|fail) only[go_sem,X_ba,p3,eo,en,yz,List.cons_append,List.nil_append]
           · rw[ah hz] at p3 ⊢
             simp(disch:=first|exact yo|fail) only[go_sem,X_ba,p3,eo,en,yz,List.cons_append,List.nil_append]
  · have d_a:decide (((i+4:Nat):Int)≤b.length)=false:=by simp<;>omega
    have hq:(b.drop f).length=b.length-f:=aat;obtain⟨x',q1,q2,q3⟩:=at9 (x:=x) (q:=b.drop f) yp;simp only[List.map_drop] at q3;refine⟨x',q1,by omega,?_⟩
    rw[go_loop];by_cases hz:x=[]
    · subst hz
      rw[am] at q3;simp(disch:=first|exact yo|fail) only[go_sem,X_ba,fiE,d_a,e4,et,q3,am,yz]
    · rw[ah hz] at q3
      rw[show fiE t b x f i=[(0,.own false 1 (t.map (D.int .i64))),(1,.d (.sl ((b).map byteD))),(5,.own false 1 (x.map byteD)),(6,.d (.int .i64 ((f:Int)))),(7,.d (.int .i64 ((i:Int))))] from by unfold fiE;rw[ah hz]]
      simp(disch:=first|exact yo|fail) only[go_sem,X_ba,d_a,e4,et,q3,yz]
set_option maxRecDepth 100000
theorem table_ok:∃ t:List Int,t.length=4096∧(∀ v∈t,v= -1)∧evL cfg n_dq 0 [] []=some (.own false 1 (t.map (D.int .i64)),[]):=by
 refine⟨List.replicate 4096 (-1),List.length_replicate,fun v hv=>(List.mem_replicate.1 hv).2,?_⟩
 rw[List.map_replicate];refine ap (n:=1) ?_;have hx:cfg.ext n_dq=some xTab:=rfl;simp only[evFn,hx,allD,Option.map_some,Option.bind_some,xTab]
theorem find_ans {b:List UInt8} (hb:b.length≤70000) {t:List Int} (ht:t.length=4096) (hv:∀ v∈t,v= -1):∃ x:List UInt8,x≠[]∧x.length≤3*b.length+1∧evL cfg n_ba 0 [.own false 1 (t.map (D.int .i64)),.d (.sl ((b).map byteD))] []=some (.own false 1 (x.map byteD),[]):=by
 obtain⟨x,h1,h2,h3⟩:=a3u b hb b.length 0 0 [] t yp (y7 _) (aad _) ht (fun v h=>by have:=hv v h;omega) yt
 refine⟨x,h1,h2,Eq.trans ?_ h3⟩;rw[show evL cfg n_ba 0 [.own false 1 (t.map (D.int .i64)),.d (.sl ((b).map byteD))] []=go X_ba [.c c_ba] ⟨[(0,.own false 1 (t.map (D.int .i64))),(1,.d (.sl ((b).map byteD)))],[]⟩ from ag (fn:=i_ba) rfl rfl _ _ _ rfl rfl]
 simp(disch:=first|exact yo|fail) only[go_sem,X_ba,c_ba,fiE,am,Int.natCast_zero]
theorem pack_lz {b:List UInt8} (hb:b.length≤70000):∃ x:List UInt8,x≠[]∧x.length≤3*b.length+1∧evL cfg n_bz 0 [.d (.sl ((b).map byteD))] []=some (.d (.sl ((x).map byteD)),[]):=by
 obtain⟨t,t1,t2,ht⟩:=table_ok;obtain⟨x,h1,h2,h3⟩:=find_ans hb t1 t2;obtain⟨y,g1,g2,g3⟩:=at9 (x:=[]) (q:=b) (by simp;omega)
 rw[am] at g3;simp only[List.length_nil,Nat.zero_add] at g2;have d_a:decide ((b.length:Int)>1048576)=false:=by simp<;>omega
 rw[o_bz];rcases y9 (decide ((y.length:Int)<x.length)) with d_c|d_c<;>have p_c:=d_c<;>simp only[zh,zb,zt,zi,ne_eq] at p_c
 · refine⟨y,g1,by omega,?_⟩
   simp(disch:=first|exact yo|fail) only[go_sem,X_bz,c_bz,ht,h3,g3,d_a,d_c,yz]
 · refine⟨x,h1,h2,?_⟩
   simp(disch:=first|exact yo|fail) only[go_sem,X_bz,c_bz,ht,h3,g3,d_a,d_c,yz]
theorem tk (n:Nat) (c:Bool):∃ p q r:UInt8,evL cfg n_b5 0 [.d (.int .i64 ((n:Int))),.d (.bool (c))] []=some (.d (.sl [byteD p,byteD q,byteD r]),[]):=by
 rw[o_b5];cases c with
 | true=>
  simp(disch:=first|exact yo|fail) only[go_sem,X_b5,c_b5,ff,ba,wB]
  exact⟨_,_,_,rfl⟩
 | false=>
  simp(disch:=first|exact yo|fail) only[go_sem,X_b5,c_b5,ff,ba,wB]
  exact⟨_,_,_,rfl⟩
abbrev cgE (b:List UInt8) (z:Int):List (Nat×V):=[(8,.ref 0 8 0),(31,.clo n_db [] [.d (.ptr (.sl (b.map byteD))),.d (.ptr (.int .i64 z))])]
theorem aji (b:List UInt8) (z:Int) (K:List Kf):∀ (ps:List (List UInt8)) (x:List UInt8),(∀ p∈ps,1≤p.length∧p.length≤65536)→x.length+4*(ps.map List.length).sum≤4000000→
  ∃ x':List UInt8,goE (fx cfg 0 [.t 6,.t 7]) [32] ajq ajp (cgE b z) K (ps.map fun p=>[.sl (p.map byteD)]) [(⟨0,8,0⟩,ownB x)]=go (fx cfg 0 [.t 6,.t 7]) K ⟨cgE b z,[(⟨0,8,0⟩,ownB x')]⟩
 | [],x,hp,hx=>⟨x,rfl⟩
 | p::ps,x,hp,hx=>by
  obtain⟨h1,h2⟩:=hp p yt;rw[List.map_cons,List.sum_cons] at hx;obtain⟨y,y1,y2,y3⟩:=pack_lz (b:=p) yp;rcases y9 (decide ((y.length:Int)≥p.length)) with d_c|d_c<;>have p_c:=d_c<;>simp only[zh,zb,zt,zi,ne_eq] at p_c
  · obtain⟨h0,h3,h4,hh⟩:=tk p.length true
    have hne:x++[h0,h3,h4]++p≠[]:=by simp
    obtain⟨x',q⟩:=aji b z K ps (x++[h0,h3,h4]++p) (fun q hq=>hp q (by simp[hq])) (by simp;omega)
    refine⟨x',Eq.trans ?_ q⟩;rw[List.map_cons,ka];simp only[cgE,ah hne,List.map_append,List.map_cons,List.map_nil];by_cases hz:x=[]
    · subst hz
      rw[am];simp(disch:=first|exact yo|fail) only[go_sem,X_ao,y3,d_c,hh,List.map_nil,List.nil_append,yz]
    · rw[ah hz]
      simp(disch:=first|exact yo|fail) only[go_sem,X_ao,y3,d_c,hh,yz]
  · obtain⟨h0,h3,h4,hh⟩:=tk y.length false
    have hne:x++[h0,h3,h4]++y≠[]:=by simp
    obtain⟨x',q⟩:=aji b z K ps (x++[h0,h3,h4]++y) (fun q hq=>hp q (by simp[hq])) (by simp;omega)
    refine⟨x',Eq.trans ?_ q⟩;rw[List.map_cons,ka];simp only[cgE,ah hne,List.map_append,List.map_cons,List.map_nil];by_cases hz:x=[]
    · subst hz
      rw[am];simp(disch:=first|exact yo|fail) only[go_sem,X_ao,y3,d_c,hh,List.map_nil,List.nil_append,yz]
    · rw[ah hz]
      simp(disch:=first|exact yo|fail) only[go_sem,X_ao,y3,d_c,hh,yz]
theorem aio {c:Int} (h:c=0∨c=4):evL cfg n_ct 0 [.d (.int .i64 (c))] []=some (.d (.bool (true)),[]):=by
 rcases h with rfl|rfl
 · exact ap (n:=5) yr
 · exact ap (n:=5) yr
theorem a4n {b:List UInt8} (hb:b.length≤60000) {c z:Int} (hc:c=0∨c=4) (z1:1≤z) (z2:z≤65536):∃ x:List UInt8,evL cfg n_ao 0 [.d (.sl ((b).map byteD)),.d (.int .i64 (c)),.d (.int .i64 (z))] []=some (.d (.tup [.sl (x.map byteD),.int .i64 0]),[]):=by
 have hk:=aio hc;have d_a:decide (z<1)=false:=by simp<;>omega
 have d_d:decide (z>65536)=false:=by simp<;>omega
 rcases hc with rfl|rfl
 · refine⟨b,?_⟩
   rw[o_ao];by_cases hz:b=[]
   · subst hz
     have hcl:=jv;simp(disch:=first|exact yo|fail) only[go_sem,X_ao,c_ao,hk,d_a,d_d,hcl,Int.reduceBEq,List.map_nil]
   · have hcl:=kf hz yp
     simp(disch:=first|exact yo|fail) only[go_sem,X_ao,c_ao,hk,d_a,d_d,hcl,Int.reduceBEq]
 · obtain⟨ps,h1,h2,h3⟩:=jw byteD z.toNat yp b.length b (y7 _)
   have hs:=ax3 (b.map byteD) (n:=z) yp;have hit:=qn (es:=b.map byteD) (n:=z) yp yp (aec b) (by simp;omega)
   have hi:=it_bytes;rw[yz,h1] at hit;obtain⟨x',q⟩:=aji b z [.b 1,.c (.seq agr .ret)] ps [] (fun p hp=>⟨(h2 p hp).1,by have:=(h2 p hp).2.1;omega⟩) (by simp;omega)
   refine⟨x',?_⟩;simp only[cgE,am] at q;rw[o_ao];simp(disch:=first|exact yo|fail) only[go_sem,X_ao,c_ao,hk,d_a,d_d,hs,hit,hi,Int.reduceBEq]
   refine q.trans ?_;by_cases hz:x'=[]
   · subst hz
     simp(disch:=first|exact yo|fail) only[go_sem,X_ao,am,List.map_nil]
   · rw[ah hz]
     simp(disch:=first|exact yo|fail) only[go_sem,X_ao]
