import Derived.Test.YtmeohcmbohicoaaGreatDoorFtQ
import Derived.Test.YtmeohcmbohicoaaGreatDoorStD
namespace Go.Proofs.YtmeohcmbohicoaaGreatDoor
open Go Go.Ev
set_option maxHeartbeats 8000000
set_option maxRecDepth 10000
structure NdFs (fs:List Fld) (n:Nd):Prop where
 few:fs.length≤4096
 short:∀ f∈fs,f.b.length≤100000
 kind:uM fs 1=n.kind
 kids:gy 2 fs []=(n.kids,0)
 names:(allM fs 3).map (fun f=>f.b)=n.names
 len:uM fs 4=n.len
 prec:uM fs 5=n.prec
 scale:uM fs 6=n.scale
 k0:n.kind≤1000
 k1:∀ k∈n.kids,k≤262144
 k2:n.kids.length≤1000
 k3:n.len≤100000
 k4:n.prec≤1000
 k5:n.scale≤1000
 wt:wt fs≤100000000
def nodF (n:Nd):D:= .agg [.int .i64 (n.kind:Int),intsD n.kids,.sl (n.names.map D.str),.int .i64 (n.len:Int),.int .i64 (n.prec:Int),.int .i64 (n.scale:Int),.int .i64 0,.int .i64 0]
theorem ownIn (acc:List Nat) (k:Nat):ownZ 1 ((acc++[k]).map intN)= .own false 1 (acc.map intN++[.int .i64 (k:Int)]):=by
 rw[List.map_append,List.map_singleton,bt];rfl
theorem ownNm (acc:List (List UInt8)) (k:List UInt8):ownZ 1 ((acc++[k]).map D.str)= .own false 1 (acc.map D.str++[.str k]):=by
 rw[List.map_append,List.map_singleton,bt]
abbrev nB (kind:Nat) (ks ns:V) (a b c:Int):List (Cel×V):=
 [(⟨0,2,0⟩,.d (.int .i64 (0))),(⟨0,2,1⟩,.d .nilS),(⟨0,2,2⟩,.d .nilS),(⟨0,2,3⟩,.d (.int .i64 (0))),(⟨0,2,4⟩,.d (.int .i64 (0))),(⟨0,2,5⟩,.d (.int .i64 (0))),(⟨0,2,6⟩,.d (.int .i64 (0))),(⟨0,2,7⟩,.d (.int .i64 (0))),
  (⟨0,4,0⟩,.d (.int .i64 ((kind:Int)))),(⟨0,4,1⟩,ks),(⟨0,4,2⟩,ns),(⟨0,4,3⟩,.d (.int .i64 (a))),(⟨0,4,4⟩,.d (.int .i64 (b))),(⟨0,4,5⟩,.d (.int .i64 (c))),(⟨0,4,6⟩,.d (.int .i64 (0))),(⟨0,4,7⟩,.d (.int .i64 (0)))]
abbrev nkE (fs:List Fld) (ks:List Nat) (i:Nat):List (Nat×V):=[(0,.d (.sl (fs.map Fld.d))),(2,.ref 0 2 0),(4,.ref 0 4 0),(32,.d (.sl (ks.map uD))),(33,.d (.int .i64 ((ks.length:Int)))),(34,.d (.int .i64 ((i:Int))))]
theorem ae2 (fs:List Fld) (kind:Nat) (ks:List Nat) (hk:∀ k∈ks,k≤262144) (hn:ks.length≤1000) (K:List Kf):∀ (r:List Nat) (i:Nat) (acc:List Nat),ks.drop i=r→i≤ks.length→acc.length≤i→
  go X_ao (.c (.loop akp):: .b 0::K) ⟨nkE fs ks i,nB kind (ownZ 1 (acc.map intN)) (.d .nilS) 0 0 0⟩=
   go X_ao K ⟨nkE fs ks ks.length++[(35,.d (.bool (false)))],nB kind (ownZ 1 ((acc++r).map intN)) (.d .nilS) 0 0 0⟩
 | [],i,acc,hr,hi,ha=>by
  have:=br hr;have:i=ks.length:=vn;subst this;have d_a:decide ((ks.length:Int)<ks.length)=false:=by simp<;>omega
  rw[go_loop,List.append_nil];simp only[List.cons_append,List.nil_append];simp(disch:=first|exact vm|fail) only[go_sem,X_ao,d_a,ab]
 | k::r,i,acc,hr,hi,ha=>by
  obtain⟨h1,h2,h3⟩:=cc hr;have ih:=ae2 fs kind ks hk hn K r (i+1) (acc++[k]) h3 h1 (by simp;omega)
  have hkk:=hk k (List.mem_of_getElem? h2);unfold nkE nB at ih ⊢;rw[wh,List.singleton_append,ownIn,show(((i+1:Nat)):Int)=(i:Int)+1 by omega] at ih
  have d_a:decide ((i:Int)<ks.length)=true:=by simp<;>omega
  have d_b:decide ((k:Int)>262144)=false:=by simp<;>omega
  rw[← ih,go_loop];cases acc with
  |nil=>simp(disch:=first|exact vm|fail) only[go_sem,X_ao,d_a,d_b,ab,h2,v6,Option.map_some,uD,su,List.map_nil,af,List.nil_append]
  | cons y acc=>
   simp only[List.length_cons] at ha;rw[List.map_cons];generalize intN y=w;simp(disch:=first|exact vm|fail) only[go_sem,X_ao,d_a,d_b,ab,h2,v6,Option.map_some,uD,su,ak,vu,List.cons_append]
abbrev nnE (fs:List Fld) (ns:List Fld) (i:Nat):List (Nat×V):=[(0,.d (.sl (fs.map Fld.d))),(2,.ref 0 2 0),(4,.ref 0 4 0),(50,.d (.sl (ns.map bD))),(51,.d (.int .i64 ((ns.length:Int)))),(52,.d (.int .i64 ((i:Int))))]
theorem rm (fs:List Fld) (kind:Nat) (ks:V) (hks:ks.home 0=ks) (ns:List Fld) (hn:ns.length≤4096) (hb:∀ f∈ns,f.b.length≤100000) (K:List Kf):∀ (r:List Fld) (i:Nat) (acc:List (List UInt8)),ns.drop i=r→i≤ns.length→acc.length≤i→
  go X_ao (.c (.loop ako):: .b 2::K) ⟨nnE fs ns i,nB kind ks (ownZ 1 (acc.map D.str)) 0 0 0⟩=
   go X_ao K ⟨nnE fs ns ns.length++[(53,.d (.bool (false)))],nB kind ks (ownZ 1 ((acc++r.map fun f=>f.b).map D.str)) 0 0 0⟩
 | [],i,acc,hr,hi,ha=>by
  have:=br hr;have:i=ns.length:=vn;subst this;have d_a:decide ((ns.length:Int)<ns.length)=false:=by simp<;>omega
  rw[go_loop,List.map_nil,List.append_nil];simp only[List.cons_append,List.nil_append];simp(disch:=first|exact vm|fail) only[go_sem,X_ao,d_a,ab,hks]
 | f::r,i,acc,hr,hi,ha=>by
  obtain⟨h1,h2,h3⟩:=cc hr;have ih:=rm fs kind ks hks ns hn hb K r (i+1) (acc++[f.b]) h3 h1 (by simp;omega)
  unfold nnE nB at ih ⊢;rw[wh,List.singleton_append,ownNm,show(((i+1:Nat)):Int)=(i:Int)+1 by omega] at ih
  have d_a:decide ((i:Int)<ns.length)=true:=by simp<;>omega
  rw[List.map_cons,← ih,go_loop];cases acc with
  |nil=>simp(disch:=first|exact vm|fail) only[go_sem,X_ao,d_a,ab,hks,h2,v6,Option.map_some,bD,List.map_nil,af,List.nil_append]
  | cons y acc=>
   simp only[List.length_cons] at ha;rw[List.map_cons];generalize D.str y=w;simp(disch:=first|exact vm|fail) only[go_sem,X_ao,d_a,ab,hks,h2,v6,Option.map_some,bD,ak,vu,List.cons_append]
theorem bx (z:Nat) (l:List D):(ownZ z l).home 0=ownZ z l:=by cases l<;>rfl
theorem pg {α:Type} (z:Nat) (l:List α) (f:α→D):ownZ z (l.map f)= .d .nilS∧l=[]∨ownZ z (l.map f)= .own false z (l.map f):=by
 cases l with
 |nil=>exact .inl ⟨rfl,rfl⟩
 |cons _ _=>exact .inr rfl
theorem ae1 (fs:List Fld) (kind:Nat) (ks:List Nat) (ns:List (List UInt8)) (a b c:Nat) (ha:a≤100000) (hb:b≤1000) (hc:c≤1000)
  (n4:evL cfg n_bo 0 [.d (.sl (fs.map Fld.d)),.d (.int .i64 (4))] []=some (.d (.tup [.int .i64 (a:Int),.bool true]),[]))
  (n5:evL cfg n_bo 0 [.d (.sl (fs.map Fld.d)),.d (.int .i64 (5))] []=some (.d (.tup [.int .i64 (b:Int),.bool true]),[]))
  (n6:evL cfg n_bo 0 [.d (.sl (fs.map Fld.d)),.d (.int .i64 (6))] []=some (.d (.tup [.int .i64 (c:Int),.bool true]),[])) (x y z w:D):
  go X_ao [.c ((ag8.seq (.block 4 akn.loop)).seq (ag2.seq .ret))] ⟨[(0,.d (.sl (fs.map Fld.d))),(2,.ref 0 2 0),(4,.ref 0 4 0),(50,.d x),(51,.d y),(52,.d z),(53,.d w)],nB kind (ownZ 1 (ks.map intN)) (ownZ 1 (ns.map D.str)) 0 0 0⟩=
   some (.d (.tup [.agg [.int .i64 (kind:Int),.sl (ks.map intN),.sl (ns.map D.str),.int .i64 (a:Int),.int .i64 (b:Int),.int .i64 (c:Int),.int .i64 0,.int .i64 0],.int .i64 0]),[]):=by
 have K0:=bx 1 (ks.map intN);have N0:=bx 1 (ns.map D.str);unfold nB;simp(disch:=first|exact vm|fail) only[go_sem,X_ao,K0,N0]
 conv=>lhs;rw[go_loop]
 simp(disch:=first|exact vm|fail) only[go_sem,X_ao,K0,N0,n4,cst3,Int.reduceLT,decide_true]
 conv=>lhs;rw[go_loop]
 simp(disch:=first|exact vm|fail) only[go_sem,X_ao,K0,N0,n5,cst3,Int.reduceLT,decide_true]
 conv=>lhs;rw[go_loop]
 simp(disch:=first|exact vm|fail) only[go_sem,X_ao,K0,N0,n6,cst3,Int.reduceLT,decide_true]
 conv=>lhs;rw[go_loop]
 rcases pg 1 ks intN with⟨e1,rfl⟩|e1<;>rcases pg 1 ns D.str with⟨e2,rfl⟩|e2<;>rw[e1,e2]<;>
 simp(disch:=first|exact vm|fail) only[go_sem,X_ao,cst3,Int.reduceLT,decide_false,List.map_nil,len8]
theorem tp {fs:List Fld} {n:Nd} (h:NdFs fs n):evL cfg n_ao 0 [.d (.sl (fs.map Fld.d))] []=some (.d (.tup [nodF n,.int .i64 0]),[]):=by
 obtain⟨h1,h2,h3,h4,h5,h6,h7,h8,k0,k1,k2,k3,k4,k5,hw⟩:=h;have hb:∀ f∈fs,f.b.length≤1000000:=fun f hf=>by have:=h2 f hf;omega
 have n1:evL cfg n_bo 0 [.d (.sl (fs.map Fld.d)),.d (.int .i64 (1))] []=some (.d (.tup [.int .i64 ((uM fs 1:Nat):Int),.bool true]),[]):=ao fs 1 vn vn;have n4:evL cfg n_bo 0 [.d (.sl (fs.map Fld.d)),.d (.int .i64 (4))] []=some (.d (.tup [.int .i64 ((uM fs 4:Nat):Int),.bool true]),[]):=ao fs 4 vn vn;have n5:evL cfg n_bo 0 [.d (.sl (fs.map Fld.d)),.d (.int .i64 (5))] []=some (.d (.tup [.int .i64 ((uM fs 5:Nat):Int),.bool true]),[]):=ao fs 5 vn vn;have n6:evL cfg n_bo 0 [.d (.sl (fs.map Fld.d)),.d (.int .i64 (6))] []=some (.d (.tup [.int .i64 ((uM fs 6:Nat):Int),.bool true]),[]):=ao fs 6 vn vn;have u2:evL cfg n_a9 0 [.d (.sl (fs.map Fld.d)),.d (.int .i64 (2))] []=some (ut (gy 2 fs []),[]):=aep fs 2 vn hb hw;have a3:evL cfg n_bv 0 [.d (.sl (fs.map Fld.d)),.d (.int .i64 (3))] []=some (ownZ 1 ((allM fs 3).map bD),[]):=avz fs 3 vn hb;have hall:(allM fs 3).length≤4096:=xo (List.length_filter_le _ _) h1;have hab:∀ f∈allM fs 3,f.b.length≤100000:=fun f hf=>h2 f (yi.1 hf).1
 rw[h4] at u2;unfold ut at u2;dsimp only at u2;rw[h3] at n1;rw[h6] at n4;rw[h7] at n5;rw[h8] at n6;have lk:=fun K=>ae2 fs n.kind n.kids k1 k2 K n.kids 0 [] rfl (ww _) (ww _)
 have ln:=fun K=>rm fs n.kind (ownZ 1 (n.kids.map intN)) (bx _ _) (allM fs 3) hall hab K (allM fs 3) 0 [] rfl (ww _) (ww _)
 rw[List.nil_append,h5] at ln;rw[o_ao];unfold nodF intsD;generalize allM fs 3=gs at *;simp only[List.map_nil,af,List.nil_append,List.cons_append] at lk ln;rw[show((0:Nat):Int)=0 from rfl] at*
 simp(disch:=first|exact vm|fail) only[go_sem,X_ao,c_ao,n1,u2,vu]
 refine(lk _).trans ?_;have hKh:(ownZ 1 (n.kids.map intN)).home 0=ownZ 1 (n.kids.map intN):=bx _ _;rcases pg 1 gs bD with⟨e,rfl⟩|e
 · rw[e] at a3
   simp only[List.map_nil] at ln;simp(disch:=first|exact vm|fail) only[go_sem,X_ao,a3,bx,List.length_nil]
   refine(ln _).trans ?_;exact ae1 fs n.kind n.kids n.names n.len n.prec n.scale k3 k4 k5 n4 n5 n6 _ _ _ _
 · rw[e] at a3
   simp(disch:=first|exact vm|fail) only[go_sem,X_ao,a3,bx,vu]
   refine(ln _).trans ?_;exact ae1 fs n.kind n.kids n.names n.len n.prec n.scale k3 k4 k5 n4 n5 n6 _ _ _ _
