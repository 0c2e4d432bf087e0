import Derived.Test.YtpnhljhciibfnaaGreatDoorStF
set_option linter.unusedSimpArgs false
namespace Go.Proofs.YtpnhljhciibfnaaGreatDoor
set_option linter.unusedSectionVars false
open Go Go.Ev
set_option maxHeartbeats 4000000
structure Nd where
 kind:Int
 names:List D
 kids:List D
 len:Int
 prec:Int
 scale:Nat
 parent:Int
 deep:Int
def Nd.d (n:Nd):D:= .agg [.int .i64 n.kind,.sl n.names,.sl n.kids,.int .i64 n.len,.int .i64 n.prec,.int .i64 (n.scale:Int),.int .i64 n.parent,.int .i64 n.deep]
def Cl (d k:Nat) (n:Nd):List (Cel×V):=[(⟨d,k,0⟩,.d (.int .i64 (n.kind))),(⟨d,k,1⟩,.d (.sl n.names)),(⟨d,k,2⟩,.d (.sl n.kids)),(⟨d,k,3⟩,.d (.int .i64 (n.len))),(⟨d,k,4⟩,.d (.int .i64 (n.prec))),(⟨d,k,5⟩,.d (.int .i64 ((n.scale:Int)))),(⟨d,k,6⟩,.d (.int .i64 (n.parent))),(⟨d,k,7⟩,.d (.int .i64 (n.deep)))]
def Cc (d k:Nat) (s:Sv):List (Cel×V):=[(⟨d,k,0⟩,.d (.int .i64 (s.cnt))),(⟨d,k,1⟩,.d (.bool (s.null))),(⟨d,k,2⟩,.d (.bool (s.has))),(⟨d,k,3⟩,.d (.bool (s.mn.null))),(⟨d,k,4⟩,.d (.int .i64 (s.mn.i))),(⟨d,k,5⟩,.d (.int .i64 (s.mn.n))),(⟨d,k,6⟩,.d (txt s.mn.b)),(⟨d,k,7⟩,.d (.sl (s.mn.kids.map Va.d))),
 (⟨d,k,8⟩,.d (.bool (s.mx.null))),(⟨d,k,9⟩,.d (.int .i64 (s.mx.i))),(⟨d,k,10⟩,.d (.int .i64 (s.mx.n))),(⟨d,k,11⟩,.d (txt s.mx.b)),(⟨d,k,12⟩,.d (.sl (s.mx.kids.map Va.d))),(⟨d,k,13⟩,.d (.bool (s.AU))),(⟨d,k,14⟩,.d (.int .i64 (s.sum)))]
theorem j9 (n:Nd) (s:Sv):Aok 0 [5,7] (Cl 0 2 n++Cc 0 3 s):=by
 intro p hp;simp only[Cl,Cc,List.cons_append,List.nil_append,abr,ach,or_false] at hp;rcases hp with rfl|rfl|rfl|rfl|rfl|rfl|rfl|rfl|rfl|rfl|rfl|rfl|rfl|rfl|rfl|rfl|rfl|rfl|rfl|rfl|rfl|rfl|rfl<;>exact⟨rfl,by simp,_,rfl⟩
structure Ip (s:Sv):Prop where
 cnt:0≤s.cnt∧s.cnt≤262144
 i1:inI s.mn.i
 i2:inI s.mx.i
 su:inI s.sum
 b1:s.mn.b.length≤5000
 b2:s.mx.b.length≤5000
def A7 (s:Sv):List Put:=if s.has=true then[.u 1 (As s.mn.i),.u 2 (As s.mx.i)] else[]
def CJ (n:Nat) (s:Sv):List Put:=if s.AU=true then[.u n (As s.sum)] else[]
def Ah (k:Int) (sc:Nat) (s:Sv):List Put:=
 if k=2 then A7 s++CJ 3 s
 else if k=4 then(if s.has=true then[.b 1 s.mn.b,.b 2 s.mx.b] else[])++CJ 3 s
 else if k=5 then(if s.AU=true then[.b 1 (Ai 10 s.sum.toNat)] else[])
 else if k=6 then(if s.has=true then[.b 1 (Al s.mn.i sc),.b 2 (Al s.mx.i sc)] else[])++(if s.AU=true then[.b 3 (Al s.sum sc)] else[])
 else if k=7 then A7 s
 else if k=8 then CJ 1 s
 else if k=9 then(if s.has=true then[.u 1 (As s.mn.i),.u 2 (As s.mx.i),.u 3 s.mn.n.toNat,.u 4 s.mx.n.toNat] else[])
 else[]
theorem sk (n m:Nat) (u v:Nat):(AZ n u++AZ m v).length≤40:=by
 rw[abk];have:=(bc n u).2;have:=(bc m v).2;omega
section
variable (n:Nd) (s:Sv) (h:Ip s)
include h
theorem Vl {b:List UInt8} (hb:b.length≤50000):evL cfg TS 1 [.clo H0 [] [.ref 0 5 0],.ref 0 3 0] (mB (Cl 0 2 n++Cc 0 3 s) b)=some (nothing,mB (Cl 0 2 n++Cc 0 3 s) (b++Ae (A7 s))):=by
 have h1:=rn (j9 n s) 1 (b:=b) (num:=1) (v:=s.mn.i) aa1 aa1 aa1 h.i1;have h2:=rn (j9 n s) 1 (b:=b++AZ 1 (As s.mn.i)) (num:=2) (v:=s.mx.i) (by rw[abk];have:=(bc 1 (As s.mn.i)).2;omega) aa1 aa1 h.i2
 have:=xv (j9 n s) 0 H0 5 0 [] rfl (b:=b) (has:=s.has) (p:=s.mn.i) (q:=s.mx.i) rfl rfl rfl rfl (fun _=>h1) (fun _=>h2)
 rw[this];unfold A7;cases s.has<;>simp[Ae,Put.bytes]
theorem bry {b:List UInt8} (num:Nat) (h1:1≤num) (h2:num≤100) (hb:b.length≤50000):evL cfg Rk 1 [.d (.int .i64 ((num:Int))),.clo H0 [] [.ref 0 5 0],.ref 0 3 0] (mB (Cl 0 2 n++Cc 0 3 s) b)=some (nothing,mB (Cl 0 2 n++Cc 0 3 s) (b++Ae (CJ num s))):=by
 have h1:=rn (j9 n s) 1 (b:=b) (num:=num) (v:=s.sum) aa1 h1 aa1 h.su;have:=rk (j9 n s) 0 H0 5 0 [] rfl (num:=num) (b:=b) (AU:=s.AU) (p:=s.sum) rfl rfl rfl (fun _=>h1)
 rw[this];unfold CJ;cases s.AU<;>simp[Ae,Put.bytes]
theorem brz {b:List UInt8} (hs:n.scale≤18) (hb:b.length≤50000):evL cfg TS 1 [.clo H3 [] [.ref 0 7 0,.ref 0 2 0],.ref 0 3 0] (mB (Cl 0 2 n++Cc 0 3 s) b)=some (nothing,mB (Cl 0 2 n++Cc 0 3 s) (b++Ae (if s.has=true then[.b 1 (Al s.mn.i n.scale),.b 2 (Al s.mx.i n.scale)] else[]))):=by
 have h1:=rl (j9 n s) 1 (b:=b) (num:=1) (v:=s.mn.i) (sc:=n.scale) aa1 aa1 aa1 h.i1 hs rfl;have h2:=rl (j9 n s) 1 (b:=b++ah 1 (Al s.mn.i n.scale)) (num:=2) (v:=s.mx.i) (sc:=n.scale) (by rw[abk];have:=(cr 1 (Al s.mn.i n.scale)).2;have:=bt s.mn.i n.scale;omega) aa1 aa1 h.i2 hs rfl
 have:=xv (j9 n s) 0 H3 7 0 [.ref 0 2 0] rfl (b:=b) (has:=s.has) (p:=s.mn.i) (q:=s.mx.i) rfl rfl rfl rfl (fun _=>h1) (fun _=>h2)
 rw[this];cases s.has<;>simp[Ae,Put.bytes]
theorem Vj {b:List UInt8} (hs:n.scale≤18) (hb:b.length≤50000):evL cfg Rk 1 [.d (.int .i64 (3)),.clo H3 [] [.ref 0 7 0,.ref 0 2 0],.ref 0 3 0] (mB (Cl 0 2 n++Cc 0 3 s) b)=some (nothing,mB (Cl 0 2 n++Cc 0 3 s) (b++Ae (if s.AU=true then[.b 3 (Al s.sum n.scale)] else[]))):=by
 have h1:=rl (j9 n s) 1 (b:=b) (num:=3) (v:=s.sum) (sc:=n.scale) aa1 aa1 aa1 h.su hs rfl;have:=rk (j9 n s) 0 H3 7 0 [.ref 0 2 0] rfl (num:=3) (b:=b) (AU:=s.AU) (p:=s.sum) rfl rfl rfl (fun _=>h1)
 refine this.trans ?_;cases s.AU<;>simp[Ae,Put.bytes]
theorem Vk {b:List UInt8} (h0:s.AU=true→0≤s.sum∧s.sum≤262144) (hb:b.length≤50000):evL cfg Rk 1 [.d (.int .i64 (1)),.clo TL [] [.ref 0 7 0],.ref 0 3 0] (mB (Cl 0 2 n++Cc 0 3 s) b)=some (nothing,mB (Cl 0 2 n++Cc 0 3 s) (b++Ae (if s.AU=true then[.b 1 (Ai 10 s.sum.toNat)] else[]))):=by
 have h1:=fun q:s.AU=true=>bg2 (j9 n s) 1 (b:=b) (num:=1) (u:=s.sum.toNat) aa1 aa1 aa1 (by have:=h0 q;omega)
 have:=rk (j9 n s) 0 TL 7 0 [] rfl (num:=1) (b:=b) (AU:=s.AU) (p:=s.sum) (b1:=b++ah 1 (Ai 10 s.sum.toNat)) rfl rfl rfl (fun q=>by have:=h1 q;rw[abs (h0 q).1] at this;exact this)
 refine this.trans ?_;cases s.AU<;>simp[Ae,Put.bytes]
theorem bek {b v:List UInt8} {num:Nat} (h1:1≤num) (h2:num≤100) (hb:b.length≤50000) (hv:v.length≤5000):evL cfg H2 1 [.d (.int .i64 ((num:Int))),.d (txt v),.ref 0 5 0] (mB (Cl 0 2 n++Cc 0 3 s) b)=some (nothing,mB (Cl 0 2 n++Cc 0 3 s) (b++ah num v)):=
 rm (j9 n s) 0 aa1 h1 aa1 aa1
end
theorem n9:bN []= .AB:=rfl
theorem zm (n:Nd) (s:Sv) (h:Ip s) (hs:n.scale≤18) (h5:AL n.kind=5→s.AU=true→0≤s.sum∧s.sum≤262144) (h9:AL n.kind=9→s.has=true→(0≤s.mn.n∧s.mn.n≤1000000000)∧0≤s.mx.n∧s.mx.n≤1000000000):
   evL cfg T3 0 [.d n.d,.d s.d] []=some (.d (bN (Ae (Ah (AL n.kind) n.scale s))),[]):=by
 have hp:=ay n.kind;have r0:=Vl n s h (b:=[]) aa3;have s3:=fun b hb=>bry n s h (b:=b) 3 aa1 aa1 hb
 have s1:=bry n s h (b:=[]) 1 aa1 aa1 aa3;rw[show((1:Nat):Int)=1 from rfl] at s1
 rw[show((3:Nat):Int)=3 from rfl] at s3
 rw[o_ah];unfold Ah;generalize AL n.kind=k at *;have pl:∀ q:List Put,(∀ x∈q,x.bytes.length≤6000)→q.length≤4→(Ae q).length≤24000:=fun q h1 h2=>by
   have:=zb q 6000 h1;omega
 have t1:=bt s.mn.i n.scale;have t2:=bt s.mx.i n.scale;have ul:=fun k v=>(bc k v).2
 have bl:=fun k v=>(cr k v).2
 have hb1:=h.b1;have hb2:=h.b2;by_cases e2:k=2
 · subst e2
   have s3:=s3 ([]++Ae (A7 s)) (by rw[List.nil_append];refine abo (pl _ ?_ ?_) aa1<;>unfold A7<;>split<;>simp[Put.bytes]<;>(refine⟨?_,?_⟩<;>exact abo (ul _ _) aa1))
   simp only[if_true,kf];simp only[mB,Cl,Cc,List.cons_append,List.nil_append,n9] at r0 s3;simp(disch:=first|exact aa0|fail) only[go_sem,Gp,Fc,Nd.d,Sv.d,Sv.cs,hp,r0,s3]
 by_cases e4:k=4
 · subst e4
   rw[if_neg aa1,if_pos rfl,kf];cases hh:s.has with
   | false=>
    have s3:=s3 [] aa3;simp only[aa8,if_false,Ae,List.map_nil,List.flatten_nil,List.nil_append] at s3 ⊢;simp only[mB,Cl,Cc,List.cons_append,List.nil_append,n9,hh] at s3;simp(disch:=first|exact aa0|fail) only[go_sem,Gp,Fc,Nd.d,Sv.d,Sv.cs,hp,s3,hh]
   | true=>
    have a1:=bek n s h (b:=[]) (v:=s.mn.b) (num:=1) aa1 aa1 aa3 h.b1;have a2:=bek n s h (b:=[]++ah 1 s.mn.b) (v:=s.mx.b) (num:=2) aa1 aa1 (by rw[List.nil_append];exact abo (bl _ _) aa1) h.b2
    have s3:=s3 ([]++ah 1 s.mn.b++ah 2 s.mx.b) (by rw[List.nil_append,abk];have:=bl 1 s.mn.b;have:=bl 2 s.mx.b;omega)
    rw[show((1:Nat):Int)=1 from rfl] at a1
    rw[show((2:Nat):Int)=2 from rfl] at a2
    simp only[if_true];rw[show Ae [.b 1 s.mn.b,.b 2 s.mx.b]=ah 1 s.mn.b++ah 2 s.mx.b by simp[Ae,Put.bytes]]
    simp only[mB,Cl,Cc,List.cons_append,List.nil_append,n9,hh] at a1 a2 s3;simp(disch:=first|exact aa0|fail) only[go_sem,Gp,Fc,Nd.d,Sv.d,Sv.cs,hp,a1,a2,s3,hh]
 by_cases e5:k=5
 · subst e5
   have s5:=Vk n s h (b:=[]) (h5 rfl) aa3;rw[if_neg aa1,if_neg aa1,if_pos rfl];simp only[mB,Cl,Cc,List.cons_append,List.nil_append,n9] at s5;simp(disch:=first|exact aa0|fail) only[go_sem,Gp,Fc,Nd.d,Sv.d,Sv.cs,hp,s5]
 by_cases e6:k=6
 · subst e6
   have r6:=brz n s h (b:=[]) hs aa3;have s6:=Vj n s h (b:=[]++Ae (if s.has=true then[.b 1 (Al s.mn.i n.scale),.b 2 (Al s.mx.i n.scale)] else[])) hs (by
    rw[List.nil_append];refine abo (pl _ ?_ ?_) aa1<;>split<;>simp[Put.bytes]<;>(refine⟨?_,?_⟩<;>exact abo (bl _ _) aa1))
   rw[if_neg aa1,if_neg aa1,if_neg aa1,if_pos rfl,kf];generalize Ae (if s.has=true then[.b 1 (Al s.mn.i n.scale),.b 2 (Al s.mx.i n.scale)] else[])=q1 at*
   generalize Ae (if s.AU=true then[.b 3 (Al s.sum n.scale)] else[])=q2 at*
   simp only[mB,Cl,Cc,List.cons_append,List.nil_append,n9] at r6 s6;simp(disch:=first|exact aa0|fail) only[go_sem,Gp,Fc,Nd.d,Sv.d,Sv.cs,hp,r6,s6]
 by_cases e7:k=7
 · subst e7
   rw[if_neg aa1,if_neg aa1,if_neg aa1,if_neg aa1,if_pos rfl];simp only[mB,Cl,Cc,List.cons_append,List.nil_append,n9] at r0;simp(disch:=first|exact aa0|fail) only[go_sem,Gp,Fc,Nd.d,Sv.d,Sv.cs,hp,r0]
 by_cases e8:k=8
 · subst e8
   rw[if_neg aa1,if_neg aa1,if_neg aa1,if_neg aa1,if_neg aa1,if_pos rfl];simp only[mB,Cl,Cc,List.cons_append,List.nil_append,n9] at s1;simp(disch:=first|exact aa0|fail) only[go_sem,Gp,Fc,Nd.d,Sv.d,Sv.cs,hp,s1]
 by_cases e9:k=9
 · subst e9
   rw[if_neg aa1,if_neg aa1,if_neg aa1,if_neg aa1,if_neg aa1,if_neg aa1,if_pos rfl];cases hh:s.has with
   |false=>simp(disch:=first|exact aa0|fail) only[go_sem,Gp,Fc,Nd.d,Sv.d,Sv.cs,hp,hh,aa8,if_false,Ae,List.map_nil,List.flatten_nil,n9]
   | true=>
    obtain⟨⟨n1,n2⟩,n3,n4⟩:=h9 rfl hh;have u1:=dz (b:=Ae (A7 s)) (num:=3) (v:=s.mn.n.toNat) (by
     refine abo (pl _ ?_ ?_) aa1<;>unfold A7<;>split<;>simp[Put.bytes]<;>(refine⟨?_,?_⟩<;>exact abo (ul _ _) aa1)) aa1 aa1 aa1
    have u2:=dz (b:=Ae (A7 s)++AZ 3 s.mn.n.toNat) (num:=4) (v:=s.mx.n.toNat) (by
     have:=pl (A7 s) (by unfold A7;split<;>simp[Put.bytes]<;>(refine⟨?_,?_⟩<;>exact abo (ul _ _) aa1)) (by unfold A7;split<;>simp)
     have:=ul 3 s.mn.n.toNat;rw[abk];omega) aa1 aa1 aa1
    rw[abs n1,show((3:Nat):Int)=3 from rfl] at u1
    rw[abs n3,show((4:Nat):Int)=4 from rfl] at u2
    simp only[if_true];rw[show Ae [.u 1 (As s.mn.i),.u 2 (As s.mx.i),.u 3 s.mn.n.toNat,.u 4 s.mx.n.toNat]=Ae (A7 s)++AZ 3 s.mn.n.toNat++AZ 4 s.mx.n.toNat by simp[Ae,Put.bytes,A7,hh]]
    rw[← bt2 (bc _ _).1];generalize Ae (A7 s)=q1 at *;simp only[mB,Cl,Cc,List.cons_append,List.nil_append,n9,hh] at r0;simp(maxSteps:=2000000) (disch:=first|exact aa0|fail) only[go_sem,Gp,Fc,Nd.d,Sv.d,Sv.cs,hp,r0,hh,u1,u2,jh]
 rw[if_neg e2,if_neg e4,if_neg e5,if_neg e6,if_neg e7,if_neg e8,if_neg e9];have q2:(k==2)=false:=by simp[e2]
 have q4:(k==4)=false:=by simp[e4]
 have q5:(k==5)=false:=by simp[e5]
 have q6:(k==6)=false:=by simp[e6]
 have q7:(k==7)=false:=by simp[e7]
 have q8:(k==8)=false:=by simp[e8]
 have q9:(k==9)=false:=by simp[e9]
 simp(disch:=first|exact aa0|fail) only[go_sem,Gp,Fc,Nd.d,Sv.d,Sv.cs,hp,q2,q4,q5,q6,q7,q8,q9,Ae,List.map_nil,List.flatten_nil,n9]
end Go.Proofs.YtpnhljhciibfnaaGreatDoor
namespace Go.Proofs.YtpnhljhciibfnaaGreatDoor
open Go Go.Ev
set_option maxHeartbeats 8000000
def Bc (k:Int) (sc:Nat) (s:Sv):List Put:= .u 1 s.cnt.toNat::(if(decide (k>0)&&(s.has||s.AU))=true then[.b k.toNat (Ae (Ah k sc s))] else[])++[.u 10 (if s.null=true then 1 else 0)]
theorem iv (k:Int):AL k=2∨AL k=4∨AL k=5∨AL k=6∨AL k=7∨AL k=8∨AL k=9∨AL k=0:=by
 unfold AL
 repeat' split
 all_goals simp
theorem qd (k:Int) (sc:Nat) (s:Sv) (h:Ip s) (hs:sc≤18):(Ah k sc s).length≤4∧(Ae (Ah k sc s)).length≤24000:=by
 have ul:=fun k v=>(bc k v).2
 have bl:=fun k v=>(cr k v).2
 have hb1:=h.b1;have hb2:=h.b2;have t1:=bt s.mn.i sc;have t2:=bt s.mx.i sc;have t3:=bt s.sum sc;have vl:=bu 10 s.sum.toNat;have a1:(Ah k sc s).length≤4:=by unfold Ah A7 CJ;cases s.has<;>cases s.AU<;>(repeat' split)<;>simp
 have a2:∀ x∈Ah k sc s,x.bytes.length≤6000:=by
  unfold Ah A7 CJ
  repeat' split
  all_goals (intro x hx;simp only[ab1,abr,ach,or_false,false_or,List.append_nil,List.nil_append] at hx)
  all_goals (first| (cases hx;done)|skip)
  all_goals (try(rcases hx with rfl|rfl|rfl|rfl))
  all_goals (try(rcases hx with rfl|rfl|rfl))
  all_goals (try(rcases hx with(rfl|rfl)|rfl))
  all_goals (try(rcases hx with rfl|rfl))
  all_goals (try subst hx)
  all_goals first|exact abo (ul _ _) aa1|exact abo (bl _ _) aa1
 have:=zb _ 6000 a2;exact⟨a1,by omega⟩
theorem qx (n:Nd) (s:Sv) (h:Ip s) (hs:n.scale≤18) (h5:AL n.kind=5→s.AU=true→0≤s.sum∧s.sum≤262144) (h9:AL n.kind=9→s.has=true→(0≤s.mn.n∧s.mn.n≤1000000000)∧0≤s.mx.n∧s.mx.n≤1000000000):
   evL cfg Rx 0 [.d n.d,.d s.d] []=some (.d (.sl ((Ae (Bc (AL n.kind) n.scale s)).map AM)),[]):=by
 have hp:=ay n.kind;have hb:=zm n s h hs h5 h9;have hl:=(qd (AL n.kind) n.scale s h hs).2;obtain⟨c1,c2⟩:=h.cnt;have u1:=dz (b:=[]) (num:=1) (v:=s.cnt.toNat) aa3 aa1 aa1 aa1;rw[abs c1,show((1:Nat):Int)=1 from rfl] at u1
 have u10:=fun b hb v hv=>dz (b:=b) (num:=10) (v:=v) hb aa1 aa1 (Nat.lt_of_le_of_lt hv (by decide:1<18446744073709551616))
 have ub:=fun(k:Nat) (h1:1≤k) (h2:k≤9)=>me (b:=AZ 1 s.cnt.toNat) (v:=Ae (Ah (AL n.kind) n.scale s)) (num:=k) (abo (bc _ _).2 aa1) h1 aa1 aa1
 rw[o_bq];have hk:=iv n.kind;unfold Bc;obtain⟨cnt,null,has,mn,mx,AU,sum⟩:=s;dsimp only at *;generalize hkk:AL n.kind=k at *;have hk0:k=0∨0<k:=aa1;generalize Ae (Ah k n.scale _)=q at *;simp only[List.map_nil,List.nil_append] at u1;simp only[Nd.d,Sv.d,Sv.cs] at hb;have t0:=fun v hv=>u10 (AZ 1 cnt.toNat) (abo (bc _ _).2 aa1) v hv
 have t1:=fun v hv=>u10 (AZ 1 cnt.toNat++ah k.toNat q) (by rw[abk];have:=(bc 1 cnt.toNat).2;have:=(cr k.toNat q).2;omega) v hv
 have e00:=t0 0 aa1;have e01:=t0 1 aa1;have e10:=t1 0 aa1;have e11:=t1 1 aa1;rw[show((0:Nat):Int)=0 from rfl,show((10:Nat):Int)=10 from rfl] at e00 e10
 rw[show((1:Nat):Int)=1 from rfl,show((10:Nat):Int)=10 from rfl] at e01 e11
 rcases hk0 with rfl|kp
 · have d1:decide ((0:Int)>0)=false:=by simp
   rw[if_neg (by rw[d1];simp)]
   rw[show ∀ m,Ae (Put.u 1 cnt.toNat::[]++[Put.u 10 m])=AZ 1 cnt.toNat++AZ 10 m from fun m=>by simp[Ae,Put.bytes]]
   simp(maxSteps:=2000000) (disch:=first|exact aa0|fail) only[go_sem,Fh,Et,Nd.d,Sv.d,Sv.cs,hp,u1,d1]
   cases null with
   |false=>simp(maxSteps:=2000000) (disch:=first|exact aa0|fail) only[go_sem,Fh,Et,e00]
   |true=>simp(maxSteps:=2000000) (disch:=first|exact aa0|fail) only[go_sem,Fh,Et,e01]
 · have d1:decide (k>0)=true:=by simp;omega
   have ub:=ub k.toNat aa1 aa1;rw[abs aa1] at ub;cases has with
   | true=>
    rw[if_pos (by rw[d1];rfl)]
    rw[show ∀ m,Ae (Put.u 1 cnt.toNat::[Put.b k.toNat q]++[Put.u 10 m])=AZ 1 cnt.toNat++ah k.toNat q++AZ 10 m from fun m=>by simp[Ae,Put.bytes]]
    simp(maxSteps:=2000000) (disch:=first|exact aa0|fail) only[go_sem,Fh,Et,Nd.d,Sv.d,Sv.cs,hp,hb,u1,ub,d1]
    cases null with
    |false=>simp(maxSteps:=2000000) (disch:=first|exact aa0|fail) only[go_sem,Fh,Et,e10]
    |true=>simp(maxSteps:=2000000) (disch:=first|exact aa0|fail) only[go_sem,Fh,Et,e11]
   | false=>
    cases AU with
    | true=>
     rw[if_pos (by rw[d1];rfl)]
     rw[show ∀ m,Ae (Put.u 1 cnt.toNat::[Put.b k.toNat q]++[Put.u 10 m])=AZ 1 cnt.toNat++ah k.toNat q++AZ 10 m from fun m=>by simp[Ae,Put.bytes]]
     simp(maxSteps:=2000000) (disch:=first|exact aa0|fail) only[go_sem,Fh,Et,Nd.d,Sv.d,Sv.cs,hp,hb,u1,ub,d1]
     cases null with
     |false=>simp(maxSteps:=2000000) (disch:=first|exact aa0|fail) only[go_sem,Fh,Et,e10]
     |true=>simp(maxSteps:=2000000) (disch:=first|exact aa0|fail) only[go_sem,Fh,Et,e11]
    | false=>
     rw[if_neg aa3];rw[show ∀ m,Ae (Put.u 1 cnt.toNat::[]++[Put.u 10 m])=AZ 1 cnt.toNat++AZ 10 m from fun m=>by simp[Ae,Put.bytes]]
     simp(maxSteps:=2000000) (disch:=first|exact aa0|fail) only[go_sem,Fh,Et,Nd.d,Sv.d,Sv.cs,hp,u1,d1]
     cases null with
     |false=>simp(maxSteps:=2000000) (disch:=first|exact aa0|fail) only[go_sem,Fh,Et,e00]
     |true=>simp(maxSteps:=2000000) (disch:=first|exact aa0|fail) only[go_sem,Fh,Et,e01]
