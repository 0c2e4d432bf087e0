import Derived.Test.YtplmdlobbfcknaaGreatDoorSeA
namespace Go.Proofs.YtplmdlobbfcknaaGreatDoor
open Go Go.Ev
set_option maxHeartbeats 8000000
set_option maxRecDepth 100000
abbrev N5:=Nat×Nat×Nat×Nat×Nat
def n5I (s:N5):I5:=(s.1,s.2.1,s.2.2.1,s.2.2.2.1,s.2.2.2.2)
def n5ok (s:N5):Prop:=s.1≤262144∧s.2.1≤262144∧s.2.2.1≤262144∧s.2.2.2.1≤262144∧s.2.2.2.2≤262144
def stU (s:N5):List Put:=[.u 1 s.1,.u 2 s.2.1,.u 3 s.2.2.1,.u 4 s.2.2.2.1,.u 5 s.2.2.2.2]
def stP (s:N5):Put:= .b 3 (putB (stU s))
theorem putB_nil:putB []=[]:=rfl
theorem afc (s:N5):(putB (stU s)).length≤100:=by
 have:=py (stU s) 20 (fun x hx=>by
  simp only[stU,zb,zn,or_false] at hx;rcases hx with rfl|rfl|rfl|rfl|rfl<;>exact ze (av _ _).2 yj)
 simpa[stU] using this
theorem kj (s:Get) (dst:Option Nat) (z:Nat) (x:IOpd) (b c d e:D) (r:List D):evIdx s dst z x (.d (.sl (b::c::d::e::r))) 3=if e.cells.length=z then some (put1 dst (.iptr e 0)) else none:=by
 rw[p8 _ _ _ _ yj];rfl
theorem ki (s:Get) (dst:Option Nat) (z:Nat) (x:IOpd) (a b c d e:D) (r:List D):evIdx s dst z x (.d (.sl (a::b::c::d::e::r))) 4=if e.cells.length=z then some (put1 dst (.iptr e 0)) else none:=by
 rw[p8 _ _ _ _ yj];rfl
abbrev seE (C:List D) (b:List UInt8) (i:Int):List (Nat×V):=[(1,.ref 0 1 0),(4,.d (.sl C)),(8,.own false 1 (b.map byteD)),(9,.d (.int .i64 (i)))]
theorem se_step (L:List D) (hn:L.length≤1024) (rows:Int) (S:D) (C:List D) (i:Nat) (s:N5) (hk:n5ok s) (b:List UInt8) (hb:b.length≤400000) (hs:L[i]? =some (s5D (n5I s))) (hi:i<L.length) (t o:Option I5) (K:List Kf):
  go X_aa (.c (.loop se)::K) ⟨seE C b i,bQ L rows S++(boxI 7 t++boxI 10 o)⟩=
   go X_aa (.c (.loop se)::K) ⟨seE C (b++(stP s).bytes) ((i:Int)+1),bQ L rows S++(boxI 7 t++boxI 10 (some (n5I s)))⟩:=by
 have d_a:decide ((i:Int)<L.length)=true:=by simp<;>omega
 have hx:=afc s;obtain⟨s1,s2,s3,s4,s5⟩:=s;obtain⟨k1,k2,k3,k4,k5⟩:=hk;simp only at k1 k2 k3 k4 k5;have e0:putB (stU (s1,s2,s3,s4,s5))=uintF 1 s1++uintF 2 s2++uintF 3 s3++uintF 4 s4++uintF 5 s5:=by simp[putB,stU,Put.bytes]
 rw[e0] at hx;simp only[yy] at hx;have u1:evL cfg n_av 0 [.d .nilS,.d (.int .i64 (1)),.d (.int .u64 ((s1:Int)))] []=some (.own false 1 ((uintF 1 s1).map byteD),[]):=da (num:=1) (v:=s1) yj yj yj;have u2:evL cfg n_av 0 [.own false 1 ((uintF 1 s1).map byteD),.d (.int .i64 (2)),.d (.int .u64 ((s2:Int)))] []=some (.own false 1 ((uintF 1 s1++uintF 2 s2).map byteD),[]):=ah (num:=2) yj yj yj yj;have u3:evL cfg n_av 0 [.own false 1 ((uintF 1 s1++uintF 2 s2).map byteD),.d (.int .i64 (3)),.d (.int .u64 ((s3:Int)))] []=some (.own false 1 ((uintF 1 s1++uintF 2 s2++uintF 3 s3).map byteD),[]):=ah (num:=3) (by simp only[yy];omega) yj yj yj
 have u4:evL cfg n_av 0 [.own false 1 ((uintF 1 s1++uintF 2 s2++uintF 3 s3).map byteD),.d (.int .i64 (4)),.d (.int .u64 ((s4:Int)))] []=some (.own false 1 ((uintF 1 s1++uintF 2 s2++uintF 3 s3++uintF 4 s4).map byteD),[]):=ah (num:=4) (by simp only[yy];omega) yj yj yj
 have u5:evL cfg n_av 0 [.own false 1 ((uintF 1 s1++uintF 2 s2++uintF 3 s3++uintF 4 s4).map byteD),.d (.int .i64 (5)),.d (.int .u64 ((s5:Int)))] []=some (.own false 1 ((uintF 1 s1++uintF 2 s2++uintF 3 s3++uintF 4 s4++uintF 5 s5).map byteD),[]):=ah (num:=5) (by simp only[yy];omega) yj yj yj
 have p:evL cfg n_ax 0 [.own false 1 (b.map byteD),.d (.int .i64 (3)),.d (.sl ((uintF 1 s1++uintF 2 s2++uintF 3 s3++uintF 4 s4++uintF 5 s5).map byteD))] []=some (.own false 1 ((b++(stP (s1,s2,s3,s4,s5)).bytes).map byteD),[]):=by
  have:=bv (b:=b) (v:=uintF 1 s1++uintF 2 s2++uintF 3 s3++uintF 4 s4++uintF 5 s5) (num:=3) yj yj yj (by simp only[yy];omega)
  rw[← e0] at this ⊢;exact this
 have hS:=ae 10 o;have hF:=dk 10 o;clear hx e0;generalize(stP (s1,s2,s3,s4,s5)).bytes=q at *;generalize uintF 1 s1++uintF 2 s2++uintF 3 s3++uintF 4 s4++uintF 5 s5=x5 at *;generalize uintF 1 s1++uintF 2 s2++uintF 3 s3++uintF 4 s4=x4 at *;generalize uintF 1 s1++uintF 2 s2++uintF 3 s3=x3 at *;generalize uintF 1 s1++uintF 2 s2=x2 at *;generalize uintF 1 s1=x1 at *;generalize boxI 10 o=B at *;unfold s5D n5I at hs;simp only at hs;cases t
 all_goals
  simp only[seE,bQ,List.cons_append,List.nil_append,boxI,n5I]
  conv=>lhs;rw[go_loop]
  simp(disch:=first|exact yi|fail) only[go_sem,X_aa,d_a,hS,hF,hs,len5,take5]
  conv=>lhs;rw[go_loop]
  simp(disch:=first|exact yi|fail) only[go_sem,X_aa,u1,Int.reduceLT,decide_true,len5,gp,kj,ki]
  conv=>lhs;rw[go_loop]
  simp(disch:=first|exact yi|fail) only[go_sem,X_aa,u2,Int.reduceLT,decide_true,len5,gp,kj,ki]
  conv=>lhs;rw[go_loop]
  simp(disch:=first|exact yi|fail) only[go_sem,X_aa,u3,Int.reduceLT,decide_true,len5,gp,kj,ki]
  conv=>lhs;rw[go_loop]
  simp(disch:=first|exact yi|fail) only[go_sem,X_aa,u4,Int.reduceLT,decide_true,len5,gp,kj,ki]
  conv=>lhs;rw[go_loop]
  simp(disch:=first|exact yi|fail) only[go_sem,X_aa,u5,Int.reduceLT,decide_true,len5,gp,kj,ki]
  conv=>lhs;rw[go_loop]
  simp(disch:=first|exact yi|fail) only[go_sem,X_aa,p,Int.reduceLT,decide_false,len5]
set_option maxRecDepth 100000
theorem asw (s:N5):(stP s).bytes.length≤120:=by
 have:=afc s;exact ze (uz _ _).2 yj
theorem atc (l:List N5) (hn:l.length≤1024) (ok:∀ s∈l,n5ok s) (rows:Int) (S:D) (C:List D) (t:Option I5) (K:List Kf):∀ (r:List N5) (i:Nat) (b:List UInt8) (o:Option I5),l.drop i=r→i≤l.length→b.length+120*r.length≤400000→
  ∃ o',go X_aa (.c (.loop se):: .b 2::K) ⟨seE C b i,bQ ((l.map n5I).map s5D) rows S++(boxI 7 t++boxI 10 o)⟩=
   go X_aa K ⟨seE C (b++putB (r.map stP)) l.length++[(107,.d (.bool (false)))],bQ ((l.map n5I).map s5D) rows S++(boxI 7 t++boxI 10 o')⟩
 | [],i,b,o,hr,hi,hb=>by
  have:=iw hr;have:i=l.length:=yj;subst this;refine⟨o,?_⟩;have d_a:decide ((l.length:Int)<l.length)=false:=by simp<;>omega
  have hS:=ae 10 o;have hT:=ae 7 t;rw[List.map_nil,putB_nil,List.append_nil];generalize boxI 10 o=B at *;generalize boxI 7 t=T at *;have hL:((l.map n5I).map s5D).length=l.length:=by simp
  generalize(l.map n5I).map s5D=L at *;have hTB:settleM 0 (T++B)=T++B:=by
   have:∀ X Y:List (Cel×V),settleM 0 (X++Y)=settleM 0 X++settleM 0 Y:=fun X Y=>by
    induction X with
    |nil=>rfl
    |cons x X ih=>rw[List.cons_append];simp only[settleM,ih,List.cons_append]
   rw[this,hT,hS]
  generalize T++B=TB at *;simp only[seE,bQ,List.cons_append,List.nil_append];rw[go_loop];simp(disch:=first|exact yi|fail) only[go_sem,X_aa,d_a,hTB,hL]
 | s::r,i,b,o,hr,hi,hb=>by
  obtain⟨h1,h2,h3⟩:=ll hr;have hm:s∈l:=List.mem_of_getElem? h2;have hq:=asw s;simp only[List.length_cons] at hb;have st:=se_step ((l.map n5I).map s5D) (by simpa using hn) rows S C i s (ok s hm) b yj (by rw[yw,yw,h2];rfl) (by simpa using h1) t o (.b 2::K)
  obtain⟨o',ih⟩:=atc l hn ok rows S C t K r (i+1) (b++(stP s).bytes) (some (n5I s)) h3 h1 (by rw[yy];omega)
  have e:b++putB ((s::r).map stP)=b++(stP s).bytes++putB (r.map stP):=by rw[List.map_cons,qu,zm]
  rw[e];rw[show((i+1:Nat):Int)=(i:Int)+1 by omega] at ih
  exact⟨o',st.trans ih⟩
def footS (L:List D) (rows:Int):List D:=[i0,.sl L,.int .i64 12,.sl [],.sl [],i0,i0,i0,.sl [],.int .i64 rows,.sl [jq],i0]
theorem ada:evL cfg n_ck 0 [.d typD,.d jq] []=some (.own false 1 (stat0.map byteD),[]):=ap (n:=20) yk
theorem a0e:evL cfg n_bh 0 [.d (.int .i64 (0))] []=some (.d (.bool (true)),[]):=bx 0
theorem settle2 (t o:Option I5):settleM 0 (boxI 7 t++boxI 10 o)=boxI 7 t++boxI 10 o:=by cases t<;>cases o<;>rfl
theorem leave2 (t o:Option I5):leaveM 0 (boxI 7 t++boxI 10 o)=[]:=by cases t<;>cases o<;>rfl
theorem se_bad (l:List I5) (hl:l.length≤1024) (rows:Int) (h:(inB rows&&l.all okB)=false):evL cfg n_aa 0 [.d (.agg (footS (l.map s5D) rows))] []=some (.d (.tup [.sl [],.int .i64 1]),[]):=by
 have hr:=bx rows;have h0:=a0e;have hc:=nv;have hf:=qq;have hL:(l.map s5D).length=l.length:=by simp
 have d_c:decide ((l.length:Int)≤1024)=true:=by simp<;>omega
 have z1:decide ((0:Int)≤32)=true:=rfl;have z2:((1:Int)==1)=true:=rfl;rw[o_aa];unfold footS;cases hb:inB rows
 · rw[hb] at hr
   have st:=fun K=>ahl (l.map s5D) (by simpa using hl) rows jq [nod0] 0 false (fun h=>by cases h) none K
   simp only[okE,bQ,gu,List.append_nil,List.cons_append,List.nil_append] at st;simp(disch:=first|exact yi|fail) only[go_sem,X_aa,c_aa,hc,hf,hr,h0,hL,d_c,z1,z2,len12]
   refine(st _).trans ?_;simp(disch:=first|exact yi|fail) only[go_sem,X_aa]
 · rw[hb] at hr h
   rw[Bool.true_and] at h;have st:=fun K=>ahm l hl rows jq [nod0] K l 0 none rfl (zl _)
   rw[h,show((0:Nat):Int)=0 from rfl] at st
   simp only[okE,bQ,gu,List.append_nil,List.cons_append,List.nil_append] at st;simp(disch:=first|exact yi|fail) only[go_sem,X_aa,c_aa,hc,hf,hr,h0,hL,d_c,z1,z2,len12]
   obtain⟨j,o,st⟩:=st _;refine st.trans ?_;have hS:=ae 7 o;have hL2:=de 7 o;generalize boxI 7 o=T at *;simp(disch:=first|exact yi|fail) only[go_sem,X_aa,hS,hL2]
def seP (l:List N5) (rows:Nat):List Put:=[.u 1 3,.u 2 0]++l.map stP++[.b 4 (putB [.u 1 12]),.u 6 rows,.b 7 stat0,.u 8 0]
theorem qj (l:List N5) (rows:Nat):(putB (seP l rows)).length≤120*(l.length+6):=by
 have:=py (seP l rows) 120 (fun x hx=>by
  unfold seP at hx;simp only[zw,zb,zn,or_false,zz] at hx;rcases hx with((rfl|rfl)|⟨s,_,rfl⟩)|rfl|rfl|rfl|rfl
  · exact ze (av _ _).2 yj
  · exact ze (av _ _).2 yj
  · exact asw s
  · decide
  · exact ze (av _ _).2 yj
  · decide
  · exact ze (av _ _).2 yj)
 rw[show(seP l rows).length=l.length+6 by simp[seP]] at this
 exact this
theorem inB_n {n:Nat} (h:n≤262144):inB (n:Int)=true:=by
 unfold inB;simp only[yu,aac];omega
theorem okB_n {s:N5} (h:n5ok s):okB (n5I s)=true:=by
 obtain⟨h1,h2,h3,h4,h5⟩:=h;unfold okB n5I;simp only[inB_n h1,inB_n h2,inB_n h3,inB_n h4,inB_n h5,Bool.and_self]
theorem atd (l:List N5) (hl:l.length≤20) (ok:∀ s∈l,n5ok s) (rows:Nat) (hr0:rows≤262144):evL cfg n_aa 0 [.d (.agg (footS ((l.map n5I).map s5D) rows))] []=some (.d (.tup [.sl ((putB (seP l rows)).map byteD),.int .i64 0]),[]):=by
 have hr:=bx (rows:Int);rw[inB_n hr0] at hr;have h0:=a0e;have hc:=nv;have hf:=qq;have hps:=ada;have hL:((l.map n5I).map s5D).length=l.length:=by simp
 have d_c:decide ((l.length:Int)≤1024)=true:=by simp<;>omega
 have z1:decide ((0:Int)≤32)=true:=rfl;have z2:((1:Int)==1)=true:=rfl;have z3:decide ((0:Int)<0)=false:=rfl;have z4:decide ((0:Int)<1)=true:=rfl;have z5:decide ((1:Int)<1)=false:=rfl;have hlen:=qj l rows;have q0:(putB (seP l rows))=uintF 1 3++uintF 2 0++putB (l.map stP)++ag 4 (uintF 1 12)++uintF 6 rows++ag 7 stat0++uintF 8 0:=by
  unfold seP;rw[lq,lq];simp[putB,Put.bytes]
 rw[q0] at hlen ⊢;have u1:evL cfg n_av 0 [.d .nilS,.d (.int .i64 (1)),.d (.int .u64 (3))] []=some (.own false 1 ((uintF 1 3).map byteD),[]):=da (num:=1) (v:=3) yj yj yj;have u2:evL cfg n_av 0 [.own false 1 ((uintF 1 3).map byteD),.d (.int .i64 (2)),.d (.int .u64 (0))] []=some (.own false 1 ((uintF 1 3++uintF 2 0).map byteD),[]):=ah (b:=uintF 1 3) (num:=2) (v:=0) (ze (av _ _).2 yj) yj yj yj;have l12:(uintF 1 3++uintF 2 0).length≤40:=by
  rw[yy];have:=(av 1 3).2;have:=(av 2 0).2;omega
 have hne:uintF 1 3++uintF 2 0++putB (l.map stP)≠[]:=by
  intro h;have h2:=congrArg List.length h;simp only[yy,List.length_nil] at h2;have:=(av 1 3).1;omega
 have st1:=fun K=>ahm (l.map n5I) (by simp;omega) rows jq [nod0] K (l.map n5I) 0 none rfl (zl _)
 rw[show(l.map n5I).all okB=true by
  rw[zg];intro x hx;obtain⟨s,hs,rfl⟩:=zz.1 hx;exact okB_n (ok s hs)] at st1
 have st2:=fun t K=>atc l yj ok rows jq [nod0] t K l 0 (uintF 1 3++uintF 2 0) none rfl (zl _) yj
 simp only[yy] at hlen;generalize hX:uintF 1 3++uintF 2 0++putB (l.map stP)=x0 at *;have lx:x0.length≤5000:=by rw[← hX];simp only[yy];omega
 have pt:=mn x0 yj;rw[ownBy hne] at pt;have u6:evL cfg n_av 0 [.own false 1 ((x0++ag 4 (uintF 1 12)).map byteD),.d (.int .i64 (6)),.d (.int .u64 ((rows:Int)))] []=some (.own false 1 ((x0++ag 4 (uintF 1 12)++uintF 6 rows).map byteD),[]):=ah (num:=6) (by simp only[yy];omega) yj yj yj
 have u7:evL cfg n_ax 0 [.own false 1 ((x0++ag 4 (uintF 1 12)++uintF 6 rows).map byteD),.d (.int .i64 (7)),.d (.sl ((stat0).map byteD))] []=some (.own false 1 ((x0++ag 4 (uintF 1 12)++uintF 6 rows++ag 7 stat0).map byteD),[]):=bv (num:=7) (by simp only[yy];omega) yj yj ym
 have u8:evL cfg n_av 0 [.own false 1 ((x0++ag 4 (uintF 1 12)++uintF 6 rows++ag 7 stat0).map byteD),.d (.int .i64 (8)),.d (.int .u64 (0))] []=some (.own false 1 ((x0++ag 4 (uintF 1 12)++uintF 6 rows++ag 7 stat0++uintF 8 0).map byteD),[]):=ah (num:=8) (v:=0) (by simp only[yy];omega) yj yj yj
 have hg:decide (((x0++ag 4 (uintF 1 12)++uintF 6 rows++ag 7 stat0++uintF 8 0).length:Int)>65536)=false:=by
  simp only[yy,aaj];omega
 rw[show((0:Nat):Int)=0 from rfl] at st1
 rw[show((0:Nat):Int)=0 from rfl] at st2
 rw[o_aa];unfold footS;clear hlen hX q0 hne l12 lx;generalize uintF 1 3++uintF 2 0=x2 at *;generalize uintF 1 3=x1 at *;generalize x0++ag 4 (uintF 1 12)++uintF 6 rows++ag 7 stat0++uintF 8 0=y4 at *;generalize x0++ag 4 (uintF 1 12)++uintF 6 rows++ag 7 stat0=y3 at *;generalize x0++ag 4 (uintF 1 12)++uintF 6 rows=y2 at *;generalize x0++ag 4 (uintF 1 12)=y1 at *;generalize(l.map n5I).map s5D=L at *;simp only[okE,seE,bQ,gu,List.append_nil,List.cons_append,List.nil_append] at st1 st2;simp(disch:=first|exact yi|fail) only[go_sem,X_aa,c_aa,hc,hf,hr,h0,hL,d_c,z1,z2,len12]
 obtain⟨j,o,st1⟩:=st1 _;refine st1.trans ?_;clear st1;have hS:=ae 7 o;have hL2:=de 7 o;simp(disch:=first|exact yi|fail) only[go_sem,X_aa,hS,u1,u2]
 obtain⟨o',st2⟩:=st2 o _;refine st2.trans ?_;have hS2:=settle2 o o';have hL3:=leave2 o o';generalize boxI 7 o++boxI 10 o'=T at *;simp(disch:=first|exact yi|fail) only[go_sem,X_aa,hS2,pt]
 conv=>lhs;rw[go_loop]
 simp(disch:=first|exact yi|fail) only[go_sem,X_aa,hS2,z3,u6]
 have hN:nod0= .agg [.int .i64 12,.sl [],.sl [],i0,i0,i0,.sl [],.int .i64 (-1),.int .i64 1]:=rfl
 conv=>lhs;rw[go_loop]
 simp(disch:=first|exact yi|fail) only[go_sem,X_aa,hS2,z4,hN,hps,u7,len9,len15,List.take_succ_cons,List.take_zero]
 conv=>lhs;rw[go_loop]
 simp(disch:=first|exact yi|fail) only[go_sem,X_aa,hS2,z5,hL3,u8,hg,y9]
set_option maxRecDepth 100000
theorem pq (b:List UInt8) (hb:b.length≤400000) (h0:b≠[]):evL cfg n_am 0 [.d (.sl ((b).map byteD)),.d (.int .i64 (0)),.d (.int .i64 (64))] []=some (.d (.tup [.sl (b.map byteD),.int .i64 0]),[]):=by
 rw[o_am];have z1:((0:Int) !=0)=false:=rfl;have z2:decide ((64:Int)<1)=false:=rfl;have z3:decide ((64:Int)>65536)=false:=rfl;have z4:((0:Int)==0)=true:=rfl;obtain⟨y,r,rfl⟩:∃ y r,b=y::r:=by cases b<;>first|exact absurd rfl h0|exact⟨_,_,rfl⟩
 simp only[List.length_cons] at hb;simp(disch:=first|exact yi|fail) only[go_sem,X_am,c_am,z1,z2,z3,z4,List.map_cons,List.length_cons,y9]
def poP (n:Nat):List Put:=[.u 1 n,.u 2 0,.u 3 0,.b 4 [0,12],.u 5 0,.u 6 1,.b 8000 [79,82,67]]
theorem qx (n:Nat):(putB (poP n)).length≤160:=by
 have:=py (poP n) 22 (fun x hx=>by
  simp only[poP,zb,zn,or_false] at hx;rcases hx with rfl|rfl|rfl|rfl|rfl|rfl|rfl
  · exact ze (av _ _).2 yj
  · exact ze (av _ _).2 yj
  · exact ze (av _ _).2 yj
  · decide
  · exact ze (av _ _).2 yj
  · exact ze (av _ _).2 yj
  · decide)
 rw[show(poP n).length=7 from rfl] at this
 omega
theorem nu (n:Nat) (hn:n≤65536):evL cfg n_ap 0 [.d (.agg [.int .i64 (n:Int),.int .i64 0,.int .i64 0,.int .i64 0])] []=some (.d (.tup [.sl ((putB (poP n)).map byteD),.int .i64 0]),[]):=by
 have q0:putB (poP n)=uintF 1 n++uintF 2 0++uintF 3 0++ag 4 [0,12]++uintF 5 0++uintF 6 1++ag 8000 [79,82,67]:=by
  simp[poP,putB,Put.bytes]
 have hlen:=qx n;rw[q0] at hlen ⊢;simp only[yy] at hlen;have u1:evL cfg n_av 0 [.d .nilS,.d (.int .i64 (1)),.d (.int .u64 ((n:Int)))] []=some (.own false 1 ((uintF 1 n).map byteD),[]):=da (num:=1) (v:=n) yj yj yj;have u2:evL cfg n_av 0 [.own false 1 ((uintF 1 n).map byteD),.d (.int .i64 (2)),.d (.int .u64 (0))] []=some (.own false 1 ((uintF 1 n++uintF 2 0).map byteD),[]):=ah (num:=2) (v:=0) yj yj yj yj;have u3:evL cfg n_av 0 [.own false 1 ((uintF 1 n++uintF 2 0).map byteD),.d (.int .i64 (3)),.d (.int .u64 (0))] []=some (.own false 1 ((uintF 1 n++uintF 2 0++uintF 3 0).map byteD),[]):=ah (num:=3) (v:=0) (by simp only[yy];omega) yj yj yj
 have u4:evL cfg n_ax 0 [.own false 1 ((uintF 1 n++uintF 2 0++uintF 3 0).map byteD),.d (.int .i64 (4)),.d (.sl [.int .u8 0,.int .u8 12])] []=some (.own false 1 ((uintF 1 n++uintF 2 0++uintF 3 0++ag 4 [0,12]).map byteD),[]):=bv (num:=4) (v:=[0,12]) (by simp only[yy];omega) yj yj ym
 have u5:evL cfg n_av 0 [.own false 1 ((uintF 1 n++uintF 2 0++uintF 3 0++ag 4 [0,12]).map byteD),.d (.int .i64 (5)),.d (.int .u64 (0))] []=some (.own false 1 ((uintF 1 n++uintF 2 0++uintF 3 0++ag 4 [0,12]++uintF 5 0).map byteD),[]):=ah (num:=5) (v:=0) (by simp only[yy];omega) yj yj yj
 have u6:evL cfg n_av 0 [.own false 1 ((uintF 1 n++uintF 2 0++uintF 3 0++ag 4 [0,12]++uintF 5 0).map byteD),.d (.int .i64 (6)),.d (.int .u64 (1))] []=some (.own false 1 ((uintF 1 n++uintF 2 0++uintF 3 0++ag 4 [0,12]++uintF 5 0++uintF 6 1).map byteD),[]):=ah (num:=6) (v:=1) (by simp only[yy];omega) yj yj yj
 have u7:evL cfg n_ax 0 [.own false 1 ((uintF 1 n++uintF 2 0++uintF 3 0++ag 4 [0,12]++uintF 5 0++uintF 6 1).map byteD),.d (.int .i64 (8000)),.d (.sl [.int .u8 79,.int .u8 82,.int .u8 67])] []=some (.own false 1 ((uintF 1 n++uintF 2 0++uintF 3 0++ag 4 [0,12]++uintF 5 0++uintF 6 1++ag 8000 [79,82,67]).map byteD),[]):=bv (num:=8000) (v:=[79,82,67]) (by simp only[yy];omega) yj yj ym
 clear hlen q0;have z0:((0:Int) !=0)=false:=rfl;have z1:((0:Int)==4)=false:=rfl;have z2:((0:Int)==0)=true:=rfl;have z3:decide ((0:Int)<0)=false:=rfl;have z4:decide ((0:Int)>65536)=false:=rfl;have d_a:decide ((n:Int)<0)=false:=by simp<;>omega
 have d_c:decide ((n:Int)>65536)=false:=by simp<;>omega
 rw[o_ap];generalize uintF 1 n++uintF 2 0++uintF 3 0++ag 4 [0,12]++uintF 5 0++uintF 6 1++ag 8000 [79,82,67]=x7 at *;generalize uintF 1 n++uintF 2 0++uintF 3 0++ag 4 [0,12]++uintF 5 0++uintF 6 1=x6 at *;generalize uintF 1 n++uintF 2 0++uintF 3 0++ag 4 [0,12]++uintF 5 0=x5 at *;generalize uintF 1 n++uintF 2 0++uintF 3 0++ag 4 [0,12]=x4 at *;generalize uintF 1 n++uintF 2 0++uintF 3 0=x3 at *;generalize uintF 1 n++uintF 2 0=x2 at *;generalize uintF 1 n=x1 at *;simp(disch:=first|exact yi|fail) only[go_sem,X_ap,c_ap,z0,z1,z2,z3,z4,d_a,d_c,u1,u2,u3,u4,u5,u6,u7,List.map_nil]
set_option maxRecDepth 100000
def seF (l:List N5) (rows:Nat):List UInt8:=putB (seP l rows)
def seZ (l:List N5) (rows:Nat):List UInt8:=putB (poP (seF l rows).length)
def endB (b0:List UInt8) (l:List N5) (rows:Nat):List UInt8:=b0++seF l rows++seZ l rows++[UInt8.ofNat (seZ l rows).length]
theorem len4' (a b c d:D):[a,b,c,d].length=4:=rfl
theorem seF_ne (l:List N5) (rows:Nat):seF l rows≠[]:=by
 intro h;have h2:=congrArg List.length h;unfold seF seP at h2;rw[zm,lq] at h2;simp only[putB,List.map_cons,List.map_nil,List.flatten_cons,List.flatten_nil,Put.bytes,yy,List.length_nil] at h2;have:=(av 1 3).1;omega
theorem qs (b0:List UInt8) (hb:b0.length≤600) (l:List N5) (hl:l.length≤20) (ok:∀ s∈l,n5ok s) (rows:Nat) (hr:rows≤262144):
  evL cfg n_ay 0 [.own false 1 (b0.map byteD),.d (.agg (footS ((l.map n5I).map s5D) rows)),.d (.agg [.int .i64 0,.int .i64 64,.int .i64 0,.int .i64 0,.int .i64 0,.int .i64 0])] []=some (.own false 1 ((endB b0 l rows).map byteD),[]):=by
 have g1:=atd l hl ok rows hr;have lF:=qj l rows;have hne:=seF_ne l rows;have g2:=pq (seF l rows) (by unfold seF;omega) hne
 have g3:=nu (seF l rows).length (by unfold seF;omega)
 have lZ:=qx (seF l rows).length;have e1:putB (seP l rows)=seF l rows:=rfl;have e2:putB (poP (seF l rows).length)=seZ l rows:=rfl;rw[e1] at g1 lF;rw[e2] at g3 lZ;have lF':(seF l rows).length≤4000:=yj;rw[show evL cfg n_ay 0 [.own false 1 (b0.map byteD),.d (.agg (footS ((l.map n5I).map s5D) rows)),.d (.agg [.int .i64 0,.int .i64 64,.int .i64 0,.int .i64 0,.int .i64 0,.int .i64 0])] []=go X_ay [.c c_ay] ⟨[(0,.own false 1 (b0.map byteD)),(1,.d (.agg (footS ((l.map n5I).map s5D) rows))),(2,.d (.agg [.int .i64 0,.int .i64 64,.int .i64 0,.int .i64 0,.int .i64 0,.int .i64 0]))],[]⟩ from au (fn:=i_ay) rfl rfl _ _ _ rfl rfl]
 unfold endB;have z0:((0:Int) !=0)=false:=rfl;have e8:byteD (UInt8.ofNat (seZ l rows).length)= .int .u8 ((seZ l rows).length:Int):=by
  show D.int .u8 ((UInt8.ofNat (seZ l rows).length).toNat:Int)=_;rw[UInt8.toNat_ofNat',aaf yj]
 rw[List.map_append,List.map_append,List.map_append,List.map_cons,List.map_nil,e8];unfold footS at g1 ⊢;clear lF e1 e2 e8;generalize seF l rows=F at *;generalize seZ l rows=Z at *;generalize(l.map n5I).map s5D=L at *;simp(disch:=first|exact yi|fail) only[go_sem,X_ay,c_ay,g1,g2,g3,z0,len12,len6,len4',y9,yy,wrap_u8]
set_option maxRecDepth 100000
theorem adz (b:List UInt8):headZ 1 (b.map byteD)=true:=by cases b<;>rfl
theorem rz (a b:List UInt8):evL cfg n_bo 0 [.d (.sl ((a).map byteD)),.d (.sl ((b).map byteD))] []=some (.d (.bool (a==b)),[]):=by
 rw[o_bo];simp(disch:=first|exact yi|fail) only[go_sem,X_bo,c_bo,r6]
theorem l8 (r:List UInt8) (hl:r.length≤1000000):evL cfg n_bk 0 [.d (.sl ((79::82::67::r).map byteD)),.d (.sl [.int .u8 79,.int .u8 82,.int .u8 67])] []=some (.d (.bool (true)),[]):=by
 have h:evL cfg n_bo 0 [.d (.sl [.int .u8 79,.int .u8 82,.int .u8 67]),.d (.sl [.int .u8 79,.int .u8 82,.int .u8 67])] []=some (.d (.bool (true)),[]):=rz [79,82,67] [79,82,67];have e:(79::82::67::r:List UInt8).map byteD=[.int .u8 79,.int .u8 82,.int .u8 67]++r.map byteD:=rfl;have el:(((([.int .u8 79,.int .u8 82,.int .u8 67]:List D)++r.map byteD).length:Nat):Int)=(r.length:Int)+3:=by simp;omega
 have et:(([.int .u8 79,.int .u8 82,.int .u8 67]:List D)++r.map byteD).take 3=[.int .u8 79,.int .u8 82,.int .u8 67]:=rfl;have eh:headZ 1 (([.int .u8 79,.int .u8 82,.int .u8 67]:List D)++r.map byteD)=true:=rfl;rw[e];generalize([.int .u8 79,.int .u8 82,.int .u8 67]:List D)++r.map byteD=W at *;rw[o_bk];have d_a:decide ((r.length:Int)+3≥3)=true:=by simp<;>omega
 simp(disch:=first|exact yi|fail) only[go_sem,X_bk,c_bk,el,cst3,d_a,eh,et,h,Int.reduceToNat,Int.reduceLE,decide_true]
theorem v9 (A Z:List UInt8) (r:List UInt8) (hA:A=79::82::67::r) (hA2:A.length≤100000) (hZ:Z≠[]) (hZ2:Z.length≤200):
  evL cfg n_bd 0 [.d (.sl ((A++Z++[UInt8.ofNat Z.length]).map byteD))] []=some (.d (.tup [.sl (Z.map byteD),.int .i64 (A.length:Int),.int .i64 0]),[]):=by
 have hz:1≤Z.length:=by cases Z<;>first|exact absurd rfl hZ|simp
 have h3:3≤A.length:=by rw[hA];simp
 have hp:evL cfg n_bk 0 [.d (.sl ((A++Z++[UInt8.ofNat Z.length]).map byteD)),.d (.sl [.int .u8 79,.int .u8 82,.int .u8 67])] []=some (.d (.bool (true)),[]):=by
  have:=l8 (r++Z++[UInt8.ofNat Z.length]) (by
   have:=congrArg List.length hA;simp only[List.length_cons] at this;simp only[yy,List.length_cons,List.length_nil];omega)
  rw[hA];exact this
 have hl:((A++Z++[UInt8.ofNat Z.length]).map byteD).length=A.length+Z.length+1:=by simp;omega
 have hi:((A++Z++[UInt8.ofNat Z.length]).map byteD)[A.length+Z.length]? =some (.int .u8 (Z.length:Int)):=by
  rw[yw,List.getElem?_append_right yl];simp only[yy,Nat.sub_self,List.getElem?_cons_zero,Option.map_some];show some (D.int .u8 ((UInt8.ofNat Z.length).toNat:Int))=_;rw[UInt8.toNat_ofNat',aaf yj]
 have hs:(((A++Z++[UInt8.ofNat Z.length]).map byteD).take (A.length+Z.length)).drop A.length=Z.map byteD:=by
  rw[List.map_append,List.map_append,List.take_left' yl,List.drop_left' yl]
 have hh:headZ 1 ((A++Z++[UInt8.ofNat Z.length]).map byteD)=true:=adz _;have hc:=du Z yj;rw[show Z.isEmpty=false by cases Z<;>first|exact absurd rfl hZ|rfl] at hc
 simp only[yz,if_false] at hc;clear hA;rw[o_bd];generalize(A++Z++[UInt8.ofNat Z.length]).map byteD=W at *;have e1:((A.length+Z.length+1:Nat):Int)-1=((A.length+Z.length:Nat):Int):=yj;have e2:((A.length+Z.length:Nat):Int)-(Z.length:Int)=(A.length:Int):=yj;have e3:(((A.length+Z.length+1:Nat):Int)==0)=false:=by simp;omega
 have e4:((Z.length:Int)==0)=false:=by simp;omega
 have d_a:decide ((A.length:Int)<3)=false:=by simp<;>omega
 generalize hN:A.length+Z.length=N at *;simp(disch:=first|exact yi|fail) only[go_sem,X_bd,c_bd,hl,e1,e2,e3,e4,d_a,hi,hp,hh,hs,hc,aak]
