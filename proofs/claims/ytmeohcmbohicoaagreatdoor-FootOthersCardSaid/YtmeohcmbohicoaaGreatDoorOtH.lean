import Derived.Test.YtmeohcmbohicoaaGreatDoorOtG
namespace Go.Proofs.YtmeohcmbohicoaaGreatDoor
open Go Go.Ev
set_option maxHeartbeats 8000000
set_option maxRecDepth 10000
theorem iq (k:Int):evL cfg n_bt 0 [.d (.int .i64 (k))] []=some (.d (.bool (k==7||k==16||k==17||k==8)),[]):=by
 rw[o_bt];simp(disch:=first|exact vm|fail) only[go_sem,X_bt,c_bt]
 repeat' ((try rw[goQ_b])<;>split<;>rename_i hh<;>(try simp only[wk,wg,v7,v9] at hh)<;>(try simp(disch:=first|exact vm|fail) only[*,go_sem]))
theorem qq (k:Int):evL cfg n_bw 0 [.d (.int .i64 (k))] []=some (.d (.bool (decide (k≥1)&&decide (k≤4))),[]):=by
 rw[o_bw];simp(disch:=first|exact vm|fail) only[go_sem,X_bw,c_bw]
 repeat' ((try rw[goQ_b])<;>split<;>rename_i hh<;>(try simp only[wk,wg,v7,v9] at hh)<;>(try simp(disch:=first|exact vm|fail) only[*,go_sem]))
theorem oy (k:Int):evL cfg n_bu 0 [.d (.int .i64 (k))] []=some (.d (.bool ((k==7||k==16||k==17||k==8)&&k !=8)),[]):=by
 rw[o_bu];simp(disch:=first|exact vm|fail) only[go_sem,X_bu,c_bu,iq]
 repeat' ((try rw[goQ_b])<;>split<;>rename_i hh<;>(try simp only[wk,wg,v7,v9] at hh)<;>(try simp(disch:=first|exact vm|fail) only[*,go_sem,iq]))
theorem axj:stat1=uintF 1 1++uintF 10 0:=vr
theorem nh (t:Ty):evL cfg n_aa 0 [.d t.d,.d ag] []=some (.own false 1 (stat1.map byteD),[]):=by
 have f1:=qq t.kind;have f2:=oy t.kind;have u1:evL cfg n_bf 0 [.d .nilS,.d (.int .i64 (1)),.d (.int .u64 (1))] []=some (.own false 1 ((uintF 1 1).map byteD),[]):=bv (num:=1) (v:=1) vn vn vn;have u10:evL cfg n_bf 0 [.own false 1 ((uintF 1 1).map byteD),.d (.int .i64 (10)),.d (.int .u64 (0))] []=some (.own false 1 ((uintF 1 1++uintF 10 0).map byteD),[]):=bb (b:=uintF 1 1) (num:=10) (v:=0) (xo (a8 _ _).2 vn) vn vn vn;rw[o_aa,axj];unfold ag;simp(disch:=first|exact vm|fail) only[go_sem,X_aa,c_aa,f1,f2,u1,u10]
 repeat' ((try rw[goQ_b])<;>split<;>rename_i hh<;>(try simp only[wk,wg,v7,v9] at hh)<;>(try simp(disch:=first|exact vm|fail) only[*,go_sem,f1,f2,u1,u10]))
def footR (t:Ty) (n:Nat):List D:=[.int .i64 0,.sl [],.int .i64 t.kind,.sl (t.names.map D.str),.sl (t.kids.map Ty.d),.int .i64 t.len,.int .i64 t.prec,.int .i64 t.scale,.sl [],.int .i64 5,.sl (List.replicate n ag),.int .i64 7]
abbrev bR (t:Ty) (n:Nat):List (Cel×V):=[(⟨0,1,0⟩,.d (.int .i64 (0))),(⟨0,1,1⟩,.d (.sl [])),(⟨0,1,2⟩,.d (.int .i64 (t.kind))),(⟨0,1,3⟩,.d (.sl (t.names.map D.str))),(⟨0,1,4⟩,.d (.sl (t.kids.map Ty.d))),(⟨0,1,5⟩,.d (.int .i64 (t.len))),(⟨0,1,6⟩,.d (.int .i64 (t.prec))),(⟨0,1,7⟩,.d (.int .i64 (t.scale))),(⟨0,1,8⟩,.d (.sl [])),(⟨0,1,9⟩,.d (.int .i64 (5))),(⟨0,1,10⟩,.d (.sl (List.replicate n ag))),(⟨0,1,11⟩,.d (.int .i64 (7)))]
abbrev enE (L:List (Ty×List Nat×Int×Int)) (b:List UInt8) (i:Nat):List (Nat×V):=[(1,.ref 0 1 0),(4,.d (.sl (L.map sigD))),(8,.own false 1 (b.map byteD)),(14,.d (.int .i64 ((i:Int))))]
theorem au5 (t:Ty) (L:List (Ty×List Nat×Int×Int)) (n:Nat) (hn:n=L.length) (hn':n≤1000) (K:List Kf):∀ (m i:Nat) (b:List UInt8),n-i=m→i≤n→b.length≤100000+24*i→
  go X_ac (.c (.loop akx):: .b 8::K) ⟨enE L b i,bR t n⟩=
   go X_ac K ⟨enE L (b++putB (List.replicate m (.b 7 stat1))) n++[(178,.d (.bool (false)))],bR t n⟩
 | 0,i,b,hm,hi,hb=>by
  have:i=n:=vn;subst this;have d_a:decide ((i:Int)<i)=false:=by simp<;>omega
  rw[go_loop,List.replicate_zero,putB_nil,List.append_nil];simp only[enE,bR,List.cons_append,List.nil_append];simp(maxSteps:=2000000) (disch:=first|exact vm|fail) only[go_sem,X_ac,d_a,List.length_replicate]
 | m+1,i,b,hm,hi,hb=>by
  have q1:=(bz 7 stat1).2;have q2:stat1.length=4:=rfl;have ih:=au5 t L n hn hn' K m (i+1) (b++av 7 stat1) vn vn (by rw[v8];omega)
  have e:b++av 7 stat1++putB (List.replicate m (.b 7 stat1))=b++putB (List.replicate (m+1) (.b 7 stat1)):=by
   rw[List.replicate_succ,iu,wh];rfl
  rw[e] at ih;refine Eq.trans ?_ ih;have hlt:i<L.length:=vn;obtain⟨x,hx⟩:∃ x,L[i]? =some x:=⟨L[i],vy hlt⟩
  have hs:(List.replicate n ag)[i]? =some ag:=by rw[List.getElem?_replicate,if_pos vn]
  have p1:=nh x.1;have p2:evL cfg n_ba 0 [.own false 1 (b.map byteD),.d (.int .i64 (7)),.d (.sl ((stat1).map byteD))] []=some (.own false 1 ((b++av 7 stat1).map byteD),[]):=bl (b:=b) (v:=stat1) (num:=7) vn vn vn vn;have hsg:sigD x= .agg [.int .i64 x.1.kind,.sl (x.1.names.map D.str),.sl (x.1.kids.map Ty.d),.int .i64 x.1.len,.int .i64 x.1.prec,.int .i64 x.1.scale,.sl (x.2.1.map fun k=> .int .i64 (k:Nat)),.int .i64 x.2.2.1,.int .i64 x.2.2.2]:=rfl
  have hx2:(L.map sigD)[i]? =some (sigD x):=by rw[v6,hx,Option.map_some]
  have hL:(L.map sigD).length=n:=by rw[vu,hn]
  rw[hsg] at hx2;have d_a:decide ((i:Int)<n)=true:=by simp<;>omega
  unfold enE bR;rw[show(((i+1:Nat)):Int)=(i:Int)+1 by omega]
  have hSl:(List.replicate n ag).length=n:=List.length_replicate;generalize List.replicate n ag=S at *;unfold ag at p1 hs;generalize av 7 stat1=q at *;generalize L.map sigD=LL at*
  conv=>lhs;rw[go_loop]
  simp(maxSteps:=2000000) (disch:=first|exact vm|fail) only[go_sem,X_ac,d_a,hSl,hx2,hs,hL,p1,p2,len15,List.take_succ_cons,List.take_zero]
theorem in_0:evL cfg n_cc 0 [.d (.int .i64 (0))] []=some (.d (.bool (true)),[]):=az (n:=20) vo
theorem in_5:evL cfg n_cc 0 [.d (.int .i64 (5))] []=some (.d (.bool (true)),[]):=az (n:=20) vo
theorem in_7:evL cfg n_cc 0 [.d (.int .i64 (7))] []=some (.d (.bool (true)),[]):=az (n:=20) vo
theorem a6m (t:Ty) (b:List UInt8) (hb:b.length≤500) (hs:smallT t.size t) (h:(chkT 1 0 t).2=0):
  evL cfg n_ab 0 [.own false 1 (b.map byteD),.d t.d] []=some (.own false 1 ((b++ndsB (ndT t)).map byteD),[]):=by
 have hz:=fp h;have ok:=nd_ok h;have hl:=ajs h;have hne:∃ y r,flatR 0 (-1) 1 t=y::r:=by cases t with
  |mk k ns ks l p s=>exact⟨_,_,by rw[flatR]⟩
 have hlen:(flatR 0 (-1) 1 t).length≤100000:=by
  have:=flatT_len t 0 (-1) 1;rw[po,vu] at this;omega
 have f2:=dv t hs h;have own:∀ x∈flatR 0 (-1) 1 t,ownM x.1=0:=fun x hx=>(fz _ t 1 0 0 (-1) 1 (wa _) h x hx).1
 rw[show(flatR 0 (-1) 1 t).map sigD=((flatR 0 (-1) 1 t).map fun n=>(ndOf n,D.sl (n.1.kids.map Ty.d),D.int .i64 n.2.2.1,D.int .i64 n.2.2.2)).map nodR by
  rw[List.map_map];exact List.map_congr_left fun x hx=>ndOf_R (own x hx)] at f2
 have e2:((flatR 0 (-1) 1 t).map fun n=>(ndOf n,D.sl (n.1.kids.map Ty.d),D.int .i64 n.2.2.1,D.int .i64 n.2.2.2)).map Prod.fst=(flatR 0 (-1) 1 t).map ndOf:=by rw[List.map_map];rfl
 rw[t.d_eq] at f2 ⊢;have:=kp b _ _ _ _ _ _ rfl rfl rfl rfl rfl rfl rfl rfl rfl rfl rfl rfl _ f2 (by rw[vu];exact hlen) (by
  obtain⟨y,r,e⟩:=hne;rw[e];simp) (fun n hn=>by
  obtain⟨x,hx,rfl⟩:=xr.1 hn;exact ok x hx) (by rw[e2,v8];omega)
 rw[e2] at this;exact this
theorem ni (t:Ty) (hs:smallT t.size t) (h:(chkT 1 0 t).2=0):evL cfg n_ac 0 [.d (.agg (footR t t.size))] []=some (.d (.tup [.sl ((putB (encP t)).map byteD),.int .i64 0]),[]):=by
 have hz:=fp h;have hpos:=t.size_pos;obtain⟨hel,_⟩:=encP_len h;have hc:=ref13_Check_ans t hs;rw[h] at hc;have hf:=dv t hs h;have hLn:(flatR 0 (-1) 1 t).length=t.size:=by rw[← flL_len t 0,pq t 0 (-1) 1,vu]
 have u1:evL cfg n_bf 0 [.d .nilS,.d (.int .i64 (1)),.d (.int .u64 (3))] []=some (.own false 1 ((uintF 1 3).map byteD),[]):=bv (num:=1) (v:=3) vn vn vn;have u2:evL cfg n_bf 0 [.own false 1 ((uintF 1 3).map byteD),.d (.int .i64 (2)),.d (.int .u64 (0))] []=some (.own false 1 ((uintF 1 3++uintF 2 0).map byteD),[]):=bb (b:=uintF 1 3) (num:=2) (v:=0) (xo (a8 _ _).2 vn) vn vn vn;have l12:(uintF 1 3++uintF 2 0).length≤40:=by
  rw[v8];have:=(a8 1 3).2;have:=(a8 2 0).2;omega
 have pt:=a6m t (uintF 1 3++uintF 2 0) vn hs h;have hnl:(ndsB (ndT t)).length≤40000:=ajs h;have u6:evL cfg n_bf 0 [.own false 1 ((uintF 1 3++uintF 2 0++ndsB (ndT t)).map byteD),.d (.int .i64 (6)),.d (.int .u64 (5))] []=some (.own false 1 ((uintF 1 3++uintF 2 0++ndsB (ndT t)++uintF 6 5).map byteD),[]):=
  bb (b:=uintF 1 3++uintF 2 0++ndsB (ndT t)) (num:=6) (v:=5) (by rw[v8];omega) vn vn vn
 have l6:(uintF 1 3++uintF 2 0++ndsB (ndT t)++uintF 6 5).length≤40060:=by
  rw[v8,v8];have:=(a8 6 5).2;omega
 have lp:=fun K=>au5 t (flatR 0 (-1) 1 t) t.size hLn.symm vn K t.size 0 (uintF 1 3++uintF 2 0++ndsB (ndT t)++uintF 6 5) (Nat.sub_zero _) (ww _) vn
 have lr:(putB (List.replicate t.size (Put.b 7 stat1))).length≤24*t.size:=by
  have:=th (List.replicate t.size (Put.b 7 stat1)) 24 (fun x hx=>by
   rw[(List.mem_replicate.1 hx).2];exact(bz 7 stat1).2)
  rwa [List.length_replicate] at this
 have u8:evL cfg n_bf 0 [.own false 1 ((uintF 1 3++uintF 2 0++ndsB (ndT t)++uintF 6 5++putB (List.replicate t.size (.b 7 stat1))).map byteD),.d (.int .i64 (8)),.d (.int .u64 (7))] []=some (.own false 1 ((uintF 1 3++uintF 2 0++ndsB (ndT t)++uintF 6 5++putB (List.replicate t.size (.b 7 stat1))++uintF 8 7).map byteD),[]):=
  bb (num:=8) (v:=7) (by rw[v8];omega) vn vn vn
 have ee:uintF 1 3++uintF 2 0++ndsB (ndT t)++uintF 6 5++putB (List.replicate t.size (.b 7 stat1))++uintF 8 7=putB (encP t):=by
  unfold encP;simp only[eu,ndsP_put];simp only[putB,List.map_cons,List.map_nil,List.flatten_cons,List.flatten_nil,Put.bytes,List.append_nil,wh]
 rw[ee] at u8;rw[o_ac];unfold footR;unfold enE bR at lp;simp only[List.cons_append,List.nil_append] at lp;rw[show((0:Nat):Int)=0 from rfl] at*
 generalize uintF 1 3++uintF 2 0=q2 at *;generalize uintF 1 3=q1 at *;generalize ndsB (ndT t)=q3 at *;generalize uintF 6 5=q4 at *;generalize putB (List.replicate t.size (Put.b 7 stat1))=q5 at *;have hSl:(List.replicate t.size ag).length=t.size:=List.length_replicate;generalize List.replicate t.size ag=S at *;have hLl:((flatR 0 (-1) 1 t).map sigD).length=t.size:=by rw[vu,hLn]
 generalize(flatR 0 (-1) 1 t).map sigD=LL at *;have e1:((t.size:Int)==(t.size:Int))=true:=beq_self_eq_true _;have z1:decide ((0:Int)≤1024)=true:=rfl;have z2:decide ((0:Int)≤32)=true:=rfl;have z3:decide ((0:Int)<0)=false:=rfl;simp(maxSteps:=2000000) (disch:=first|exact vm|fail) only[go_sem,X_ac,c_ac,hc,hf,in_0,in_5,in_7,hSl,hLl,e1,z1,z2]
 conv=>lhs;rw[go_loop]
 simp(maxSteps:=2000000) (disch:=first|exact vm|fail) only[go_sem,X_ac,z3,u1,u2]
 conv=>lhs;rw[go_loop]
 simp(maxSteps:=2000000) (disch:=first|exact vm|fail) only[go_sem,X_ac,z3,pt]
 conv=>lhs;rw[go_loop]
 simp(maxSteps:=2000000) (disch:=first|exact vm|fail) only[go_sem,X_ac,z3,u6]
 refine(lp _).trans ?_;have hgl:decide (((putB (encP t)).length:Int)>65536)=false:=by simp;omega
 simp(maxSteps:=2000000) (disch:=first|exact vm|fail) only[go_sem,X_ac,u8,hgl,vu]
