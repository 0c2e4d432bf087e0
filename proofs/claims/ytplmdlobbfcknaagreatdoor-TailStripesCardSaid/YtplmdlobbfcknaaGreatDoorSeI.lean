import Derived.Test.YtplmdlobbfcknaaGreatDoorSeF
namespace Go.Proofs.YtplmdlobbfcknaaGreatDoor
open Go Go.Ev
set_option maxHeartbeats 8000000
set_option maxRecDepth 100000
theorem adc:evL cfg n_bq 0 [.d (.int .u64 (0))] []=some (.d (.tup [.bool true,.bool false]),[]):=ap (n:=20) yk
theorem po_read (n:Nat) (hn:n≤65536):∃ p1 p2 p3 p4 p5 p6 p7:Nat,aw (putB (poP n))=([⟨1,0,n,[],p1⟩,⟨2,0,0,[],p2⟩,⟨3,0,0,[],p3⟩,⟨4,2,0,[0,12],p4⟩,⟨5,0,0,[],p5⟩,⟨6,0,1,[],p6⟩,⟨8000,2,0,[79,82,67],p7⟩],0):=by
 have hl:=qx n;obtain⟨fs,h1,h2⟩:=n9 (poP n) (fun x hx=>by
  simp only[poP,zb,zn,or_false] at hx;rcases hx with rfl|rfl|rfl|rfl|rfl|rfl|rfl<;>simp[Put.ok]<;>omega) yj (by simp[poP])
 rw[h1];have h3:fs.length=7:=by
  have:=congrArg List.length h2;simpa[poP] using this
 match fs,h3,h2 with
 | [f1,f2,f3,f4,f5,f6,f7],_,h2=>
  obtain⟨a1,b1,c1,d1,e1⟩:=f1;obtain⟨a2,b2,c2,d2,e2⟩:=f2;obtain⟨a3,b3,c3,d3,e3⟩:=f3;obtain⟨a4,b4,c4,d4,e4⟩:=f4;obtain⟨a5,b5,c5,d5,e5⟩:=f5;obtain⟨a6,b6,c6,d6,e6⟩:=f6;obtain⟨a7,b7,c7,d7,e7⟩:=f7;simp only[poP,List.map_cons,List.map_nil,Put.core,Put.fld,Fld.core,List.cons.injEq,Prod.mk.injEq,and_true] at h2;obtain⟨⟨rfl,rfl,rfl,rfl⟩,⟨rfl,rfl,rfl,rfl⟩,⟨rfl,rfl,rfl,rfl⟩,⟨rfl,rfl,rfl,rfl⟩,⟨rfl,rfl,rfl,rfl⟩,⟨rfl,rfl,rfl,rfl⟩,rfl,rfl,rfl,rfl⟩:=h2;exact⟨_,_,_,_,_,_,_,rfl⟩
theorem qw (n:Nat) (hn:n≤65536):evL cfg n_aq 0 [.d (.sl ((putB (poP n)).map byteD))] []=some (.d (.tup [.agg [.int .i64 (n:Int),.int .i64 0,.int .i64 0,.int .i64 0],.int .i64 0]),[]):=by
 obtain⟨p1,p2,p3,p4,p5,p6,p7,h⟩:=po_read n hn;have g1:=di (putB (poP n)) (ze (qx n) yj);rw[h] at g1;unfold o9 at g1;simp only at g1;generalize putB (poP n)=Z at *;generalize hfs:([⟨1,0,n,[],p1⟩,⟨2,0,0,[],p2⟩,⟨3,0,0,[],p3⟩,⟨4,2,0,[0,12],p4⟩,⟨5,0,0,[],p5⟩,⟨6,0,1,[],p6⟩,⟨8000,2,0,[79,82,67],p7⟩]:List Fld)=fs at *;have hl:fs.length=7:=by rw[← hfs];rfl
 have hb:∀ f∈fs,f.b.length≤1000000:=fun f hf=>by
  rw[← hfs] at hf;simp only[zb,zn,or_false] at hf;rcases hf with rfl|rfl|rfl|rfl|rfl|rfl|rfl<;>simp
 have t:evL cfg n_bt 0 [.d (.sl (fs.map Fld.d)),.d (.int .i64 (8000))] []=some (.d (.tup [.sl (([79,82,67]:List UInt8).map byteD),.bool true]),[]):=by
  have:=lr fs 8000 yj hb;rw[show lastM fs 8000 2=some ⟨8000,2,0,[79,82,67],p7⟩ by rw[← hfs];rfl] at this
  exact this
 have u1:evL cfg n_br 0 [.d (.sl (fs.map Fld.d)),.d (.int .i64 (1))] []=some (.d (.tup [.int .u64 (n:Int),.bool true]),[]):=by
  have:=gh fs 1 yj;rw[show lastM fs 1 0=some ⟨1,0,n,[],p1⟩ by rw[← hfs];rfl] at this
  exact this
 have u2:evL cfg n_br 0 [.d (.sl (fs.map Fld.d)),.d (.int .i64 (2))] []=some (.d (.tup [.int .u64 0,.bool true]),[]):=by
  have:=gh fs 2 yj;rw[show lastM fs 2 0=some ⟨2,0,0,[],p2⟩ by rw[← hfs];rfl] at this
  exact this
 have u3:evL cfg n_br 0 [.d (.sl (fs.map Fld.d)),.d (.int .i64 (3))] []=some (.d (.tup [.int .u64 0,.bool true]),[]):=by
  have:=gh fs 3 yj;rw[show lastM fs 3 0=some ⟨3,0,0,[],p3⟩ by rw[← hfs];rfl] at this
  exact this
 have u5:evL cfg n_br 0 [.d (.sl (fs.map Fld.d)),.d (.int .i64 (5))] []=some (.d (.tup [.int .u64 0,.bool true]),[]):=by
  have:=gh fs 5 yj;rw[show lastM fs 5 0=some ⟨5,0,0,[],p5⟩ by rw[← hfs];rfl] at this
  exact this
 have c:=adc;rw[o_aq];have d_a:decide ((n:Int)>65536)=false:=by simp<;>omega
 have z1:decide ((0:Int)>65536)=false:=rfl;obtain⟨M,hM⟩:∃ M:List UInt8,M=[79,82,67]:=⟨_,rfl⟩
 rw[← hM] at t;have z2:(M==([79,82,67]:List UInt8))=true:=by rw[hM];rfl
 clear hfs h hb hM;simp(disch:=first|exact yi|fail) only[go_sem,X_aq,c_aq,g1,t,u1,u2,u3,u5,c,d_a,z1,z2,Bool.not_true,r6,len4']
set_option maxRecDepth 100000
theorem asv {s:N5} (h:n5ok s):∃ fs,aw (putB (stU s))=(fs,0)∧fs.map Fld.core=(stU s).map Put.core:=by
 have hl:=afc s;obtain⟨h1,h2,h3,h4,h5⟩:=h;exact n9 (stU s) (fun x hx=>by
  simp only[stU,zb,zn,or_false] at hx;rcases hx with rfl|rfl|rfl|rfl|rfl<;>simp only[Put.ok]<;>omega) yj (by simp[stU])
def stF (s:N5):List Fld:=(aw (putB (stU s))).1
theorem stF_u {s:N5} (h:n5ok s):uM (stF s) 1=s.1∧uM (stF s) 2=s.2.1∧uM (stF s) 3=s.2.2.1∧uM (stF s) 4=s.2.2.2.1∧uM (stF s) 5=s.2.2.2.2∧(stF s).length=5:=by
 obtain⟨fs,h1,h2⟩:=asv h;unfold stF;rw[h1];simp only;refine⟨?_,?_,?_,?_,?_,?_⟩
 · rw[jv,h2];rfl
 · rw[jv,h2];rfl
 · rw[jv,h2];rfl
 · rw[jv,h2];rfl
 · rw[jv,h2];rfl
 · have:=congrArg List.length h2;simpa[stU] using this
theorem stF_ok {s:N5} (h:n5ok s):strOk (stF s):=by
 obtain⟨h1,h2,h3,h4,h5,h6⟩:=stF_u h;obtain⟨k1,k2,k3,k4,k5⟩:=h;unfold strOk;rw[h1,h2,h3,h4,h5,h6];omega
theorem stF_d {s:N5} (h:n5ok s):strD (stF s)=s5D (n5I s):=by
 obtain⟨h1,h2,h3,h4,h5,_⟩:=stF_u h;unfold strD;rw[h1,h2,h3,h4,h5];rfl
theorem aql:(aw stat0).2=0:=yk
theorem aix:aw (putB [.u 1 12])=([⟨1,0,12,[],0⟩],0):=yk
def jh (l:List N5):Parts:=⟨l.map stF,[[⟨1,0,12,[],0⟩]],[],[(aw stat0).1],[stat0]⟩
theorem apr:∀ (l:List N5) (p:Parts),((l.map stP).map Put.core).foldl addC p={p with a:=p.a++l.map stF}
 | [],p=>by simp
 | r::rs,p=>by
  rw[List.map_cons,List.map_cons,List.foldl_cons,apr rs];have:addC p (stP r).core={p with a:=p.a++[stF r]}:=rfl;rw[this];simp
theorem seP_core (l:List N5) (rows:Nat):(seP l rows).map Put.core=[(1,0,3,[]),(2,0,0,[])]++(((l.map stP).map Put.core)++[(4,2,0,putB [.u 1 12]),(6,0,rows,[]),(7,2,0,stat0),(8,0,0,[])]):=by
 unfold seP;rw[List.map_append,List.map_append,zm];rfl
theorem se_ok (l:List N5) (hl:l.length≤20) (ok:∀ s∈l,n5ok s) (rows:Nat) (hr:rows≤262144):∃ fs,FootOk (seF l rows) fs (jh l)∧uM fs 2=0∧uM fs 6=rows∧uM fs 8=0:=by
 have hlen:=qj l rows;obtain⟨fs,h1,h2⟩:=n9 (seP l rows) (fun x hx=>by
   unfold seP at hx;simp only[zw,zb,zn,or_false,zz] at hx;rcases hx with((rfl|rfl)|⟨s,_,rfl⟩)|rfl|rfl|rfl|rfl<;>simp only[Put.ok,stP]<;>omega) yj (by simp[seP];omega)
 rw[seP_core] at h2;have u2:uM fs 2=0:=by
   rw[jv,h2,asm _ _ _ (fun c hc=> ?_)]
   · rfl
   · simp only[zw,zb,zn,or_false,zz] at hc
     rcases hc with⟨_,⟨r,_,rfl⟩,rfl⟩|rfl|rfl|rfl|rfl<;>simp[stP,Put.core,Put.fld,Fld.core]
 have e:∀ X:List Cr,[(1,0,3,[]),(2,0,0,[])]++(X++[(4,2,0,putB [.u 1 12]),(6,0,rows,[]),(7,2,0,stat0),(8,0,0,[])])=((([(1,0,3,[]),(2,0,0,[])]++(X++[(4,2,0,putB [.u 1 12])]))++[(6,0,rows,[])])++[(7,2,0,stat0)])++[(8,0,0,[])]:=by intro X;simp
 have u8:uM fs 8=0:=by rw[jv,h2,e,qe,if_pos ⟨rfl,rfl⟩]
 have u6:uM fs 6=rows:=by rw[jv,h2,e,qe,if_neg yl,qe,if_neg yl,qe,if_pos ⟨rfl,rfl⟩]
 refine⟨fs,⟨by unfold seF;omega,h1,asj fun c hc=> ?_,?_,by omega,by omega,by omega,by simp[jh];omega,fun x hx=> ?_,rfl,by simp[jh],by simp[jh]⟩,u2,u6,u8⟩
 · rw[h2] at hc
   simp only[zw,zb,zn,or_false,zz] at hc;rcases hc with(rfl|rfl)| (⟨_,⟨r,hr,rfl⟩,rfl⟩|rfl|rfl|rfl|rfl)
   · intro h;simp at h
   · intro h;simp at h
   · intro _ _
     obtain⟨gs,g1,g2⟩:=asv (ok r hr);show(aw (putB (stU r))).2=0;rw[g1]
   · intro _ _;rw[aix]
   · intro h;simp at h
   · intro _ _;exact aql
   · intro h;simp at h
 · rw[xv,h2,List.foldl_append,List.foldl_append,apr]
   unfold jh;simp[addC,aix,oa]
 · unfold jh at hx
   obtain⟨r,hr,rfl⟩:=zz.1 hx;exact stF_ok (ok r hr)
theorem sy (l:List N5) (hl:l.length≤20) (ok:∀ s∈l,n5ok s) (rows:Nat) (hr:rows≤262144):
  evL cfg n_ag 0 [.d (.sl ((seF l rows).map byteD))] []=some (.d (.tup [.agg (footS ((l.map n5I).map s5D) rows),.int .i64 0]),[]):=by
 obtain⟨fs,h,u2,u6,u8⟩:=se_ok l hl ok rows hr;have:=rf h [jq] (az9 _ rfl);unfold footD at this;rw[u2,u6,u8,show(jh l).a.map strD=(l.map n5I).map s5D by
  unfold jh;rw[List.map_map,List.map_map];exact List.map_congr_left fun r hr=>stF_d (ok r hr),show(jh l).c.map pairD=[] from rfl] at this
 exact this
set_option maxRecDepth 100000
theorem wz:evL cfg n_ct 0 [.d (.int .i64 (0))] []=some (.d (.bool (true)),[]):=ap (n:=20) yk
theorem ot (b:List UInt8) (hb:b.length≤65536) (h0:b≠[]):evL cfg n_ak 0 [.d (.sl ((b).map byteD)),.d (.int .i64 (0)),.d (.int .i64 (64)),.d (.int .i64 (65536))] []=some (.d (.tup [.sl (b.map byteD),.int .i64 0]),[]):=by
 have hc:=du b yj;rw[show b.isEmpty=false by cases b<;>first|exact absurd rfl h0|rfl] at hc
 simp only[yz,if_false] at hc;have hk:=wz;have d_a:decide ((b.length:Int)>65536)=false:=by simp<;>omega
 have z2:decide ((64:Int)<1)=false:=rfl;have z3:decide ((64:Int)>65536)=false:=rfl;have z4:decide ((65536:Int)<0)=false:=rfl;have z5:decide ((65536:Int)>262144)=false:=rfl;have z6:((0:Int)==0)=true:=rfl;rw[o_ak];simp(disch:=first|exact yi|fail) only[go_sem,X_ak,c_ak,hk,hc,d_a,z2,z3,z4,z5,z6,y9,Bool.not_true]
theorem vy (b0 F:List UInt8) (r:List UInt8) (h0:b0=79::82::67::r) (hb:b0.length≤600) (hF:F.length≤4000):
  evL cfg n_bc 0 [.d (.sl ((b0++F++putB (poP F.length)++[UInt8.ofNat (putB (poP F.length)).length]).map byteD))] []=some (.d (.tup [.agg [.int .i64 (F.length:Int),.int .i64 0,.int .i64 0,.int .i64 0],.int .i64 ((b0.length+F.length:Nat):Int),.int .i64 0]),[]):=by
 have lZ:=qx F.length;have g2:=qw F.length yj;have hZ:putB (poP F.length)≠[]:=by
  intro h;have h2:=congrArg List.length h;unfold poP at h2;simp only[putB,List.map_cons,List.map_nil,List.flatten_cons,List.flatten_nil,Put.bytes,yy,List.length_nil] at h2;have:=(av 1 F.length).1;omega
 have h3:3≤b0.length:=by rw[h0];simp
 have g1:=v9 (b0++F) (putB (poP F.length)) (r++F) (by rw[h0];rfl) (by rw[yy];omega) hZ yj
 rw[yy] at g1;have hl:((b0++F++putB (poP F.length)++[UInt8.ofNat (putB (poP F.length)).length]).map byteD).length=b0.length+F.length+(putB (poP F.length)).length+1:=by simp;omega
 generalize putB (poP F.length)=Z at *;generalize(b0++F++Z++[UInt8.ofNat Z.length]).map byteD=W at *;rw[o_bc];have d_a:decide (((b0.length+F.length+Z.length+1:Nat):Int)>262144)=false:=by simp<;>omega
 have d_b:decide ((F.length:Int)>((b0.length+F.length:Nat):Int)-3)=false:=by simp<;>omega
 have d_c:decide ((0:Int)>((b0.length+F.length:Nat):Int)-3-(F.length:Int))=false:=by simp<;>omega
 have z0:((0:Int) !=0)=false:=rfl;generalize hN:b0.length+F.length=N at *;simp(disch:=first|exact yi|fail) only[go_sem,X_bc,c_bc,g1,g2,hl,z0,d_a,d_b,d_c,len4']
abbrev mT (n rows:Int) (L:List D):List (Cel×V):=[(⟨0,3,0⟩,.d (.int .i64 (n))),(⟨0,3,1⟩,.d (.int .i64 (0))),(⟨0,3,2⟩,.d (.int .i64 (0))),(⟨0,3,3⟩,.d (.int .i64 (0))),
 (⟨0,4,0⟩,.d (.int .i64 (0))),(⟨0,4,1⟩,.d .nilS),(⟨0,4,2⟩,.d (.int .i64 (0))),(⟨0,4,3⟩,.d .nilS),(⟨0,4,4⟩,.d .nilS),(⟨0,4,5⟩,.d (.int .i64 (0))),(⟨0,4,6⟩,.d (.int .i64 (0))),(⟨0,4,7⟩,.d (.int .i64 (0))),(⟨0,4,8⟩,.d .nilS),(⟨0,4,9⟩,.d (.int .i64 (0))),(⟨0,4,10⟩,.d .nilS),(⟨0,4,11⟩,.d (.int .i64 (0))),
 (⟨0,9,0⟩,.d (.int .i64 (0))),(⟨0,9,1⟩,.d (.sl L)),(⟨0,9,2⟩,.d (.int .i64 (12))),(⟨0,9,3⟩,.d (.sl [])),(⟨0,9,4⟩,.d (.sl [])),(⟨0,9,5⟩,.d (.int .i64 (0))),(⟨0,9,6⟩,.d (.int .i64 (0))),(⟨0,9,7⟩,.d (.int .i64 (0))),(⟨0,9,8⟩,.d (.sl [])),(⟨0,9,9⟩,.d (.int .i64 (rows))),(⟨0,9,10⟩,.d (.sl [jq])),(⟨0,9,11⟩,.d (.int .i64 (0)))]
abbrev suE (L:List D) (k:Int) (a i:Int):List (Nat×V):=[(4,.ref 0 4 0),(9,.ref 0 9 0),(10,.d (.int .i64 (a))),(40,.d (.sl L)),(41,.d (.int .i64 (k))),(42,.d (.int .i64 (i)))]
theorem su_step (L:List D) (n rows:Int) (k:Nat) (hk:k≤20) (i:Nat) (s:N5) (hs5:n5ok s) (hs:L[i]? =some (s5D (n5I s))) (hi:i<k) (a:Nat) (ha:a≤300000*i) (o:Option I5) (K:List Kf):
  go X_al (.c (.loop sb)::K) ⟨suE L k a i,mT n rows L++boxI 12 o⟩=
   go X_al (.c (.loop sb)::K) ⟨suE L k ((a+s.2.2.2.2:Nat):Int) ((i:Int)+1),mT n rows L++boxI 12 (some (n5I s))⟩:=by
 have d_c:decide ((i:Int)<k)=true:=by simp<;>omega
 obtain⟨_,_,_,_,hr⟩:=hs5;obtain⟨s1,s2,s3,s4,s5⟩:=s;simp only at hr;have hS:=ae 12 o;have hF:=dk 12 o;have e:((a+s5:Nat):Int)=(a:Int)+(s5:Int):=yj;generalize boxI 12 o=T at *;simp only[suE,mT,List.cons_append,List.nil_append,boxI,n5I,e];unfold s5D n5I at hs;simp only at hs
 conv=>lhs;rw[go_loop]
 simp(disch:=first|exact yi|fail) only[go_sem,X_al,d_c,hS,hF,hs,len5,take5]
def sumN (r:List N5):Nat:=(r.map fun s=>s.2.2.2.2).sum
theorem xn (s:N5) (r:List N5):sumN (s::r)=s.2.2.2.2+sumN r:=by simp[sumN]
theorem asq (l:List N5) (hl:l.length≤20) (ok:∀ s∈l,n5ok s) (n rows:Int) (K:List Kf):∀ (r:List N5) (i a:Nat) (o:Option I5),l.drop i=r→i≤l.length→a≤300000*i→
  ∃ o',go X_al (.c (.loop sb):: .b 0::K) ⟨suE ((l.map n5I).map s5D) l.length a i,mT n rows ((l.map n5I).map s5D)++boxI 12 o⟩=
   go X_al K ⟨suE ((l.map n5I).map s5D) l.length ((a+sumN r:Nat):Int) l.length++[(43,.d (.bool (false)))],mT n rows ((l.map n5I).map s5D)++boxI 12 o'⟩
 | [],i,a,o,hr,hi,ha=>by
  have:=iw hr;have:i=l.length:=yj;subst this;refine⟨o,?_⟩;have d_c:decide ((l.length:Int)<l.length)=false:=by simp<;>omega
  have hS:=ae 12 o;rw[show sumN []=0 from rfl,Nat.add_zero]
  generalize boxI 12 o=T at *;generalize(l.map n5I).map s5D=L at *;simp only[suE,mT,List.cons_append,List.nil_append];rw[go_loop];simp(disch:=first|exact yi|fail) only[go_sem,X_al,d_c,hS]
 | s::r,i,a,o,hr,hi,ha=>by
  obtain⟨h1,h2,h3⟩:=ll hr;have hm:s∈l:=List.mem_of_getElem? h2;have hq:=(ok s hm).2.2.2.2;have st:=su_step ((l.map n5I).map s5D) n rows l.length hl i s (ok s hm) (by rw[yw,yw,h2];rfl) h1 a ha o (.b 0::K)
  obtain⟨o',ih⟩:=asq l hl ok n rows K r (i+1) (a+s.2.2.2.2) (some (n5I s)) h3 h1 yj;rw[xn,← Nat.add_assoc];rw[show((i+1:Nat):Int)=(i:Int)+1 by omega] at ih
  exact⟨o',st.trans ih⟩
def zeroF:List D:=[i0,.sl [],i0,.sl [],.sl [],i0,i0,i0,.sl [],i0,.sl [],i0]
theorem qf (l:List N5) (hl:l.length≤20) (ok:∀ s∈l,n5ok s) (rows:Nat) (hr:rows≤262144) (n:Int):
   evL cfg n_al 0 [.d (.sl ((seF l rows).map byteD)),.d (.agg [.int .i64 n,.int .i64 0,.int .i64 0,.int .i64 0])] []=some (.d (if sumN l=rows∧rows≤4096 then .tup [.agg (footS ((l.map n5I).map s5D) rows),.int .i64 0] else .tup [.agg zeroF,.int .i64 2]),[]):=by
 have g1:=sy l hl ok rows hr;have lF:=qj l rows;have g2:=ot (seF l rows) (by unfold seF;omega) (seF_ne l rows)
 have z0:((0:Int) !=0)=false:=rfl;have z1:((0:Int)==0)=true:=rfl;have hL:((l.map n5I).map s5D).length=l.length:=by simp
 have st:=fun K=>asq l hl ok n rows K l 0 0 none rfl (zl _) (yt _)
 simp only[suE,mT,List.cons_append,List.nil_append,gu,List.append_nil,Nat.zero_add] at st;unfold footS zeroF at *;generalize seF l rows=F at *;generalize(l.map n5I).map s5D=L at *;rw[show((0:Nat):Int)=0 from rfl] at st
 rw[o_al];simp(disch:=first|exact yi|fail) only[go_sem,X_al,c_al,g1,g2,z0,z1,len4',len12,hL]
 obtain⟨o,st⟩:=st _;refine st.trans ?_;clear st g1 g2;have hS:=ae 12 o;have hLv:=de 12 o;generalize boxI 12 o=T at *;generalize hsum:sumN l=S at *;by_cases h1:S=rows
 · have e1:((S:Int) !=(rows:Int))=false:=by rw[h1];simp
   by_cases h2:rows≤4096
   · rw[if_pos ⟨h1,h2⟩]
     have d_c:decide ((S:Int)>4096)=false:=by simp<;>omega
     simp(disch:=first|exact yi|fail) only[go_sem,X_al,hS,hLv,e1,d_c,len12]
   · rw[if_neg (fun h=>h2 h.2)]
     have d_c:decide ((S:Int)>4096)=true:=by simp<;>omega
     simp(disch:=first|exact yi|fail) only[go_sem,X_al,hS,hLv,e1,d_c,len12]
 · rw[if_neg (fun h=>h1 h.1)]
   have e1:((S:Int) !=(rows:Int))=true:=by simp;omega
   simp(disch:=first|exact yi|fail) only[go_sem,X_al,hS,hLv,e1,len12]
