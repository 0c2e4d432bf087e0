import Derived.Test.YtmeohcmbohicoaaGreatDoorOtA
import Derived.Test.YtmeohcmbohicoaaGreatDoorOtD
namespace Go.Proofs.YtmeohcmbohicoaaGreatDoor
open Go Go.Ev
set_option maxHeartbeats 8000000
set_option maxRecDepth 10000
def partM (k:Int):Nat:=
 if k==1||k==2||k==3||k==4 then 2 else if k==7||k==16||k==17 then 4 else if k==0 then 5 else if k==14 then 6 else if k==15 then 7 else if k==8 then 8 else if k==9 then 9 else 0
theorem tn (k:Int):evL cfg n_a8 0 [.d (.int .i64 (k))] []=some (.d (.int .i64 ((partM k:Int))),[]):=by
 rw[o_a8];unfold partM;simp(disch:=first|exact vm|fail) only[go_sem,X_a8,c_a8]
 repeat' ((try rw[goQ_b])<;>split<;>rename_i hh<;>(try simp only[wk,wg,v7,v9] at hh)<;>(try simp(disch:=first|exact vm|fail) only[*,go_sem]))
 all_goals rfl
def stat1:List UInt8:=[8,1,80,0]
def st1F:List Fld:=[⟨1,0,1,[],0⟩,⟨10,0,0,[],2⟩]
theorem mc:a5 stat1=(st1F,0):=vo
def ag:D:= .agg [.int .i64 1,.bool false,.bool false,.bool false,.int .i64 0,.int .i64 0,.sl [],.sl [],.bool false,.int .i64 0,.int .i64 0,.sl [],.sl [],.bool false,.int .i64 0]
theorem st1_none (k:Nat):lastM st1F k 2=none:=by
 unfold lastM st1F;rw[List.find?_eq_none];intro x hx;simp only[List.reverse_cons,List.reverse_nil,List.nil_append,List.cons_append,wc,xx,or_false] at hx;rcases hx with rfl|rfl<;>simp[isF]
theorem ak2 (k l p s par deep:Int) (ks ns:List D):evL cfg n_av 0 [.d (.agg [.int .i64 k,.sl ks,.sl ns,.int .i64 l,.int .i64 p,.int .i64 s,.int .i64 par,.int .i64 deep]),.d (.sl ((stat1).map byteD))] []=some (.d (.tup [ag,.int .i64 0]),[]):=by
 have q1:=cw stat1 vr;rw[mc] at q1;unfold m6 at q1;dsimp only at q1;have u1:evL cfg n_cf 0 [.d (.sl (st1F.map Fld.d)),.d (.int .i64 (1))] []=some (uintD (lastM st1F 1 0),[]):=j3 st1F 1 vr;have u10:evL cfg n_cf 0 [.d (.sl (st1F.map Fld.d)),.d (.int .i64 (10))] []=some (uintD (lastM st1F 10 0),[]):=j3 st1F 10 vr;have e1:uintD (lastM st1F 1 0)= .d (.tup [.int .u64 1,.bool true]):=rfl;have e10:uintD (lastM st1F 10 0)= .d (.tup [.int .u64 0,.bool true]):=rfl;rw[e1] at u1;rw[e10] at u10;have hp:=tn k;have ht:=j4 st1F (partM k) vr vr;rw[st1_none] at ht;have et:textD none= .d (.tup [.sl [],.bool false]):=rfl;rw[et] at ht;rw[o_av];generalize st1F.map Fld.d=q at *;generalize(partM k:Int)=m at *;unfold ag;have d1:decide ((1:Int)>262144)=false:=rfl;have d2:((0:Int) !=0)=false:=rfl;rcases wx (m==0) with z|z<;>
 simp(maxSteps:=2000000) (disch:=first|exact vm|fail) only[go_sem,X_av,c_av,q1,u1,u10,hp,ht,z,d1,d2,len15]
def boxH (o:Option (Ty×List Nat)):List (Cel×V):=match o with
 |none=>[]
 |some x=>[(⟨0,7,0⟩,.d (.int .i64 (x.1.kind))),(⟨0,7,1⟩,.d (intsD x.2)),(⟨0,7,2⟩,.d (.sl (x.1.names.map D.str))),(⟨0,7,3⟩,.d (.int .i64 (x.1.len))),(⟨0,7,4⟩,.d (.int .i64 (x.1.prec))),(⟨0,7,5⟩,.d (.int .i64 (x.1.scale))),(⟨0,7,6⟩,.d (.int .i64 (0))),(⟨0,7,7⟩,.d (.int .i64 (0)))]
abbrev z6:List (Cel×V):=[(⟨0,2,0⟩,.d (.int .i64 (0))),(⟨0,2,1⟩,.d .nilS),(⟨0,2,2⟩,.d .nilS),(⟨0,2,3⟩,.d (.int .i64 (0))),(⟨0,2,4⟩,.d (.int .i64 (0))),(⟨0,2,5⟩,.d (.int .i64 (0)))]
abbrev trE (bs:List (List Fld)) (acc:List (Ty×List Nat)) (i:Nat):List (Nat×V):=[(2,.ref 0 2 0),(4,ownZ 8 (acc.map nodG)),(11,.d (.sl (bs.map fldsD))),(12,.d (.int .i64 ((bs.length:Int)))),(13,.d (.int .i64 ((i:Int))))]
theorem ownG (acc:List (Ty×List Nat)) (x:Ty×List Nat):ownZ 8 ((acc++[x]).map nodG)= .own false 8 (acc.map nodG++[nodG x]):=by
 rw[List.map_append,List.map_singleton,bt]
theorem uw (bs:List (List Fld)) (xs:List (Ty×List Nat)) (hn:bs.length≤100000) (hx:bs.length=xs.length) (ok:∀ (i:Nat) (fs:List Fld) (x:Ty×List Nat),bs[i]? =some fs→xs[i]? =some x→∃ n,NdFs fs n∧nodF n=nodG x) (x0 x1 x2 x3 x4 x5 x6 x7 x8:D) (K:List Kf):
  ∀ (r:List (Ty×List Nat)) (i:Nat) (acc:List (Ty×List Nat)) (o:Option (Ty×List Nat)),xs.drop i=r→i≤xs.length→acc.length=i→
  ∃ o',go X_az (.c (.loop akk):: .b 0::K) ⟨trE bs acc i,b9 1 x0 x1 x2 x3 x4 x5 x6 x7 x8++(z6++boxH o)⟩=go X_az K ⟨trE bs (acc++r) bs.length++[(14,.d (.bool (false)))],b9 1 x0 x1 x2 x3 x4 x5 x6 x7 x8++(z6++boxH o')⟩
 | [],i,acc,o,hr,hi,ha=>by
  have:=br hr;have:i=bs.length:=vn;subst this;refine⟨o,?_⟩;have d_a:decide ((bs.length:Int)<bs.length)=false:=by simp<;>omega
  rw[go_loop,List.append_nil];cases o<;>
  (simp only[boxH,List.cons_append,List.nil_append,List.append_nil]
   simp(maxSteps:=2000000) (disch:=first|exact vm|fail) only[go_sem,X_az,d_a,bx])
 | x::r,i,acc,o,hr,hi,ha=>by
  obtain⟨h1,h2,h3⟩:=cc hr;obtain⟨o',ih⟩:=uw bs xs hn hx ok x0 x1 x2 x3 x4 x5 x6 x7 x8 K r (i+1) (acc++[x]) (some x) h3 h1 (by simp;omega)
  rw[wh,List.singleton_append] at ih;refine⟨o',Eq.trans ?_ ih⟩;have hb:i<bs.length:=vn;obtain⟨fs,hfs⟩:∃ fs,bs[i]? =some fs:=⟨bs[i],vy hb⟩
  obtain⟨n,hnd,hne⟩:=ok i fs x hfs h2;have hnode:=tp hnd;rw[hne] at hnode;unfold nodG at hnode;have d_a:decide ((i:Int)<bs.length)=true:=by simp<;>omega
  unfold trE;rw[ownG,show(((i+1:Nat)):Int)=(i:Int)+1 by omega]
  conv=>lhs;rw[go_loop]
  have hG:nodG x= .agg [.int .i64 x.1.kind,intsD x.2,.sl (x.1.names.map D.str),.int .i64 x.1.len,.int .i64 x.1.prec,.int .i64 x.1.scale,.int .i64 0,.int .i64 0]:=rfl;cases acc with
  | nil=>
    cases o<;>
    (simp only[boxH,List.cons_append,List.nil_append,List.append_nil,List.map_nil,af,hG]
     simp(maxSteps:=2000000) (disch:=first|exact vm|fail) only[go_sem,X_az,d_a,hfs,fldsD,v6,Option.map_some,hnode,len8,tk8,intsD])
  | cons y acc=>
    simp only[List.length_cons] at ha;rw[List.map_cons];generalize nodG y=w;cases o<;>
    (simp only[boxH,List.cons_append,List.nil_append,List.append_nil,ak,hG]
     simp(maxSteps:=2000000) (disch:=first|exact vm|fail) only[go_sem,X_az,d_a,hfs,fldsD,v6,Option.map_some,hnode,len8,tk8,intsD,vu,List.cons_append])
theorem tree_ans (p:Parts) (t:Ty) (hk:fewK t.size t) (hc:(chkT 1 0 t).2=0) (hz:t.size≤900) (hx:p.b.length=t.size) (ok:∀ (i:Nat) (fs:List Fld) (x:Ty×List Nat),p.b[i]? =some fs→(flL 0 t)[i]? =some x→∃ n,NdFs fs n∧nodF n=nodG x):
   evL cfg n_az 0 [.d (iw p)] []=some (.d (.tup [t.d,.int .i64 0]),[]):=by
 have hl:=flL_len t 0;have hb:=oh t hk hc hz;rw[o_az];obtain⟨o',lp⟩:=uw p.b (flL 0 t) vn vn ok (.sl []) (.sl []) (.sl []) (.sl (p.a.map fldsD)) (.sl (p.b.map fldsD)) (.sl (p.c.map fldsD)) (.sl []) (.sl (p.e.map fldsD)) (.sl (p.st.map ji)) [.c (.seq agm (.cond (.t 33) (.seq ay5 .ret) (.seq (.seq (.demote [4]) agl) .ret)))] (flL 0 t) 0 [] none rfl (ww _) rfl;unfold trE at lp;rw[List.nil_append,List.map_nil,af,show((0:Nat):Int)=0 from rfl] at lp
 unfold iw;simp only[boxH,List.cons_append,List.nil_append,List.append_nil] at lp;simp(maxSteps:=2000000) (disch:=first|exact vm|fail) only[go_sem,X_az,c_az,len9,cst8,Int.reduceLE,Int.reduceLT,Int.reduceToNat,Nat.reduceMul,and_self,if_true,vu]
 refine lp.trans ?_;have hf:=flL_eq 0 t;have hO:ownZ 8 ((flL 0 t).map nodG)= .own false 8 ((flL 0 t).map nodG):=by rw[hf];rfl
 have z0:(((flL 0 t).length:Int)==0)=false:=by rw[hf,List.length_cons];simp;omega
 rw[hO];cases o'<;>
 (simp only[boxH,List.cons_append,List.nil_append,List.append_nil]
  simp(maxSteps:=2000000) (disch:=first|exact vm|fail) only[go_sem,X_az,vu,z0,hb,len6])
abbrev boxG (o:Bool):List (Cel×V):=if o then[(⟨0,9,0⟩,.d (.int .i64 (1))),(⟨0,9,1⟩,.d (.bool (false))),(⟨0,9,2⟩,.d (.bool (false))),(⟨0,9,3⟩,.d (.bool (false))),(⟨0,9,4⟩,.d (.int .i64 (0))),(⟨0,9,5⟩,.d (.int .i64 (0))),(⟨0,9,6⟩,.d (.sl [])),(⟨0,9,7⟩,.d (.sl [])),(⟨0,9,8⟩,.d (.bool (false))),(⟨0,9,9⟩,.d (.int .i64 (0))),(⟨0,9,10⟩,.d (.int .i64 (0))),(⟨0,9,11⟩,.d (.sl [])),(⟨0,9,12⟩,.d (.sl [])),(⟨0,9,13⟩,.d (.bool (false))),(⟨0,9,14⟩,.d (.int .i64 (0)))] else[]
abbrev knE (n:Nat) (cols:List D) (i:Nat):List (Nat×V):=[(1,.d (.sl cols)),(6,ownZ 15 (List.replicate i ag)),(24,.d (.sl ((List.replicate n stat1).map ji))),(25,.d (.int .i64 ((n:Int)))),(26,.d (.int .i64 ((i:Int))))]
def isCol (d:D):Prop:=∃ (k l p s par deep:Int) (ks ns:List D),d= .agg [.int .i64 k,.sl ks,.sl ns,.int .i64 l,.int .i64 p,.int .i64 s,.int .i64 par,.int .i64 deep]
theorem agb (i:Nat):ownZ 15 (List.replicate (i+1) ag)= .own false 15 (List.replicate i ag++[ag]):=by
 rw[List.replicate_succ',bt]
theorem rp (n:Nat) (hn:n≤100000) (cols:List D) (hl:cols.length=n) (hc:∀ d∈cols,isCol d) (x0 x1 x2 x3 x4 x5 x6 x7 x8:D) (K:List Kf):∀ (m i:Nat) (o:Bool),n-i=m→i≤n→
  ∃ o',go X_aw (.c (.loop akl):: .b 0::K) ⟨knE n cols i,b9 2 x0 x1 x2 x3 x4 x5 x6 x7 x8++boxG o⟩=go X_aw K ⟨knE n cols n++[(27,.d (.bool (false)))],b9 2 x0 x1 x2 x3 x4 x5 x6 x7 x8++boxG o'⟩
 | 0,i,o,hm,hi=>by
  have:i=n:=vn;subst this;refine⟨o,?_⟩;have d_a:decide ((i:Int)<i)=false:=by simp<;>omega
  rw[go_loop];cases o<;>
  (simp only[boxG,List.cons_append,List.nil_append,List.append_nil,vv,if_false,if_true]
   simp(maxSteps:=2000000) (disch:=first|exact vm|fail) only[go_sem,X_aw,d_a,bx])
 | m+1,i,o,hm,hi=>by
  obtain⟨o',ih⟩:=rp n hn cols hl hc x0 x1 x2 x3 x4 x5 x6 x7 x8 K m (i+1) true vn vn;refine⟨o',Eq.trans ?_ ih⟩;have hb:i<cols.length:=vn;obtain⟨d,hd⟩:∃ d,cols[i]? =some d:=⟨cols[i],vy hb⟩
  obtain⟨k,l,p,s,par,deep,ks,ns,rfl⟩:=hc d (List.mem_of_getElem? hd);have hs:(List.replicate n stat1)[i]? =some stat1:=by rw[List.getElem?_replicate,if_pos vn]
  have hr:=ak2 k l p s par deep ks ns;unfold ag at hr;have d_a:decide ((i:Int)<n)=true:=by simp<;>omega
  unfold knE;rw[agb,show(((i+1:Nat)):Int)=(i:Int)+1 by omega]
  have hD:ag= .agg [.int .i64 1,.bool false,.bool false,.bool false,.int .i64 0,.int .i64 0,.sl [],.sl [],.bool false,.int .i64 0,.int .i64 0,.sl [],.sl [],.bool false,.int .i64 0]:=rfl
  conv=>lhs;rw[go_loop]
  cases i with
  | zero=>
    rw[show((0:Nat):Int)=0 from rfl] at*
    have hd0:cols[0]? =_:=hd;cases o<;>
    (simp only[boxG,List.cons_append,List.nil_append,List.append_nil,vv,if_false,if_true,List.replicate_zero,af]
     simp(maxSteps:=2000000) (disch:=first|exact vm|fail) only[go_sem,X_aw,d_a,hd,hs,ji,v6,Option.map_some,hr,len15,len8,tk8,hD])
  | succ i=>
    have hO:ownZ 15 (List.replicate (i+1) ag)= .own false 15 (List.replicate (i+1) ag):=rfl;have hQ:(List.replicate (i+1) ag).length=i+1:=List.length_replicate;rw[hO];generalize List.replicate (i+1) ag=q at *;cases o<;>
    (simp only[boxG,List.cons_append,List.nil_append,List.append_nil,vv,if_false,if_true]
     simp(maxSteps:=2000000) (disch:=first|exact vm|fail) only[go_sem,X_aw,d_a,hd,hs,ji,v6,Option.map_some,hr,hQ,len15,len8,tk8,hD])
theorem a67 (p:Parts) (n:Nat) (h0:1≤n) (hn:n≤100000) (hp:p.st=List.replicate n stat1) (cols:List D) (hl:cols.length=n) (hc:∀ d∈cols,isCol d):
   evL cfg n_aw 0 [.d (iw p),.d (.sl cols)] []=some (.d (.tup [.sl (List.replicate n ag),.int .i64 0]),[]):=by
 obtain⟨o',lp⟩:=rp n hn cols hl hc (.sl []) (.sl []) (.sl []) (.sl (p.a.map fldsD)) (.sl (p.b.map fldsD)) (.sl (p.c.map fldsD)) (.sl []) (.sl (p.e.map fldsD)) (.sl (p.st.map ji)) [.c (.seq agw .ret)] n 0 false (Nat.sub_zero _) (ww _);rw[o_aw];unfold knE at lp;rw[List.replicate_zero,af,show((0:Nat):Int)=0 from rfl] at lp
 simp only[boxG,List.cons_append,List.nil_append,List.append_nil,vv,if_false] at lp;unfold iw;rw[← hp] at lp;have hpl:p.st.length=n:=by rw[hp,List.length_replicate]
 have d_a:decide ((n:Int)>0)=true:=by simp<;>omega
 have e1:((n:Int) !=(n:Int))=false:=bne_self_eq_false _;simp(maxSteps:=2000000) (disch:=first|exact vm|fail) only[go_sem,X_aw,c_aw,len9,vu,hpl,hl,d_a,e1]
 refine lp.trans ?_;obtain⟨m,rfl⟩:∃ m,n=m+1:=⟨n-1,by omega⟩
 have hO:ownZ 15 (List.replicate (m+1) ag)= .own false 15 (List.replicate (m+1) ag):=rfl;rw[hO];generalize List.replicate (m+1) ag=q at *;cases o'<;>
 (simp only[vv,if_false,if_true,List.append_nil,List.cons_append,List.nil_append]
  simp(maxSteps:=2000000) (disch:=first|exact vm|fail) only[go_sem,X_aw])
structure FootT (l:List UInt8) (fs:List Fld) (p:Parts) (t:Ty):Prop where
 len:l.length≤262144
 parse:a5 l=(fs,0)
 want:∀ f∈fs,wantF f
 parts:splM fs i6=p
 n2:uM fs 2≤262144
 n6:uM fs 6≤262144
 n8:uM fs 8≤262144
 stripes:p.a=[]
 types:p.b.length=t.size
 nodes:∀ (i:Nat) (fs:List Fld) (x:Ty×List Nat),p.b[i]? =some fs→(flL 0 t)[i]? =some x→∃ n,NdFs fs n∧nodF n=nodG x
 pairs:p.c=[]
 stats:p.st=List.replicate t.size stat1
theorem isCol_T (t:Ty):∀ d∈flatT 0 (-1) 1 t,isCol d:=by
 intro d hd;rw[po] at hd;obtain⟨x,_,rfl⟩:=xr.1 hd;exact⟨_,_,_,_,_,_,_,_,rfl⟩
theorem tq {l:List UInt8} {fs:List Fld} {p:Parts} {t:Ty} (h:FootT l fs p t) (hk:fewK t.size t) (hc:(chkT 1 0 t).2=0) (hz:t.size≤900):
  evL cfg n_ap 0 [.d (.sl ((l).map byteD))] []=some (.d (.tup [.agg [.int .i64 ((uM fs 2:Nat):Int),.sl [],.int .i64 t.kind,.sl (t.names.map D.str),.sl (t.kids.map Ty.d),.int .i64 t.len,.int .i64 t.prec,.int .i64 t.scale,.sl [],.int .i64 ((uM fs 6:Nat):Int),.sl (List.replicate t.size ag),.int .i64 ((uM fs 8:Nat):Int)],.int .i64 0]),[]):=by
 obtain⟨h1,h2,h3,h4,h5,h6,h7,h8,h9,h10,h11,h12⟩:=h;rw[o_ap];have g1:=cw l vn;have ok:=aet l;rw[h2] at ok;obtain⟨ok1,ok2⟩:=ok;simp only at ok1 ok2;unfold m6 at g1;rw[h2] at g1;simp only at g1;have g2:=qt fs vn (fun f hf=>by have:=ok1 f hf;omega) h3
 rw[h4] at g2;have g3:evL cfg n_bo 0 [.d (.sl (fs.map Fld.d)),.d (.int .i64 (2))] []=some (.d (.tup [.int .i64 ((uM fs 2:Nat):Int),.bool true]),[]):=ao fs 2 vn h5;have g4:=af7 p (by rw[h8];simp) (by rw[h8];simp)
 have g5:=tree_ans p t hk hc hz h9 h10;have g6:=a6s p (by rw[h11];simp) (by rw[h11];simp)
 have g7:evL cfg n_bo 0 [.d (.sl (fs.map Fld.d)),.d (.int .i64 (6))] []=some (.d (.tup [.int .i64 ((uM fs 6:Nat):Int),.bool true]),[]):=ao fs 6 vn h6;have g8:evL cfg n_bo 0 [.d (.sl (fs.map Fld.d)),.d (.int .i64 (8))] []=some (.d (.tup [.int .i64 ((uM fs 8:Nat):Int),.bool true]),[]):=ao fs 8 vn h7;have g9:=gq t hk hc;have hk':=a67 p t.size t.size_pos vn h12 (flatT 0 (-1) 1 t) (flatT_len t 0 (-1) 1) (isCol_T t);unfold iw at g2 g4 g5 g6 hk';rw[show p.a.map strD=[] by rw[h8];rfl] at g4
 rw[show p.c.map pairD=[] by rw[h11];rfl] at g6
 rw[t.d_eq] at g5;generalize uM fs 2=u2 at *;generalize uM fs 6=u6 at *;generalize uM fs 8=u8 at *;generalize List.replicate t.size ag=q at *;generalize flatT 0 (-1) 1 t=fl at *;simp(maxSteps:=2000000) (disch:=first|exact vm|fail) only[go_sem,X_ap,c_ap,g1,g2,len9,len12,len6,g3,g4,g5,g6,g7,g8,g9,hk']
