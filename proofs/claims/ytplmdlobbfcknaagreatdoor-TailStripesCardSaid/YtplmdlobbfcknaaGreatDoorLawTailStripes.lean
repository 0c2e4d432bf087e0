import Derived.Test.YtplmdlobbfcknaaGreatDoorSeI
namespace Go.Proofs.YtplmdlobbfcknaaGreatDoor
open Go Go.Ev
set_option maxHeartbeats 8000000
set_option maxRecDepth 100000
theorem na (s:List UInt8) (i e:Int):(fltD s i e).canon=fltD s i e:=rfl
theorem len16 (a b c d e f g h i j k l m n o p:D):[a,b,c,d,e,f,g,h,i,j,k,l,m,n,o,p].length=16:=rfl
def oz:List D:=[i0,i0,i0,i0,i0,.sl [],i0,.sl [],.sl [],i0,i0,i0,.sl [],i0,.sl [],i0]
abbrev mO (n rows:Int) (L:List D):List (Cel×V):=[(⟨0,2,0⟩,.d (.int .i64 (0))),(⟨0,2,1⟩,.d (.int .i64 (0))),(⟨0,2,2⟩,.d (.int .i64 (0))),(⟨0,2,3⟩,.d (.int .i64 (0))),(⟨0,2,4⟩,.d (.int .i64 (0))),(⟨0,2,5⟩,.d .nilS),(⟨0,2,6⟩,.d (.int .i64 (0))),(⟨0,2,7⟩,.d .nilS),(⟨0,2,8⟩,.d .nilS),(⟨0,2,9⟩,.d (.int .i64 (0))),(⟨0,2,10⟩,.d (.int .i64 (0))),(⟨0,2,11⟩,.d (.int .i64 (0))),(⟨0,2,12⟩,.d .nilS),(⟨0,2,13⟩,.d (.int .i64 (0))),(⟨0,2,14⟩,.d .nilS),(⟨0,2,15⟩,.d (.int .i64 (0))),
 (⟨0,4,0⟩,.d (.int .i64 (n))),(⟨0,4,1⟩,.d (.int .i64 (0))),(⟨0,4,2⟩,.d (.int .i64 (0))),(⟨0,4,3⟩,.d (.int .i64 (0))),
 (⟨0,7,0⟩,.d (.int .i64 (0))),(⟨0,7,1⟩,.d (.sl L)),(⟨0,7,2⟩,.d (.int .i64 (12))),(⟨0,7,3⟩,.d (.sl [])),(⟨0,7,4⟩,.d (.sl [])),(⟨0,7,5⟩,.d (.int .i64 (0))),(⟨0,7,6⟩,.d (.int .i64 (0))),(⟨0,7,7⟩,.d (.int .i64 (0))),(⟨0,7,8⟩,.d (.sl [])),(⟨0,7,9⟩,.d (.int .i64 (rows))),(⟨0,7,10⟩,.d (.sl [jq])),(⟨0,7,11⟩,.d (.int .i64 (0)))]
abbrev opE (L:List D) (at_ k e i:Int):List (Nat×V):=[(2,.ref 0 2 0),(4,.ref 0 4 0),(5,.d (.int .i64 (at_))),(7,.ref 0 7 0),(8,.d (.int .i64 (e))),(40,.d (.sl L)),(41,.d (.int .i64 (k))),(42,.d (.int .i64 (i)))]
def sum4 (s:N5):Nat:=s.1+s.2.1+s.2.2.1+s.2.2.2.1
def badB (s:N5) (e lim:Nat):Bool:=decide (s.1<e)||decide (sum4 s>lim)
def b8 (lim:Nat):Nat→Nat→List N5→Option Nat
 |_,_,[]=>none
 |i,e,s::r=>if badB s e lim then some i else b8 lim (i+1) (sum4 s) r
theorem op_good (L:List D) (n rows:Int) (k:Nat) (hk:k≤20) (at_ lim:Nat) (hlim:(at_:Int)-n=lim) (hat:at_≤100000) (hl2:lim≤100000) (i:Nat) (s:N5) (hs5:n5ok s) (hs:L[i]? =some (s5D (n5I s))) (hi:i<k) (e:Nat) (hb:badB s e lim=false) (o:Option I5) (K:List Kf):
  go X_au (.c (.loop ma)::K) ⟨opE L at_ k e i,mO n rows L++boxI 10 o⟩=
   go X_au (.c (.loop ma)::K) ⟨opE L at_ k ((sum4 s:Nat):Int) ((i:Int)+1),mO n rows L++boxI 10 (some (n5I s))⟩:=by
 have d_c:decide ((i:Int)<k)=true:=by simp<;>omega
 obtain⟨k1,k2,k3,k4,k5⟩:=hs5;obtain⟨s1,s2,s3,s4,s5⟩:=s;simp only at k1 k2 k3 k4 k5;have hS:=ae 10 o;have hF:=dk 10 o;unfold badB sum4 at hb;simp only[Bool.or_eq_false_iff,aaj] at hb;have es:((sum4 (s1,s2,s3,s4,s5):Nat):Int)=(s1:Int)+(s2:Int)+(s3:Int)+(s4:Int):=by unfold sum4;simp only;omega
 have d_a:decide ((s1:Int)<(e:Int))=false:=by simp<;>omega
 have d_b:decide ((s1:Int)+(s2:Int)+(s3:Int)+(s4:Int)>(lim:Int))=false:=by simp<;>omega
 have hz:(at_:Int)-n=(lim:Int):=hlim;generalize boxI 10 o=T at *;simp only[opE,mO,List.cons_append,List.nil_append,boxI,n5I,es];unfold s5D n5I at hs;simp only at hs
 conv=>lhs;rw[go_loop]
 simp(disch:=first|exact yi|fail) only[go_sem,X_au,d_c,hS,hF,hs,len5,take5,d_a,d_b,hz,Int.sub_zero]
theorem op_bad (L:List D) (n rows:Int) (k:Nat) (hk:k≤20) (at_ lim:Nat) (hlim:(at_:Int)-n=lim) (hat:at_≤100000) (hl2:lim≤100000) (i:Nat) (s:N5) (hs5:n5ok s) (hs:L[i]? =some (s5D (n5I s))) (hi:i<k) (e:Nat) (hb:badB s e lim=true) (o:Option I5) (K:List Kf):
   go X_au (.c (.loop ma)::K) ⟨opE L at_ k e i,mO n rows L++boxI 10 o⟩=some (.d (.tup [.agg oz,fltD fi (i:Int) 2]),[]):=by
 have d_c:decide ((i:Int)<k)=true:=by simp<;>omega
 obtain⟨k1,k2,k3,k4,k5⟩:=hs5;obtain⟨s1,s2,s3,s4,s5⟩:=s;simp only at k1 k2 k3 k4 k5;have hS:=ae 10 o;have hF:=dk 10 o;unfold badB sum4 at hb;simp only[aan,aac] at hb;have hz:(at_:Int)-n=(lim:Int):=hlim;have ft:=ad6 [115,116,114,105,112,101] (i:Int) 2;generalize boxI 10 o=T at *;simp only[opE,mO,List.cons_append,List.nil_append];unfold s5D n5I at hs;simp only at hs;unfold oz;by_cases h:s1<e
 · have d_a:decide ((s1:Int)<(e:Int))=true:=by simp<;>omega
   rw[go_loop];simp(disch:=first|exact yi|fail) only[go_sem,X_au,d_c,hS,hF,hs,len5,take5,d_a,ft,len16,fi,na]
 · have d_a:decide ((s1:Int)<(e:Int))=false:=by simp<;>omega
   have d_b:decide ((s1:Int)+(s2:Int)+(s3:Int)+(s4:Int)>(lim:Int))=true:=by simp<;>omega
   rw[go_loop];simp(disch:=first|exact yi|fail) only[go_sem,X_au,d_c,hS,hF,hs,len5,take5,d_a,d_b,ft,len16,fi,na,hz,Int.sub_zero]
set_option maxRecDepth 100000
theorem azq (l:List N5) (hl:l.length≤20) (ok:∀ s∈l,n5ok s) (n rows:Int) (at_ lim:Nat) (hlim:(at_:Int)-n=lim) (hat:at_≤100000) (hl2:lim≤100000) (K:List Kf):∀ (r:List N5) (i e:Nat) (o:Option I5),l.drop i=r→i≤l.length→
  (∃ j,b8 lim i e r=some j∧go X_au (.c (.loop ma):: .b 0::K) ⟨opE ((l.map n5I).map s5D) at_ l.length e i,mO n rows ((l.map n5I).map s5D)++boxI 10 o⟩=some (.d (.tup [.agg oz,fltD fi (j:Int) 2]),[]))∨
  (b8 lim i e r=none∧∃ (e':Int) (o':Option I5),go X_au (.c (.loop ma):: .b 0::K) ⟨opE ((l.map n5I).map s5D) at_ l.length e i,mO n rows ((l.map n5I).map s5D)++boxI 10 o⟩=
   go X_au K ⟨opE ((l.map n5I).map s5D) at_ l.length e' l.length++[(43,.d (.bool (false)))],mO n rows ((l.map n5I).map s5D)++boxI 10 o'⟩)
 | [],i,e,o,hr,hi=>by
  have:=iw hr;have:i=l.length:=yj;subst this;refine .inr ⟨rfl,e,o,?_⟩;have d_c:decide ((l.length:Int)<l.length)=false:=by simp<;>omega
  have hS:=ae 10 o;generalize boxI 10 o=T at *;generalize(l.map n5I).map s5D=L at *;simp only[opE,mO,List.cons_append,List.nil_append];rw[go_loop];simp(disch:=first|exact yi|fail) only[go_sem,X_au,d_c,hS]
 | s::r,i,e,o,hr,hi=>by
  obtain⟨h1,h2,h3⟩:=ll hr;have hm:s∈l:=List.mem_of_getElem? h2;have hx:((l.map n5I).map s5D)[i]? =some (s5D (n5I s)):=by rw[yw,yw,h2];rfl
  cases hb:badB s e lim with
  |true=>exact .inl ⟨i,by rw[b8,hb];rfl,op_bad _ n rows l.length hl at_ lim hlim hat hl2 i s (ok s hm) hx h1 e hb o _⟩
  | false=>
   have st:=op_good ((l.map n5I).map s5D) n rows l.length hl at_ lim hlim hat hl2 i s (ok s hm) hx h1 e hb o (.b 0::K);have e1:b8 lim i e (s::r)=b8 lim (i+1) (sum4 s) r:=by rw[b8,hb];rfl
   rw[e1];rcases azq l hl ok n rows at_ lim hlim hat hl2 K r (i+1) (sum4 s) (some (n5I s)) h3 h1 with⟨j,g1,g2⟩|⟨g1,e',o',g2⟩
   · rw[show((i+1:Nat):Int)=(i:Int)+1 by omega] at g2
     exact .inl ⟨j,g1,st.trans g2⟩
   · rw[show((i+1:Nat):Int)=(i:Int)+1 by omega] at g2
     exact .inr ⟨g1,e',o',st.trans g2⟩
def postD (n:Nat):List D:=[.int .i64 (n:Int),i0,i0,i0]
theorem sk (b0:List UInt8) (r:List UInt8) (h0:b0=79::82::67::r) (hb:b0.length≤600) (l:List N5) (hl:l.length≤20) (ok:∀ s∈l,n5ok s) (rows:Nat) (hr:rows≤262144):
   evL cfg n_au 0 [.d (.sl ((endB b0 l rows).map byteD))] []=some (.d (if sumN l=rows∧rows≤4096 then(match b8 b0.length 0 3 l with|some j=> .tup [.agg oz,fltD fi (j:Int) 2]|none=> .tup [.agg (postD (seF l rows).length++footS ((l.map n5I).map s5D) rows),.nilI]) else .tup [.agg oz,fltD sFoot 0 2]),[]):=by
 have lF:=qj l rows;have lF':(seF l rows).length≤4000:=by unfold seF;omega
 have g1:=vy b0 (seF l rows) r h0 hb lF';rw[show b0++seF l rows++putB (poP (seF l rows).length)++[UInt8.ofNat (putB (poP (seF l rows).length)).length]=endB b0 l rows from rfl] at g1
 have g2:=qf l hl ok rows hr ((seF l rows).length:Int);have hs:(((endB b0 l rows).map byteD).take (b0.length+(seF l rows).length)).drop b0.length=(seF l rows).map byteD:=by
   have e:endB b0 l rows=(b0++seF l rows)++(seZ l rows++[UInt8.ofNat (seZ l rows).length]):=by unfold endB;rw[zm (b0++seF l rows)]
   rw[e,List.map_append,List.take_left' yl,List.map_append];exact List.drop_left' yl
 have hh:headZ 1 ((endB b0 l rows).map byteD)=true:=adz _;have hwl:b0.length+(seF l rows).length≤((endB b0 l rows).map byteD).length:=by unfold endB;simp
 have st:=fun K=>azq l hl ok ((seF l rows).length:Int) rows (b0.length+(seF l rows).length) b0.length yj yj yj K l 0 3 none rfl (zl _)
 have hL:((l.map n5I).map s5D).length=l.length:=by simp
 have e1:((b0.length+(seF l rows).length:Nat):Int)-((seF l rows).length:Int)=(b0.length:Int):=yj;have z0:((0:Int) !=0)=false:=rfl;have z2:((2:Int) !=0)=true:=rfl;have ft:=ad6 [102,111,111,116] 0 2;rw[o_au];have e3:(b0.length:Int)≤((b0.length+(seF l rows).length:Nat):Int):=yj;have hsm:((b0.length+(seF l rows).length:Nat):Int)≤100000:=yj;have hsm2:b0.length≤b0.length+(seF l rows).length:=yj;clear lF;unfold footS zeroF at *;generalize(l.map n5I).map s5D=L at *;generalize(endB b0 l rows).map byteD=W at *;generalize hF:seF l rows=F at *;generalize hN:b0.length+F.length=N at *;by_cases hq:sumN l=rows∧rows≤4096
 · rw[if_pos hq] at g2 ⊢
   simp only[opE,mO,gu,List.append_nil,List.cons_append,List.nil_append] at st;rw[show((0:Nat):Int)=0 from rfl,show((3:Nat):Int)=3 from rfl] at st
   simp(disch:=first|exact yi|fail) only[go_sem,X_au,c_au,g1,g2,hh,hs,hL,e1,z0,len4',len12,len16,aak]
   rcases st _ with⟨j,s1,s2⟩|⟨s1,e',o',s2⟩
   · rw[s1]
     exact s2
   · rw[s1]
     refine s2.trans ?_;have hS:=ae 10 o';have hLv:=de 10 o';unfold postD;generalize boxI 10 o'=T at *;simp(disch:=first|exact yi|fail) only[go_sem,X_au,hS,hLv,len4',len12,len16,List.take_succ_cons,List.take_zero,List.cons_append,List.nil_append]
 · rw[if_neg hq] at g2 ⊢
   unfold oz;simp(disch:=first|exact yi|fail) only[go_sem,X_au,c_au,g1,g2,hh,hs,hL,e1,z0,z2,ft,len4',len12,len16,na,sFoot,aak]
set_option maxRecDepth 100000
abbrev lsE (body:List UInt8) (L:List D) (rows:Int) (E:D) (a i:Int):List (Nat×V):=[(0,.d (.sl ((body).map byteD))),(1,.d (.sl L)),(2,.d (.int .i64 (rows))),(12,.d E),(13,.d (.int .i64 (a))),(14,.d (.int .i64 (i)))]
theorem azy (body:List UInt8) (l:List N5) (hl:l.length≤20) (ok:∀ s∈l,n5ok s) (rows:Int) (E:D) (M:List (Cel×V)) (hM:settleM 0 M=M) (K:List Kf):∀ (r:List N5) (i a:Nat),l.drop i=r→i≤l.length→a≤300000*i→
  go X_ab (.c (.loop aij):: .b 0::K) ⟨lsE body ((l.map n5I).map s5D) rows E a i,M⟩=
   go X_ab K ⟨lsE body ((l.map n5I).map s5D) rows E ((a+sumN r:Nat):Int) l.length++[(56,.d (.bool (false)))],M⟩
 | [],i,a,hr,hi,ha=>by
  have:=iw hr;have:i=l.length:=yj;subst this;have d_c:decide ((l.length:Int)<l.length)=false:=by simp<;>omega
  have hL:((l.map n5I).map s5D).length=l.length:=by simp
  rw[show sumN []=0 from rfl,Nat.add_zero]
  generalize(l.map n5I).map s5D=L at *;simp only[lsE,List.cons_append,List.nil_append];rw[go_loop];simp(disch:=first|exact yi|fail) only[go_sem,X_ab,d_c,hM,hL]
 | s::r,i,a,hr,hi,ha=>by
  obtain⟨h1,h2,h3⟩:=ll hr;have hm:s∈l:=List.mem_of_getElem? h2;have hq:=(ok s hm).2.2.2.2;have ih:=azy body l hl ok rows E M hM K r (i+1) (a+s.2.2.2.2) h3 h1 yj;rw[xn,← Nat.add_assoc];refine Eq.trans ?_ ih;have hx:((l.map n5I).map s5D)[i]? =some (s5D (n5I s)):=by rw[yw,yw,h2];rfl
  have hL:((l.map n5I).map s5D).length=l.length:=by simp
  generalize(l.map n5I).map s5D=L at *;have d_c:decide ((i:Int)<l.length)=true:=by simp<;>omega
  obtain⟨s1,s2,s3,s4,s5⟩:=s;simp only at hq;have e:((a+s5:Nat):Int)=(a:Int)+(s5:Int):=yj;unfold s5D n5I at hx;simp only at hx;simp only[lsE,e];rw[show((i+1:Nat):Int)=(i:Int)+1 by omega]
  conv=>lhs;rw[go_loop]
  simp(disch:=first|exact yi|fail) only[go_sem,X_ab,d_c,hM,hL,hx,len5]
abbrev mL (L:List D) (rows:Int) (x0 x1 x2 x3 x4 x5 x6 x7 x8 x9 x10 x11 x12 x13 x14 x15:D):List (Cel×V):=[(⟨0,7,0⟩,.d (.int .i64 (0))),(⟨0,7,1⟩,.d (.sl L)),(⟨0,7,2⟩,.d (.int .i64 (12))),(⟨0,7,3⟩,.d (.sl [])),(⟨0,7,4⟩,.d (.sl [])),(⟨0,7,5⟩,.d (.int .i64 (0))),(⟨0,7,6⟩,.d (.int .i64 (0))),(⟨0,7,7⟩,.d (.int .i64 (0))),(⟨0,7,8⟩,.d .nilS),(⟨0,7,9⟩,.d (.int .i64 (rows))),(⟨0,7,10⟩,.d (.sl [jq])),(⟨0,7,11⟩,.d (.int .i64 (0))),
 (⟨0,11,0⟩,.d x0),(⟨0,11,1⟩,.d x1),(⟨0,11,2⟩,.d x2),(⟨0,11,3⟩,.d x3),(⟨0,11,4⟩,.d x4),(⟨0,11,5⟩,.d x5),(⟨0,11,6⟩,.d x6),(⟨0,11,7⟩,.d x7),(⟨0,11,8⟩,.d x8),(⟨0,11,9⟩,.d x9),(⟨0,11,10⟩,.d x10),(⟨0,11,11⟩,.d x11),(⟨0,11,12⟩,.d x12),(⟨0,11,13⟩,.d x13),(⟨0,11,14⟩,.d x14),(⟨0,11,15⟩,.d x15)]
abbrev lpE (body:List UInt8) (L:List D) (E:D) (e i:Int):List (Nat×V):=[(0,.d (.sl ((body).map byteD))),(1,.d (.sl L)),(12,.d E),(15,.d (.int .i64 (e))),(16,.d (.int .i64 (i)))]
theorem lp_good (body:List UInt8) (hb0:body.length≤500) (L:List D) (k:Nat) (hL:L.length=k) (hk:k≤20) (rows:Int) (E:D) (x0 x1 x2 x3 x4 x5 x6 x7 x8 x9 x10 x11 x12 x13 x14 x15:D) (i:Nat) (s:N5) (hs5:n5ok s) (hs:L[i]? =some (s5D (n5I s))) (hi:i<k) (e:Nat) (hb:badB s e (3+body.length)=false) (o:Option I5) (K:List Kf):
  go X_ab (.c (.loop mb)::K) ⟨lpE body L E e i,mL L rows x0 x1 x2 x3 x4 x5 x6 x7 x8 x9 x10 x11 x12 x13 x14 x15++boxI 17 o⟩=
   go X_ab (.c (.loop mb)::K) ⟨lpE body L E ((sum4 s:Nat):Int) ((i:Int)+1),mL L rows x0 x1 x2 x3 x4 x5 x6 x7 x8 x9 x10 x11 x12 x13 x14 x15++boxI 17 (some (n5I s))⟩:=by
 have d_c:decide ((i:Int)<k)=true:=by simp<;>omega
 obtain⟨k1,k2,k3,k4,k5⟩:=hs5;obtain⟨s1,s2,s3,s4,s5⟩:=s;simp only at k1 k2 k3 k4 k5;have hS:=ae 17 o;have hF:=dk 17 o;unfold badB sum4 at hb;simp only[Bool.or_eq_false_iff,aaj] at hb;have es:((sum4 (s1,s2,s3,s4,s5):Nat):Int)=(s1:Int)+(s2:Int)+(s3:Int)+(s4:Int):=by unfold sum4;simp only;omega
 have d_a:decide ((s1:Int)<(e:Int))=false:=by simp<;>omega
 have d_b:decide ((s1:Int)+(s2:Int)+(s3:Int)+(s4:Int)>3+(body.length:Int))=false:=by simp<;>omega
 generalize boxI 17 o=T at *;simp only[lpE,mL,List.cons_append,List.nil_append,boxI,n5I,es];unfold s5D n5I at hs;simp only at hs
 conv=>lhs;rw[go_loop]
 simp(disch:=first|exact yi|fail) only[go_sem,X_ab,d_c,hS,hF,hs,hL,len5,take5,d_a,d_b,y9]
theorem lp_bad (body:List UInt8) (hb0:body.length≤500) (L:List D) (k:Nat) (hL:L.length=k) (hk:k≤20) (rows:Int) (x0 x1 x2 x3 x4 x5 x6 x7 x8 x9 x10 x11 x12 x13 x14 x15:D) (i:Nat) (s:N5) (hs5:n5ok s) (hs:L[i]? =some (s5D (n5I s))) (hi:i<k) (e:Nat) (hb:badB s e (3+body.length)=true) (o:Option I5) (K:List Kf):
   go X_ab (.c (.loop mb)::K) ⟨lpE body L (fltD fi (i:Int) 2) e i,mL L rows x0 x1 x2 x3 x4 x5 x6 x7 x8 x9 x10 x11 x12 x13 x14 x15++boxI 17 o⟩=some (.d (.bool (true)),[]):=by
 have d_c:decide ((i:Int)<k)=true:=by simp<;>omega
 obtain⟨k1,k2,k3,k4,k5⟩:=hs5;obtain⟨s1,s2,s3,s4,s5⟩:=s;simp only at k1 k2 k3 k4 k5;have hS:=ae 17 o;have hF:=dk 17 o;have hLv:=de 17 o;unfold badB sum4 at hb;simp only[aan,aac] at hb;have ft:=xm [115,116,114,105,112,101] (i:Int) (by
   unfold toldB;rw[show(([115,116,114,105,112,101]:List UInt8)==fi)=true from rfl,decide_eq_true (show(0:Int)≤(i:Int) by omega),decide_eq_true (show(i:Int)<20 by omega)]
   simp)
 rw[show fltD fi (i:Int) 2=fltD [115,116,114,105,112,101] (i:Int) 2 from rfl]
 have hcn:=na [115,116,114,105,112,101] (i:Int) 2;unfold prtD at ft;generalize fltD [115,116,114,105,112,101] (i:Int) 2=E at *;generalize boxI 17 o=T at *;simp only[lpE,mL,List.cons_append,List.nil_append];unfold s5D n5I at hs;simp only at hs;by_cases h:s1<e
 · have d_a:decide ((s1:Int)<(e:Int))=true:=by simp<;>omega
   rw[go_loop];simp(disch:=first|exact yi|fail) only[go_sem,X_ab,d_c,hS,hF,hLv,hs,hL,len5,take5,d_a,ft,hcn,y9]
 · have d_a:decide ((s1:Int)<(e:Int))=false:=by simp<;>omega
   have d_b:decide ((s1:Int)+(s2:Int)+(s3:Int)+(s4:Int)>3+(body.length:Int))=true:=by simp<;>omega
   rw[go_loop];simp(disch:=first|exact yi|fail) only[go_sem,X_ab,d_c,hS,hF,hLv,hs,hL,len5,take5,d_a,d_b,ft,hcn,y9]
theorem azz (body:List UInt8) (hb0:body.length≤500) (l:List N5) (hl:l.length≤20) (ok:∀ s∈l,n5ok s) (rows:Int) (E:D) (x0 x1 x2 x3 x4 x5 x6 x7 x8 x9 x10 x11 x12 x13 x14 x15:D) (K:List Kf):∀ (r:List N5) (i e:Nat) (o:Option I5),l.drop i=r→i≤l.length→
  (∃ j,b8 (3+body.length) i e r=some j∧(E=fltD fi (j:Int) 2→go X_ab (.c (.loop mb):: .b 2::K) ⟨lpE body ((l.map n5I).map s5D) E e i,mL ((l.map n5I).map s5D) rows x0 x1 x2 x3 x4 x5 x6 x7 x8 x9 x10 x11 x12 x13 x14 x15++boxI 17 o⟩=some (.d (.bool (true)),[])))∨
  (b8 (3+body.length) i e r=none∧∃ (e':Int) (o':Option I5),go X_ab (.c (.loop mb):: .b 2::K) ⟨lpE body ((l.map n5I).map s5D) E e i,mL ((l.map n5I).map s5D) rows x0 x1 x2 x3 x4 x5 x6 x7 x8 x9 x10 x11 x12 x13 x14 x15++boxI 17 o⟩=
   go X_ab K ⟨lpE body ((l.map n5I).map s5D) E e' l.length++[(80,.d (.bool (false)))],mL ((l.map n5I).map s5D) rows x0 x1 x2 x3 x4 x5 x6 x7 x8 x9 x10 x11 x12 x13 x14 x15++boxI 17 o'⟩)
 | [],i,e,o,hr,hi=>by
  have:=iw hr;have:i=l.length:=yj;subst this;refine .inr ⟨rfl,e,o,?_⟩;have d_c:decide ((l.length:Int)<l.length)=false:=by simp<;>omega
  have hS:=ae 17 o;have hL:((l.map n5I).map s5D).length=l.length:=by simp
  generalize boxI 17 o=T at *;generalize(l.map n5I).map s5D=L at *;simp only[lpE,mL,List.cons_append,List.nil_append];rw[go_loop];simp(disch:=first|exact yi|fail) only[go_sem,X_ab,d_c,hS,hL]
 | s::r,i,e,o,hr,hi=>by
  obtain⟨h1,h2,h3⟩:=ll hr;have hm:s∈l:=List.mem_of_getElem? h2;have hx:((l.map n5I).map s5D)[i]? =some (s5D (n5I s)):=by rw[yw,yw,h2];rfl
  have hL:((l.map n5I).map s5D).length=l.length:=by simp
  cases hb:badB s e (3+body.length) with
  | true=>
   refine .inl ⟨i,by rw[b8,hb];rfl,fun hE=> ?_⟩
   subst hE;exact lp_bad body hb0 _ l.length hL hl rows x0 x1 x2 x3 x4 x5 x6 x7 x8 x9 x10 x11 x12 x13 x14 x15 i s (ok s hm) hx h1 e hb o _
  | false=>
   have st:=lp_good body hb0 ((l.map n5I).map s5D) l.length hL hl rows E x0 x1 x2 x3 x4 x5 x6 x7 x8 x9 x10 x11 x12 x13 x14 x15 i s (ok s hm) hx h1 e hb o (.b 2::K);have e1:b8 (3+body.length) i e (s::r)=b8 (3+body.length) (i+1) (sum4 s) r:=by rw[b8,hb];rfl
   rw[e1];rcases azz body hb0 l hl ok rows E x0 x1 x2 x3 x4 x5 x6 x7 x8 x9 x10 x11 x12 x13 x14 x15 K r (i+1) (sum4 s) (some (n5I s)) h3 h1 with⟨j,g1,g2⟩|⟨g1,e',o',g2⟩
   · rw[show((i+1:Nat):Int)=(i:Int)+1 by omega] at g2
     exact .inl ⟨j,g1,fun hE=>st.trans (g2 hE)⟩
   · rw[show((i+1:Nat):Int)=(i:Int)+1 by omega] at g2
     exact .inr ⟨g1,e',o',st.trans g2⟩
set_option maxRecDepth 100000
theorem nb (s:List UInt8) (i e:Int):(fltD s i e).canA=fltD s i e:=rfl
theorem oe {n:Int} (h:inB n=true):∃ m:Nat,n=(m:Int)∧m≤262144:=by
 unfold inB at h;simp only[yu,aac] at h;exact⟨n.toNat,by omega,by omega⟩
theorem ok_nat:∀ l:List I5,l.all okB=true→∃ l':List N5,l=l'.map n5I∧∀ s∈l',n5ok s
 | [],_=>⟨[],rfl,by simp⟩
 | s::r,h=>by
  rw[List.all_cons,yu] at h;obtain⟨h1,h2⟩:=h;obtain⟨l',rfl,h3⟩:=ok_nat r h2;obtain⟨s1,s2,s3,s4,s5⟩:=s;unfold okB at h1;simp only[yu] at h1;obtain⟨⟨⟨⟨k1,k2⟩,k3⟩,k4⟩,k5⟩:=h1;obtain⟨m1,rfl,q1⟩:=oe k1;obtain⟨m2,rfl,q2⟩:=oe k2;obtain⟨m3,rfl,q3⟩:=oe k3;obtain⟨m4,rfl,q4⟩:=oe k4;obtain⟨m5,rfl,q5⟩:=oe k5;refine⟨(m1,m2,m3,m4,m5)::l',rfl,fun s hs=> ?_⟩
  rcases zb.1 hs with rfl|hs
  · exact⟨q1,q2,q3,q4,q5⟩
  · exact h3 s hs
theorem law_bad (body:List UInt8) (hb:body.length≤500) (l:List I5) (hl:l.length≤20) (rows:Int) (h:(inB rows&&l.all okB)=false):evL cfg n_ab 0 [.d (.sl ((body).map byteD)),.d (.sl (l.map s5D)),.d (.int .i64 (rows))] []=some (.d (.bool (true)),[]):=by
 rw[o_ab];have g:=se_bad l yj rows h;unfold footS at g;have hL:(l.map s5D).length=l.length:=by simp
 generalize l.map s5D=L at *;have d_a:decide ((body.length:Int)>500)=false:=by simp<;>omega
 have d_b:decide ((l.length:Int)>20)=false:=by simp<;>omega
 have z1:((1:Int) !=0)=true:=rfl;simp(disch:=first|exact yi|fail) only[go_sem,X_ab,c_ab,k8,y9,hL,d_a,d_b,g,z1,len15,len12,len6]
theorem law_good (body:List UInt8) (hb:body.length≤500) (l:List N5) (hl:l.length≤20) (ok:∀ s∈l,n5ok s) (rows:Nat) (hr:rows≤262144):evL cfg n_ab 0 [.d (.sl ((body).map byteD)),.d (.sl ((l.map n5I).map s5D)),.d (.int .i64 ((rows:Int)))] []=some (.d (.bool (true)),[]):=by
 rw[o_ab];have g:=atd l hl ok rows hr;have g2:=qs (79::82::67::body) (by simp;omega) l hl ok rows hr
 have g3:=sk (79::82::67::body) body rfl (by simp;omega) l hl ok rows hr
 rw[show(79::82::67::body:List UInt8).length=3+body.length by simp;omega] at g3
 rw[show(79::82::67::body:List UInt8).map byteD=[.int .u8 79,.int .u8 82,.int .u8 67]++body.map byteD from rfl] at g2
 have hL:((l.map n5I).map s5D).length=l.length:=by simp
 have d_a:decide ((body.length:Int)>500)=false:=by simp<;>omega
 have d_b:decide ((l.length:Int)>20)=false:=by simp<;>omega
 have z0:((0:Int) !=0)=false:=rfl;unfold footS at g g2 g3;simp only[List.cons_append,List.nil_append] at g2;generalize putB (seP l rows)=F0 at *;generalize endB (79::82::67::body) l rows=W at *;have st1:=fun E M hM K=>azy body l hl ok (rows:Int) E M hM K l 0 0 rfl (zl _) (yt _)
 have st2:=fun E x0 x1 x2 x3 x4 x5 x6 x7 x8 x9 x10 x11 x12 x13 x14 x15 K=>azz body hb l hl ok (rows:Int) E x0 x1 x2 x3 x4 x5 x6 x7 x8 x9 x10 x11 x12 x13 x14 x15 K l 0 3 none rfl (zl _)
 have tf:=xm sFoot 0 rfl;unfold prtD at tf;rw[show sFoot=[102,111,111,116] from rfl] at tf g3
 generalize(l.map n5I).map s5D=L at *;simp only[lsE,lpE,mL,gu,List.append_nil,List.cons_append,List.nil_append,Nat.zero_add,show((0:Nat):Int)=0 from rfl,show((3:Nat):Int)=3 from rfl] at st1 st2
 have hc0:(fltD [102,111,111,116] 0 2).canon=fltD [102,111,111,116] 0 2:=rfl;by_cases hq:sumN l=rows∧rows≤4096
 · rw[if_pos hq] at g3
   have e1:((sumN l:Int) !=(rows:Int))=false:=by rw[hq.1];simp
   have d_c:decide ((rows:Int)>4096)=false:=by simp<;>omega
   cases hfb:b8 (3+body.length) 0 3 l with
   | none=>
     rw[hfb] at g3;simp only[postD,List.cons_append,List.nil_append] at g3;simp(disch:=first|exact yi|fail) only[go_sem,X_ab,c_ab,k8,y9,hL,d_a,d_b,g,g2,g3,z0,len15,len12,len6,len16]
     refine(st1 _ _ rfl _).trans ?_;simp(disch:=first|exact yi|fail) only[go_sem,X_ab,e1,d_c]
     rcases st2 _ _ _ _ _ _ _ _ _ _ _ _ _ _ _ _ _ _ with⟨j,k1,_⟩|⟨_,e',o',k2⟩
     · rw[hfb] at k1;cases k1
     · refine k2.trans ?_
       have hS:=ae 17 o';have hLv:=de 17 o';generalize boxI 17 o'=T at *;simp(disch:=first|exact yi|fail) only[go_sem,X_ab,hS,hLv]
   | some j=>
     rw[hfb] at g3;simp only[oz] at g3;have hcj:(fltD fi (j:Int) 2).canon=fltD fi (j:Int) 2:=rfl;simp(disch:=first|exact yi|fail) only[go_sem,X_ab,c_ab,k8,y9,hL,d_a,d_b,g,g2,g3,z0,len15,len12,len6,len16,hcj,nb]
     refine(st1 _ _ rfl _).trans ?_;simp(disch:=first|exact yi|fail) only[go_sem,X_ab,e1,d_c,nb]
     rcases st2 _ _ _ _ _ _ _ _ _ _ _ _ _ _ _ _ _ _ with⟨j',k1,k2⟩|⟨k1,_⟩
     · rw[hfb] at k1
       cases k1;exact k2 rfl
     · rw[hfb] at k1;cases k1
 · rw[if_neg hq] at g3
   simp only[oz] at g3;simp(disch:=first|exact yi|fail) only[go_sem,X_ab,c_ab,k8,y9,hL,d_a,d_b,g,g2,g3,z0,len15,len12,len6,len16,hc0,nb]
   refine(st1 _ _ rfl _).trans ?_;by_cases h1:sumN l=rows
   · have e1:((sumN l:Int) !=(rows:Int))=false:=by rw[h1];simp
     have d_c:decide ((rows:Int)>4096)=true:=by simp<;>omega
     simp(disch:=first|exact yi|fail) only[go_sem,X_ab,e1,d_c,tf,hc0,nb]
   · have e1:((sumN l:Int) !=(rows:Int))=true:=by simp;omega
     simp(disch:=first|exact yi|fail) only[go_sem,X_ab,e1,tf,hc0,nb]
theorem sq (body:List UInt8) (l:List I5) (rows:Int) (_:body.length≤maxLen) (_:l.length≤maxLen) (_:(Lit.int .i64 rows).wf=true):evL cfg n_ab 0 [.d (.sl ((body).map byteD)),.d (.sl (l.map s5D)),.d (.int .i64 (rows))] []=some (.d (.bool (true)),[]):=by
 by_cases hb:body.length>500
 · rw[o_ab]
   have d_a:decide ((body.length:Int)>500)=true:=by simp<;>omega
   simp(disch:=first|exact yi|fail) only[go_sem,X_ab,c_ab,k8,y9,d_a]
 by_cases hl:l.length>20
 · rw[o_ab]
   have hL:(l.map s5D).length=l.length:=by simp
   generalize l.map s5D=L at *;have d_a:decide ((body.length:Int)>500)=false:=by simp<;>omega
   have d_b:decide ((l.length:Int)>20)=true:=by simp<;>omega
   simp(disch:=first|exact yi|fail) only[go_sem,X_ab,c_ab,k8,y9,hL,d_a,d_b]
 cases hok:inB rows&&l.all okB
 · exact law_bad body yj l yj rows hok
 · rw[yu] at hok
   obtain⟨R,rfl,hR⟩:=oe hok.1;obtain⟨l',rfl,ok⟩:=ok_nat l hok.2;exact law_good body yj l' (by simpa using hl) ok R hR
