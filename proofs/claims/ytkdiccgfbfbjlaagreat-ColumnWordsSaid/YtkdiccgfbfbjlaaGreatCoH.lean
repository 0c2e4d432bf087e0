import Derived.Test.YtkdiccgfbfbjlaaGreatCoC
namespace Go.Proofs.YtkdiccgfbfbjlaaGreat
open Go Go.Ev
set_option maxHeartbeats 2000000
set_option maxRecDepth 100000
abbrev s5E (l:List Int) (s:Int) (a c:Bool) (i:Nat):List (Nat×V):=[(0,.d (i64s l)),(2,.d (.int .i64 (s))),(3,.d (.bool (a))),(4,.d (.bool (c))),(5,.d (.int .i64 ((i:Int))))]
theorem st_12 (l:List Int) (s t:Int) (a c:Bool) (i:Nat) (K:List Kf):∃ c',go X_ap (.c p9::K) ⟨s5E l s a c i++[(6,.d (.int .i64 (t)))],[]⟩=go X_ap K ⟨s5E l s a c' i,[]⟩:=by
 cases c with
 | false=>
  refine⟨false,?_⟩;simp(disch:=first|exact yo|fail) only[go_sem,X_ap,s5E,i64s,List.cons_append,List.nil_append]
 | true=>
  cases h1:(t != -9223372036854775808) with
  | false=>
   refine⟨false,?_⟩;simp(disch:=first|exact yo|fail) only[go_sem,X_ap,s5E,i64s,List.cons_append,List.nil_append,h1]
  | true=>
   rcases Int.lt_trichotomy s 0 with h2|h2|h2
   · have e1:(s==0)=false:=by simp;omega
     have d_e:decide (s>0)=false:=by simp<;>omega
     have d_f:decide (s<0)=true:=by simp<;>omega
     cases h3:decide (t≤0) with
     |true=>refine⟨true,?_⟩;simp(disch:=first|exact yo|fail) only[go_sem,X_ap,s5E,i64s,List.cons_append,List.nil_append,h1,e1,d_e,d_f,h3]
     |false=>refine⟨false,?_⟩;simp(disch:=first|exact yo|fail) only[go_sem,X_ap,s5E,i64s,List.cons_append,List.nil_append,h1,e1,d_e,d_f,h3]
   · subst h2
     cases h3:(t==0) with
     |true=>refine⟨true,?_⟩;simp(disch:=first|exact yo|fail) only[go_sem,X_ap,s5E,i64s,List.cons_append,List.nil_append,h1,h3,Int.reduceBEq,Int.reduceGT,Int.reduceLT,decide_false,gt_iff_lt]
     |false=>refine⟨false,?_⟩;simp(disch:=first|exact yo|fail) only[go_sem,X_ap,s5E,i64s,List.cons_append,List.nil_append,h1,h3,Int.reduceBEq,Int.reduceGT,Int.reduceLT,decide_false,gt_iff_lt]
   · have e1:(s==0)=false:=by simp;omega
     have d_e:decide (s>0)=true:=by simp<;>omega
     have d_f:decide (s<0)=false:=by simp<;>omega
     cases h3:decide (t≥0) with
     |true=>refine⟨true,?_⟩;simp(disch:=first|exact yo|fail) only[go_sem,X_ap,s5E,i64s,List.cons_append,List.nil_append,h1,e1,d_e,d_f,h3]
     |false=>refine⟨false,?_⟩;simp(disch:=first|exact yo|fail) only[go_sem,X_ap,s5E,i64s,List.cons_append,List.nil_append,h1,e1,d_e,d_f,h3]
theorem st_11 (l:List Int) (s t:Int) (a c:Bool) (i:Nat) (K:List Kf) (o:List (Nat×V)) (ho:o=[]∨o=[(32,.d (.bool (false)))]):∃ a',go X_ap (.c vi::K) ⟨s5E l s a c i++(6,.d (.int .i64 (t)))::o,[]⟩=go X_ap K ⟨s5E l s a' c i++[(6,.d (.int .i64 (t)))],[]⟩:=by
 cases a with
 | false=>
  refine⟨false,?_⟩;rcases ho with rfl|rfl<;>simp(disch:=first|exact yo|fail) only[go_sem,X_ap,s5E,i64s,List.cons_append,List.nil_append]
 | true=>
  cases h:(t==s) with
  |true=>refine⟨true,?_⟩;rcases ho with rfl|rfl<;>simp(disch:=first|exact yo|fail) only[go_sem,X_ap,s5E,i64s,List.cons_append,List.nil_append,h]
  |false=>refine⟨false,?_⟩;rcases ho with rfl|rfl<;>simp(disch:=first|exact yo|fail) only[go_sem,X_ap,s5E,i64s,List.cons_append,List.nil_append,h]
theorem ur (l:List Int) (hf:∀ v∈l,inI v) (hl:l.length≤1000000):∀ (q:List Int) (i:Nat) (s:Int) (a c:Bool),1≤i→l.drop i=q→inI s→
  ∃ s' a' c',inI s'∧go X_ap [.c (.loop rh),.b 0,.c (.seq p7 .ret)] ⟨s5E l s a c i,[]⟩=some (.d (.tup [.int .i64 s',.bool a',.bool c']),[])
 | [],i,s,a,c,hi,hq,hs=>by
  have:l.length≤i:=by simpa using hq
  have d_a:decide ((i:Int)<l.length)=false:=by simp<;>omega
  refine⟨s,a,c,hs,?_⟩;rw[go_loop];simp(disch:=first|exact yo|fail) only[go_sem,X_ap,s5E,i64s,d_a,yz]
 | v::q,i,s,a,c,hi,hq,hs=>by
  obtain⟨h1,h2,h3⟩:=da hq;have e1:(i:Int)-1=((i-1:Nat):Int):=yp;obtain⟨u,hu⟩:∃ u,l[i-1]? =some u:=⟨_,yy yp⟩
  obtain⟨t,ok,ht,hsub⟩:=dv (hf v (List.mem_of_getElem? h2)) (hf u (List.mem_of_getElem? hu));have d_a:decide ((i:Int)<l.length)=true:=by simp<;>omega
  cases ok with
  | false=>
   cases e2:((i:Int)==1) with
   | true=>
     obtain⟨s',a',c',g1,g2⟩:=ur l hf hl q (i+1) 0 false false yp h3 (by unfold inI;omega)
     refine⟨s',a',c',g1,Eq.trans ?_ g2⟩;rw[go_loop];simp(disch:=first|exact yo|fail) only[go_sem,X_ap,s5E,i64s,d_a,e1,e2,h2,hu,hsub,yz,Int.natCast_add]
   | false=>
     obtain⟨s',a',c',g1,g2⟩:=ur l hf hl q (i+1) s false false yp h3 hs;refine⟨s',a',c',g1,Eq.trans ?_ g2⟩;rw[go_loop];simp(disch:=first|exact yo|fail) only[go_sem,X_ap,s5E,i64s,d_a,e1,e2,h2,hu,hsub,yz,Int.natCast_add]
  | true=>
   obtain⟨w,hw,e2⟩:∃ w,inI w∧((i:Int)==1)=decide (i=1)∧w=(if i=1 then t else s):=⟨if i=1 then t else s,by split<;>assumption,by rw[Bool.eq_iff_iff];simp;omega,rfl⟩
   obtain⟨e2,e3⟩:=e2;obtain⟨a1,f1⟩:=st_11 l w t a c i (.c p9:: .b 1:: .c p8:: .c (.loop rh):: .b 0:: .c (.seq p7 .ret)::[]) (if i=1 then[] else[(32,.d (.bool (false)))]) (by split<;>simp)
   obtain⟨c1,f2⟩:=st_12 l w t a1 c i (.b 1:: .c p8:: .c (.loop rh):: .b 0:: .c (.seq p7 .ret)::[]);obtain⟨s',a',c',g1,g2⟩:=ur l hf hl q (i+1) w a1 c1 yp h3 hw;refine⟨s',a',c',g1,Eq.trans ?_ (f1.trans (f2.trans (Eq.trans ?_ g2)))⟩
   · rw[go_loop]
     by_cases hi1:i=1
     · rw[if_pos hi1] at e3
       rw[decide_eq_true hi1] at e2;rw[if_pos hi1];subst e3;simp(disch:=first|exact yo|fail) only[go_sem,X_ap,s5E,i64s,d_a,e1,e2,h2,hu,hsub,yz,List.cons_append,List.nil_append]
     · rw[if_neg hi1] at e3
       rw[decide_eq_false hi1] at e2;rw[if_neg hi1];subst e3;simp(disch:=first|exact yo|fail) only[go_sem,X_ap,s5E,i64s,d_a,e1,e2,h2,hu,hsub,yz,List.cons_append,List.nil_append]
   · simp(disch:=first|exact yo|fail) only[go_sem,X_ap,s5E,i64s,Int.natCast_add]
theorem xw {l:List Int} (hf:∀ v∈l,inI v) (hl:l.length≤1000000):∃ s a c,inI s∧evL cfg n_ap 0 [.d (i64s l)] []=some (.d (.tup [.int .i64 s,.bool a,.bool c]),[]):=by
 obtain⟨s',a',c',g1,g2⟩:=ur l hf hl _ 1 0 true true (y7 _) rfl (by unfold inI;omega)
 refine⟨s',a',c',g1,?_⟩;have z1:((1:Nat):Int)=1:=rfl;rw[o_ap,← g2];simp(disch:=first|exact yo|fail) only[go_sem,X_ap,c_ap,s5E,i64s,z1]
set_option maxRecDepth 100000
def uD (u:Nat):D:= .int .u64 (u:Int)
theorem uD_eq (u:Nat):uD u= .int .u64 (u:Int):=rfl
theorem setU (xs:List Nat) (i u:Nat):(xs.map uD).set i (.int .u64 (u:Int))=(xs.set i u).map uD:=by rw[List.map_set,uD]
theorem axa (xs:List Nat):u64s xs= .sl (xs.map uD):=rfl
theorem setAtU (k:IntKind) (n:Int) (u:Int):(D.int k n).setAt 0 [.int .u64 u]=some (.int .u64 u):=rfl
abbrev ppF (sg:Bool) (b:List UInt8) (l:List Int) (xs:List Nat) (w i:Nat):List (Nat×V):=[(0,.d (.sl ((b).map byteD))),(1,.d (i64s l)),(2,.d (.bool (sg))),(8,.own false 1 (xs.map uD)),(9,.d (.int .i64 ((w:Int)))),(31,.d (i64s l)),(32,.d (.int .i64 ((l.length:Int)))),(33,.d (.int .i64 ((i:Int))))]
theorem a2q (sg:Bool) (b:List UInt8) (l:List Int) (hf:Fine sg l) (hl:l.length≤1000000) (K:List Kf):∀ (q:List Int) (i w:Nat) (xs:List Nat),l.drop i=q→i≤l.length→xs.length=l.length→(∀ u∈xs,u<18446744073709551616)→w≤64→
  ∃ (xs':List Nat) (w':Nat),xs'.length=l.length∧(∀ u∈xs',u<18446744073709551616)∧w'≤64∧go X_aq (.c (.loop ajo):: .b 0::K) ⟨ppF sg b l xs w i,[]⟩=go X_aq K ⟨ppF sg b l xs' w' l.length++[(34,.d (.bool (false)))],[]⟩
 | [],i,w,xs,hq,hi,hx,hu,hw=>by
  have:=cf hq;have:i=l.length:=yp;subst this;have d_a:decide ((l.length:Int)<l.length)=false:=by simp<;>omega
  refine⟨xs,w,hx,hu,hw,?_⟩;rw[go_loop];simp(disch:=first|exact yo|fail) only[go_sem,X_aq,ppF,i64s,d_a,List.cons_append,List.nil_append]
 | v::q,i,w,xs,hq,hi,hx,hu,hw=>by
  obtain⟨h1,h2,h3⟩:=da hq;have d_a:decide ((i:Int)<l.length)=true:=by simp<;>omega
  obtain⟨u,hu1,hbits⟩:=ip (hf v (List.mem_of_getElem? h2)).1 sg;obtain⟨m,hm,hB⟩:=ee hu1;have hxi:i<xs.length:=yp;obtain⟨y,hy⟩:∃ y,xs[i]? =some y:=⟨_,yy hxi⟩
  have hset:(xs.set i u)[i]? =some u:=by rw[List.getElem?_set_self hxi]
  have ey:=uD_eq y;have eu:=uD_eq u;have e1:max (w:Int) (m:Int)=((max w m:Nat):Int):=yp;obtain⟨xs',w',g1,g2,g3,g4⟩:=a2q sg b l hf hl K q (i+1) (max w m) (xs.set i u) h3 h1 (by rw[List.length_set];exact hx) (fun z hz=>by
   rcases aap hz with hz|rfl
   · exact hu z hz
   · exact hu1) yp
  refine⟨xs',w',g1,g2,g3,Eq.trans ?_ g4⟩;rw[go_loop];simp(disch:=first|exact yo|fail) only[go_sem,X_aq,ppF,i64s,d_a,h2,hy,hset,ey,eu,setU,setAtU,hbits,hB,e1,yz,List.length_set,Int.natCast_add]
theorem a2u {b:List UInt8} (hb:b.length≤800000) {sg:Bool} {l:List Int} (h:Fine sg l) (h1:1≤l.length) (h512:l.length≤512):
  ∃ x:List UInt8,x≠[]∧x.length≤b.length+2+64*l.length∧evL cfg n_aq 0 [.d (.sl ((b).map byteD)),.d (i64s l),.d (.bool (sg))] []=some (.d (.tup [.sl (x.map byteD),.int .i64 0]),[]):=by
 have hbl:=jz h yp;have d_a:decide ((l.length:Int)<1)=false:=by simp<;>omega
 have d_c:decide ((l.length:Int)>512)=false:=by simp<;>omega
 obtain⟨xs,w,g1,g2,g3,g4⟩:=a2q sg b l h yp [.c (.seq ago (.seq agn (.seq (.seq (.demote [8]) agm) .ret)))] l 0 0 (List.replicate l.length 0) rfl (aad _) yt yt yp;obtain⟨k,k64,hfit⟩:=a3s g3;obtain⟨cd,cq,c64,hcode⟩:=auz k64;obtain⟨hx,⟨hx1,hx0⟩,hx2⟩:=wg (b:=b) yp 1 cd l.length yp;obtain⟨px,px1,px2⟩:=aub (b:=hx) yp xs yp k k64;have hp:=aa2.2 hx0;have hpx:px≠[]:=by intro e;have:=px1.1;rw[e,List.length_nil] at this;omega
 rw[ah hpx,axa] at px2;refine⟨px,hpx,by omega,?_⟩
 rw[o_aq];have e0:(List.replicate l.length 0).map uD=List.replicate l.length (.int .u64 0):=by rw[List.map_replicate];rfl
 simp only[ppF,e0,Int.natCast_zero,List.cons_append,List.nil_append] at g4;unfold i64s at *;simp(disch:=first|exact yo|fail) only[go_sem,X_aq,c_aq,hbl,d_a,d_c,yz]
 refine g4.trans ?_;simp(disch:=first|exact yo|fail) only[go_sem,X_aq,hfit,hcode,hx2,px2,yz]
set_option maxRecDepth 100000
def ownU (x:List Nat):V:=match x with
 | []=> .d .nilS
 |y::r=> .own false 1 ((y::r).map uD)
theorem l5:ownU []= .d .nilS:=rfl
theorem m4 {x:List Nat} (h:x≠[]):ownU x= .own false 1 (x.map uD):=by
 cases x with
 |nil=>exact absurd rfl h
 |cons y r=>rfl
theorem a3i (x:List Nat):(ownU x).home 0=ownU x:=by cases x<;>rfl
abbrev pdE (sg:Bool) (b:List UInt8) (l:List Int) (s:Int) (sm:Bool) (o:V) (w i:Nat):List (Nat×V):=[(0,.d (.sl ((b).map byteD))),(1,.d (i64s l)),(2,.d (.bool (sg))),(8,.d (.int .i64 (s))),(9,.d (.bool (sm))),(11,o),(12,.d (.int .i64 ((w:Int)))),(13,.d (.int .i64 ((i:Int))))]
theorem aij (sg:Bool) (b:List UInt8) (l:List Int) (hf:Fine sg l) (hl:l.length≤512) (s:Int) (sm:Bool) (K:List Kf):∀ (q:List Int) (i w:Nat) (xs:List Nat),2≤i→l.drop i=q→xs.length+q.length≤512→w≤64→
  ∃ (xs':List Nat) (w':Nat) (j:Nat),xs'.length≤512∧w'≤64∧go X_ae (.c (.loop aju):: .b 0::K) ⟨pdE sg b l s sm (ownU xs) w i,[]⟩=go X_ae K ⟨pdE sg b l s sm (ownU xs') w' j++[(46,.d (.bool (false)))],[]⟩
 | [],i,w,xs,hi,hq,hx,hw=>by
  have:l.length≤i:=by simpa using hq
  have d_a:decide ((i:Int)<l.length)=false:=by simp<;>omega
  refine⟨xs,w,i,by omega,hw,?_⟩
  rw[go_loop];simp(disch:=first|exact yo|fail) only[go_sem,X_ae,pdE,i64s,d_a,a3i,List.cons_append,List.nil_append]
 | v::q,i,w,xs,hi,hq,hx,hw=>by
  obtain⟨h1,h2,h3⟩:=da hq;have e1:(i:Int)-1=((i-1:Nat):Int):=yp;obtain⟨u,hu⟩:∃ u,l[i-1]? =some u:=⟨_,yy yp⟩
  obtain⟨t,ok,ht,hsub⟩:=dv (hf v (List.mem_of_getElem? h2)).1 (hf u (List.mem_of_getElem? hu)).1;have d_a:decide ((i:Int)<l.length)=true:=by simp<;>omega
  obtain⟨n0,hn0,e2⟩:=oh t;obtain⟨n1,hn1,e3⟩:=oh (0-(n0:Int));rw[List.length_cons] at hx;cases e4:decide (t<0) with
  | true=>
   obtain⟨m,hm,hB⟩:=ee hn1;have e5:max (w:Int) (m:Int)=((max w m:Nat):Int):=yp;obtain⟨xs',w',j,g1,g2,g3⟩:=aij sg b l hf hl s sm K q (i+1) (max w m) (xs++[n1]) yp h3 (by simp;omega) yp
   refine⟨xs',w',j,g1,g2,Eq.trans ?_ g3⟩;rw[m4 (x:=xs++[n1]) yt,go_loop,List.map_append,List.map_cons,List.map_nil,uD_eq n1];by_cases hz:xs=[]
   · subst hz
     simp(disch:=first|exact yo|fail) only[go_sem,X_ae,pdE,i64s,d_a,l5,e1,e2,e3,e4,e5,h2,hu,hsub,hB,yz,Int.natCast_add]
   · rw[m4 hz]
     simp(disch:=first|exact yo|fail) only[go_sem,X_ae,pdE,i64s,d_a,e1,e2,e3,e4,e5,h2,hu,hsub,hB,yz,Int.natCast_add]
  | false=>
   obtain⟨m,hm,hB⟩:=ee hn0;have e5:max (w:Int) (m:Int)=((max w m:Nat):Int):=yp;obtain⟨xs',w',j,g1,g2,g3⟩:=aij sg b l hf hl s sm K q (i+1) (max w m) (xs++[n0]) yp h3 (by simp;omega) yp
   refine⟨xs',w',j,g1,g2,Eq.trans ?_ g3⟩;rw[m4 (x:=xs++[n0]) yt,go_loop,List.map_append,List.map_cons,List.map_nil,uD_eq n0];by_cases hz:xs=[]
   · subst hz
     simp(disch:=first|exact yo|fail) only[go_sem,X_ae,pdE,i64s,d_a,l5,e1,e2,e3,e4,e5,h2,hu,hsub,hB,yz,Int.natCast_add]
   · rw[m4 hz]
     simp(disch:=first|exact yo|fail) only[go_sem,X_ae,pdE,i64s,d_a,e1,e2,e3,e4,e5,h2,hu,hsub,hB,yz,Int.natCast_add]
theorem varB_ne (k:Nat):varB 10 k≠[]:=by
 rw[varB];split<;>simp
theorem mn {b:List UInt8} {u:Nat} (hb:b.length≤1000000) (hu:u<18446744073709551616):∃ x:List UInt8,x≠[]∧x.length≤b.length+10∧evL cfg n_bq 0 [.d (.sl ((b).map byteD)),.d (.int .u64 ((u:Int)))] []=some (.own false 1 (x.map byteD),[]):=by
 have h:=aj0 10 u;exact⟨b++varB 10 u,by simp[varB_ne],by rw[zo];omega,qh hb hu⟩
theorem a4d {b:List UInt8} (hb:b.length≤800000) {sg:Bool} {l:List Int} (h:Fine sg l) (h512:l.length≤512):
   ∃ d e,(e=1∨e=0∧∃ x:List UInt8,x≠[]∧d= .sl (x.map byteD))∧evL cfg n_ae 0 [.d (.sl ((b).map byteD)),.d (i64s l),.d (.bool (sg))] []=some (.d (.tup [d,.int .i64 e]),[]):=by
 have hbl:=jz h yp;obtain⟨s,sm,al,hs,hst⟩:=xw (fun v hv=>(h v hv).1) (by omega:l.length≤1000000)
 have d_c:decide ((l.length:Int)>512)=false:=by simp<;>omega
 rw[o_ae];rcases y9 (decide ((l.length:Int)<2)) with d_a|d_a<;>have p_a:=d_a<;>simp only[zh,zb,zt,zi,ne_eq] at p_a
 · refine⟨.sl [],1,.inl rfl,?_⟩
   unfold i64s at *;simp(disch:=first|exact yo|fail) only[go_sem,X_ae,c_ae,hbl,hst,d_a,d_c,yz]
 · cases al with
   | false=>
    refine⟨.sl [],1,.inl rfl,?_⟩;unfold i64s at *;simp(disch:=first|exact yo|fail) only[go_sem,X_ae,c_ae,hbl,hst,d_a,d_c,yz]
   | true=>
    obtain⟨v,hv⟩:∃ v,l[0]? =some v:=⟨_,yy yp⟩
    obtain⟨u,hu,hbits⟩:=ip (h v (List.mem_of_getElem? hv)).1 sg;have hz:=jh hs;have hzl:=aw4 hs;obtain⟨xs,w,j,g1,g2,g3⟩:=aij sg b l h h512 s sm [.c (.seq ahm (.seq (.seq ahl (.cond (.t 77) (.seq ahk ahj) .skip)) (.seq ahi (.seq ahh (.seq ahg (.cond (.t 100) (.seq ahf .ret) (.seq (.seq (.demote [11]) ahe) .ret)))))))] (l.drop 2) 2 2 [] (y7 _) rfl (by simp;omega) yp
    have z2:((2:Nat):Int)=2:=rfl;simp only[pdE,l5,List.cons_append,List.nil_append,z2] at g3;obtain⟨k,k64,hfit⟩:=a3s g2;obtain⟨cd,cq,c64,hcode⟩:=auz k64;cases sm with
    | true=>
     obtain⟨x1,⟨q1,_⟩,p1⟩:=wg (b:=b) yp 3 0 l.length yp;obtain⟨x2,_,q2,p2⟩:=mn (b:=x1) yp hu;obtain⟨x3,q3,_,p3⟩:=mn (b:=x2) yp hzl;refine⟨_,0,.inr ⟨rfl,x3,q3,rfl⟩,?_⟩;unfold i64s at *;simp(disch:=first|exact yo|fail) only[go_sem,X_ae,c_ae,hbl,hst,d_a,d_c,yz]
     refine g3.trans ?_;by_cases hx:xs=[]
     · subst hx
       simp(disch:=first|exact yo|fail) only[go_sem,X_ae,p1,p2,p3,hbits,hz,hv,l5,yz]
     · rw[m4 hx]
       simp(disch:=first|exact yo|fail) only[go_sem,X_ae,p1,p2,p3,hbits,hz,hv,yz]
    | false=>
     obtain⟨x1,⟨q1,_⟩,p1⟩:=wg (b:=b) yp 3 cd l.length yp;obtain⟨x2,_,q2,p2⟩:=mn (b:=x1) yp hu;obtain⟨x3,q3,q4,p3⟩:=mn (b:=x2) yp hzl;obtain⟨x4,q5,p4⟩:=aub (b:=x3) yp xs yp k k64;have hp:=aa2.2 q3;have hx4:x4≠[]:=by intro e;have:=q5.1;rw[e,List.length_nil] at this;omega
     rw[ah hx4,axa] at p4;refine⟨_,0,.inr ⟨rfl,x4,hx4,rfl⟩,?_⟩;unfold i64s at *;simp(disch:=first|exact yo|fail) only[go_sem,X_ae,c_ae,hbl,hst,d_a,d_c,yz]
     refine g3.trans ?_;by_cases hx:xs=[]
     · subst hx
       rw[List.map_nil] at p4;simp(disch:=first|exact yo|fail) only[go_sem,X_ae,p1,p2,p3,p4,hbits,hz,hv,hfit,hcode,l5,yz]
     · rw[m4 hx]
       simp(disch:=first|exact yo|fail) only[go_sem,X_ae,p1,p2,p3,p4,hbits,hz,hv,hfit,hcode,yz]
set_option maxHeartbeats 4000000
set_option maxRecDepth 100000
theorem ax9 {b:List UInt8} (hb:b.length≤700000) {sg:Bool} {l:List Int} (h:Fine sg l) (h512:l.length≤512) (x:List UInt8) (hx:x≠[]) (o:List (Nat×V))
   (ho:o=[]∨o=[(56,.d (.bool (true)))]∨∃ y:List UInt8,o=[(13,.d (.sl ((y).map byteD))),(77,.d (.bool (false)))]):
   ∃ x':List UInt8,x'≠[]∧x'.length≤x.length∧go X_az [.c (.seq af6 (.seq af5 (.cond (.t 94) af4 .skip))),.c (.exit 1),.b 1,.c (.seq af3 .ret)] ⟨(0,.d (.sl ((b).map byteD)))::(1,.d (i64s l))::(2,.d (.bool (sg)))::(7,.d (.sl ((x).map byteD)))::o,[]⟩=some (.d (.sl ((x').map byteD)),[]):=by
 obtain⟨d,e,hd,hp⟩:=a4d (b:=b) yp h h512;unfold i64s at *;rcases hd with rfl|⟨rfl,y,hy,rfl⟩
 · refine⟨x,hx,y7 _,?_⟩
   rcases ho with rfl|rfl|⟨z,rfl⟩<;>simp(disch:=first|exact yo|fail) only[go_sem,X_az,hp,Int.reduceBEq]
 · rcases y9 (decide ((y.length:Int)<x.length)) with d_a|d_a<;>have p_a:=d_a<;>simp only[zh,zb,zt,zi,ne_eq] at p_a
   · refine⟨y,hy,by omega,?_⟩
     rcases ho with rfl|rfl|⟨z,rfl⟩<;>simp(disch:=first|exact yo|fail) only[go_sem,X_az,hp,Int.reduceBEq,d_a,yz]
   · refine⟨x,hx,y7 _,?_⟩
     rcases ho with rfl|rfl|⟨z,rfl⟩<;>simp(disch:=first|exact yo|fail) only[go_sem,X_az,hp,Int.reduceBEq,d_a,yz]
theorem afq {b:List UInt8} (hb:b.length≤700000) {sg:Bool} {l:List Int} (h:Fine sg l) (h1:1≤l.length) (h512:l.length≤512):
   ∃ x:List UInt8,x≠[]∧x.length≤b.length+2+64*l.length∧evL cfg n_az 0 [.d (.sl ((b).map byteD)),.d (i64s l),.d (.bool (sg))] []=some (.d (.sl ((x).map byteD)),[]):=by
 obtain⟨x,hx0,hx,hp⟩:=a2u (b:=b) yp h h1 h512;obtain⟨s,sm,al,hs,hst⟩:=xw (fun v hv=>(h v hv).1) (by omega:l.length≤1000000)
 obtain⟨v,hv⟩:∃ v,l[0]? =some v:=⟨_,yy yp⟩
 have D:=fun x hx o ho=>ax9 (b:=b) yp h h512 x hx o ho
 rw[o_az];have last:(sm&&(s==0)&&decide ((l.length:Int)≥3)&&decide ((l.length:Int)≤10))=false→∃ x':List UInt8,x'≠[]∧x'.length≤b.length+2+64*l.length∧go X_az [.c c_az] ⟨entry 0 [.d (.sl ((b).map byteD)),.d (i64s l),.d (.bool (sg))],[]⟩=some (.d (.sl ((x').map byteD)),[]):=by
   intro hk;obtain⟨x1,q1,q2,q3⟩:=D x hx0 [(56,.d (.bool (true)))] (.inr (.inl rfl));unfold i64s at *;have cases4:sm=false∨sm=true∧(s==0)=false∨sm=true∧(s==0)=true∧decide ((l.length:Int)≥3)=false∨sm=true∧(s==0)=true∧decide ((l.length:Int)≥3)=true∧decide ((l.length:Int)≤10)=false:=by
     revert hk;cases sm<;>cases(s==0)<;>cases decide ((l.length:Int)≥3)<;>cases decide ((l.length:Int)≤10)<;>simp
   cases al with
   | false=>
     refine⟨x,hx0,hx,?_⟩;rcases cases4 with rfl|⟨rfl,g1⟩|⟨rfl,g1,g2⟩|⟨rfl,g1,g2,g3⟩
     · simp(disch:=first|exact yo|fail) only[go_sem,X_az,c_az,hp,hst,Int.reduceBEq,yz]
     · simp(disch:=first|exact yo|fail) only[go_sem,X_az,c_az,hp,hst,g1,Int.reduceBEq,yz]
     · simp(disch:=first|exact yo|fail) only[go_sem,X_az,c_az,hp,hst,g1,g2,Int.reduceBEq,yz]
     · simp(disch:=first|exact yo|fail) only[go_sem,X_az,c_az,hp,hst,g1,g2,g3,Int.reduceBEq,yz]
   | true=>
     rcases y9 (decide ((l.length:Int)≥2)) with d_a|d_a<;>have p_a:=d_a<;>simp only[zh,zb,zt,zi,ne_eq] at p_a
     · refine⟨x1,q1,by omega,Eq.trans ?_ q3⟩
       rcases cases4 with rfl|⟨rfl,g1⟩|⟨rfl,g1,g2⟩|⟨rfl,g1,g2,g3⟩
       · simp(disch:=first|exact yo|fail) only[go_sem,X_az,c_az,hp,hst,d_a,Int.reduceBEq,yz]
       · simp(disch:=first|exact yo|fail) only[go_sem,X_az,c_az,hp,hst,g1,d_a,Int.reduceBEq,yz]
       · simp(disch:=first|exact yo|fail) only[go_sem,X_az,c_az,hp,hst,g1,g2,d_a,Int.reduceBEq,yz]
       · simp(disch:=first|exact yo|fail) only[go_sem,X_az,c_az,hp,hst,g1,g2,g3,d_a,Int.reduceBEq,yz]
     · refine⟨x,hx0,hx,?_⟩
       rcases cases4 with rfl|⟨rfl,g1⟩|⟨rfl,g1,g2⟩|⟨rfl,g1,g2,g3⟩
       · simp(disch:=first|exact yo|fail) only[go_sem,X_az,c_az,hp,hst,d_a,Int.reduceBEq,yz]
       · simp(disch:=first|exact yo|fail) only[go_sem,X_az,c_az,hp,hst,g1,d_a,Int.reduceBEq,yz]
       · simp(disch:=first|exact yo|fail) only[go_sem,X_az,c_az,hp,hst,g1,g2,d_a,Int.reduceBEq,yz]
       · simp(disch:=first|exact yo|fail) only[go_sem,X_az,c_az,hp,hst,g1,g2,g3,d_a,Int.reduceBEq,yz]
 cases hk:(sm&&(s==0)&&decide ((l.length:Int)≥3)&&decide ((l.length:Int)≤10))
 · exact last hk
 · simp only[ze] at hk
   obtain⟨⟨⟨rfl,g1⟩,g2⟩,g3⟩:=hk;have g2':=of_decide_eq_true g2;have g3':=of_decide_eq_true g3;obtain⟨y,hy0,hy,hsh⟩:=ax2 (b:=b) yp (sg:=sg) (v:=v) (fun z hz=>by
     rw[aal] at hz;subst hz;exact h z (List.mem_of_getElem? hv)) (n:=l.length) yp yp
   rcases y9 (decide ((y.length:Int)<x.length)) with d_a|d_a<;>have p_a:=d_a<;>simp only[zh,zb,zt,zi,ne_eq] at p_a
   · obtain⟨x1,q1,q2,q3⟩:=D y hy0 [] (.inl rfl)
     refine⟨x1,q1,by omega,Eq.trans ?_ q3⟩
     unfold i64s at *;simp(disch:=first|exact yo|fail) only[go_sem,X_az,c_az,hp,hst,g1,g2,g3,hv,hsh,d_a,Int.reduceBEq,yz]
   · obtain⟨x1,q1,q2,q3⟩:=D x hx0 [(13,.d (.sl ((y).map byteD))),(77,.d (.bool (false)))] (.inr (.inr ⟨y,rfl⟩))
     refine⟨x1,q1,by omega,Eq.trans ?_ q3⟩
     unfold i64s at *;simp(disch:=first|exact yo|fail) only[go_sem,X_az,c_az,hp,hst,g1,g2,g3,hv,hsh,d_a,Int.reduceBEq,yz]
