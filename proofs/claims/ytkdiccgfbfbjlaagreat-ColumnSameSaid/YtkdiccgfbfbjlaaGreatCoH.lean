import Derived.Test.YtkdiccgfbfbjlaaGreatCoC
set_option linter.unusedSectionVars false
namespace Go.Proofs.YtkdiccgfbfbjlaaGreat
open Go Go.Ev
variable [Sh]
set_option maxHeartbeats 2000000
set_option maxRecDepth 100000
abbrev s5E (l:List Int) (s:Int) (a c:Bool) (i:Nat):List (Nat×V):=[(0,.d (AR l)),(2,.d (.int .i64 (s))),(3,.d (.bool (a))),(4,.d (.bool (c))),(5,.d (.int .i64 ((i:Int))))]
theorem st_12 (l:List Int) (s t:Int) (a c:Bool) (i:Nat) (K:List Kf):∃ c',go DH (.c sc::K) ⟨s5E l s a c i++[(6,.d (.int .i64 (t)))],[]⟩=go DH K ⟨s5E l s a c' i,[]⟩:=by
 cases c with
 | false=>
  refine⟨false,?_⟩;simp(disch:=first|exact abt|fail) only[go_sem,DH,s5E,AR,List.cons_append,List.nil_append]
 | true=>
  cases h1:(t != -9223372036854775808) with
  | false=>
   refine⟨false,?_⟩;simp(disch:=first|exact abt|fail) only[go_sem,DH,s5E,AR,List.cons_append,List.nil_append,h1]
  | true=>
   rcases Int.lt_trichotomy s 0 with h2|h2|h2
   · have e1:(s==0)=false:=by simp;omega
     have d_e:decide (s>0)=false:=by simp<;>omega
     have d_f:decide (s<0)=true:=by simp<;>omega
     cases h3:decide (t≤0) with
     |true=>refine⟨true,?_⟩;simp(disch:=first|exact abt|fail) only[go_sem,DH,s5E,AR,List.cons_append,List.nil_append,h1,e1,d_e,d_f,h3]
     |false=>refine⟨false,?_⟩;simp(disch:=first|exact abt|fail) only[go_sem,DH,s5E,AR,List.cons_append,List.nil_append,h1,e1,d_e,d_f,h3]
   · subst h2
     cases h3:(t==0) with
     |true=>refine⟨true,?_⟩;simp(disch:=first|exact abt|fail) only[go_sem,DH,s5E,AR,List.cons_append,List.nil_append,h1,h3,Int.reduceBEq,Int.reduceGT,Int.reduceLT,decide_false,gt_iff_lt]
     |false=>refine⟨false,?_⟩;simp(disch:=first|exact abt|fail) only[go_sem,DH,s5E,AR,List.cons_append,List.nil_append,h1,h3,Int.reduceBEq,Int.reduceGT,Int.reduceLT,decide_false,gt_iff_lt]
   · have e1:(s==0)=false:=by simp;omega
     have d_e:decide (s>0)=true:=by simp<;>omega
     have d_f:decide (s<0)=false:=by simp<;>omega
     cases h3:decide (t≥0) with
     |true=>refine⟨true,?_⟩;simp(disch:=first|exact abt|fail) only[go_sem,DH,s5E,AR,List.cons_append,List.nil_append,h1,e1,d_e,d_f,h3]
     |false=>refine⟨false,?_⟩;simp(disch:=first|exact abt|fail) only[go_sem,DH,s5E,AR,List.cons_append,List.nil_append,h1,e1,d_e,d_f,h3]
theorem st_11 (l:List Int) (s t:Int) (a c:Bool) (i:Nat) (K:List Kf) (o:List (Nat×V)) (ho:o=[]∨o=[(32,.d (.bool (false)))]):∃ a',go DH (.c yb::K) ⟨s5E l s a c i++(6,.d (.int .i64 (t)))::o,[]⟩=go DH K ⟨s5E l s a' c i++[(6,.d (.int .i64 (t)))],[]⟩:=by
 cases a with
 | false=>
  refine⟨false,?_⟩;rcases ho with rfl|rfl<;>simp(disch:=first|exact abt|fail) only[go_sem,DH,s5E,AR,List.cons_append,List.nil_append]
 | true=>
  cases h:(t==s) with
  |true=>refine⟨true,?_⟩;rcases ho with rfl|rfl<;>simp(disch:=first|exact abt|fail) only[go_sem,DH,s5E,AR,List.cons_append,List.nil_append,h]
  |false=>refine⟨false,?_⟩;rcases ho with rfl|rfl<;>simp(disch:=first|exact abt|fail) only[go_sem,DH,s5E,AR,List.cons_append,List.nil_append,h]
theorem xh (l:List Int) (hf:∀ v∈l,inI v) (hl:l.length≤1000000):∀ (q:List Int) (i:Nat) (s:Int) (a c:Bool),1≤i→l.drop i=q→inI s→
  ∃ s' a' c',inI s'∧go DH [.c (.loop t7),.b 0,.c (.seq sa .ret)] ⟨s5E l s a c i,[]⟩=some (.d (.tup [.int .i64 s',.bool a',.bool c']),[])
 | [],i,s,a,c,hi,hq,hs=>by
  have:l.length≤i:=by simpa using hq
  have d_a:decide ((i:Int)<l.length)=false:=by simp<;>omega
  refine⟨s,a,c,hs,?_⟩;rw[go_loop];simp(disch:=first|exact abt|fail) only[go_sem,DH,s5E,AR,d_a,aby]
 | v::q,i,s,a,c,hi,hq,hs=>by
  obtain⟨h1,h2,h3⟩:=ba hq;have e1:(i:Int)-1=((i-1:Nat):Int):=abu;obtain⟨u,hu⟩:∃ u,l[i-1]? =some u:=⟨_,ab0 abu⟩
  obtain⟨t,ok,ht,hsub⟩:=d7 (hf v (List.mem_of_getElem? h2)) (hf u (List.mem_of_getElem? hu));have d_a:decide ((i:Int)<l.length)=true:=by simp<;>omega
  cases ok with
  | false=>
   cases e2:((i:Int)==1) with
   | true=>
     obtain⟨s',a',c',g1,g2⟩:=xh l hf hl q (i+1) 0 false false abu h3 (by unfold inI;omega)
     refine⟨s',a',c',g1,Eq.trans ?_ g2⟩;rw[go_loop];simp(disch:=first|exact abt|fail) only[go_sem,DH,s5E,AR,d_a,e1,e2,h2,hu,hsub,aby,Int.natCast_add]
   | false=>
     obtain⟨s',a',c',g1,g2⟩:=xh l hf hl q (i+1) s false false abu h3 hs;refine⟨s',a',c',g1,Eq.trans ?_ g2⟩;rw[go_loop];simp(disch:=first|exact abt|fail) only[go_sem,DH,s5E,AR,d_a,e1,e2,h2,hu,hsub,aby,Int.natCast_add]
  | true=>
   obtain⟨w,hw,e2⟩:∃ w,inI w∧((i:Int)==1)=decide (i=1)∧w=(if i=1 then t else s):=⟨if i=1 then t else s,by split<;>assumption,by rw[adg];simp;omega,rfl⟩
   obtain⟨e2,e3⟩:=e2;obtain⟨a1,f1⟩:=st_11 l w t a c i (.c sc:: .b 1:: .c sb:: .c (.loop t7):: .b 0:: .c (.seq sa .ret)::[]) (if i=1 then[] else[(32,.d (.bool (false)))]) (by split<;>simp)
   obtain⟨c1,f2⟩:=st_12 l w t a1 c i (.b 1:: .c sb:: .c (.loop t7):: .b 0:: .c (.seq sa .ret)::[]);obtain⟨s',a',c',g1,g2⟩:=xh l hf hl q (i+1) w a1 c1 abu h3 hw;refine⟨s',a',c',g1,Eq.trans ?_ (f1.trans (f2.trans (Eq.trans ?_ g2)))⟩
   · rw[go_loop]
     by_cases hi1:i=1
     · rw[if_pos hi1] at e3
       rw[decide_eq_true hi1] at e2;rw[if_pos hi1];subst e3;simp(disch:=first|exact abt|fail) only[go_sem,DH,s5E,AR,d_a,e1,e2,h2,hu,hsub,aby,List.cons_append,List.nil_append]
     · rw[if_neg hi1] at e3
       rw[decide_eq_false hi1] at e2;rw[if_neg hi1];subst e3;simp(disch:=first|exact abt|fail) only[go_sem,DH,s5E,AR,d_a,e1,e2,h2,hu,hsub,aby,List.cons_append,List.nil_append]
   · simp(disch:=first|exact abt|fail) only[go_sem,DH,s5E,AR,Int.natCast_add]
theorem aa6 {l:List Int} (hf:∀ v∈l,inI v) (hl:l.length≤1000000):∃ s a c,inI s∧evL cfg Ps 0 [.d (AR l)] []=some (.d (.tup [.int .i64 s,.bool a,.bool c]),[]):=by
 obtain⟨s',a',c',g1,g2⟩:=xh l hf hl _ 1 0 true true (ab5 _) rfl (by unfold inI;omega)
 refine⟨s',a',c',g1,?_⟩;have z1:((1:Nat):Int)=1:=rfl;rw[o_bc,← g2];simp(disch:=first|exact abt|fail) only[go_sem,DH,Y3,s5E,AR,z1]
end Go.Proofs.YtkdiccgfbfbjlaaGreat
namespace Go.Proofs.YtkdiccgfbfbjlaaGreat
open Go Go.Ev
variable [Sh]
set_option maxHeartbeats 2000000
set_option maxRecDepth 100000
def uD (u:Nat):D:= .int .u64 (u:Int)
theorem QQ (u:Nat):uD u= .int .u64 (u:Int):=rfl
theorem setU (xs:List Nat) (i u:Nat):(xs.map uD).set i (.int .u64 (u:Int))=(xs.set i u).map uD:=by rw[List.map_set,uD]
theorem bcn (xs:List Nat):Ew xs= .sl (xs.map uD):=rfl
theorem cE (k:IntKind) (n:Int) (u:Int):(D.int k n).setAt 0 [.int .u64 u]=some (.int .u64 u):=rfl
abbrev ppF (sg:Bool) (b:List UInt8) (l:List Int) (xs:List Nat) (w i:Nat):List (Nat×V):=[(0,.d (.sl ((b).map AD))),(1,.d (AR l)),(2,.d (.bool (sg))),(8,.own false 1 (xs.map uD)),(9,.d (.int .i64 ((w:Int)))),(31,.d (AR l)),(32,.d (.int .i64 ((l.length:Int)))),(33,.d (.int .i64 ((i:Int))))]
theorem bk6 (sg:Bool) (b:List UInt8) (l:List Int) (hf:DI sg l) (hl:l.length≤1000000) (K:List Kf):∀ (q:List Int) (i w:Nat) (xs:List Nat),l.drop i=q→i≤l.length→xs.length=l.length→(∀ u∈xs,u<18446744073709551616)→w≤64→
  ∃ (xs':List Nat) (w':Nat),xs'.length=l.length∧(∀ u∈xs',u<18446744073709551616)∧w'≤64∧go QM (.c (.loop arj):: .b 0::K) ⟨ppF sg b l xs w i,[]⟩=go QM K ⟨ppF sg b l xs' w' l.length++[(34,.d (.bool (false)))],[]⟩
 | [],i,w,xs,hq,hi,hx,hu,hw=>by
  have:=aq hq;have:i=l.length:=abu;subst this;have d_a:decide ((l.length:Int)<l.length)=false:=by simp<;>omega
  refine⟨xs,w,hx,hu,hw,?_⟩;rw[go_loop];simp(disch:=first|exact abt|fail) only[go_sem,QM,ppF,AR,d_a,List.cons_append,List.nil_append]
 | v::q,i,w,xs,hq,hi,hx,hu,hw=>by
  obtain⟨h1,h2,h3⟩:=ba hq;have d_a:decide ((i:Int)<l.length)=true:=by simp<;>omega
  obtain⟨u,hu1,hbits⟩:=ji (hf v (List.mem_of_getElem? h2)).1 sg;obtain⟨m,hm,hB⟩:=eq hu1;have hxi:i<xs.length:=abu;obtain⟨y,hy⟩:∃ y,xs[i]? =some y:=⟨_,ab0 hxi⟩
  have hset:(xs.set i u)[i]? =some u:=by rw[List.getElem?_set_self hxi]
  have ey:=QQ y;have eu:=QQ u;have e1:max (w:Int) (m:Int)=((max w m:Nat):Int):=abu;obtain⟨xs',w',g1,g2,g3,g4⟩:=bk6 sg b l hf hl K q (i+1) (max w m) (xs.set i u) h3 h1 (by rw[List.length_set];exact hx) (fun z hz=>by
   rcases adh hz with hz|rfl
   · exact hu z hz
   · exact hu1) abu
  refine⟨xs',w',g1,g2,g3,Eq.trans ?_ g4⟩;rw[go_loop];simp(disch:=first|exact abt|fail) only[go_sem,QM,ppF,AR,d_a,h2,hy,hset,ey,eu,setU,cE,hbits,hB,e1,aby,List.length_set,Int.natCast_add]
theorem bla {b:List UInt8} (hb:b.length≤800000) {sg:Bool} {l:List Int} (h:DI sg l) (h1:1≤l.length) (h512:l.length≤512):
  ∃ x:List UInt8,x≠[]∧x.length≤b.length+2+64*l.length∧evL cfg Rc 0 [.d (.sl ((b).map AD)),.d (AR l),.d (.bool (sg))] []=some (.d (.tup [.sl (x.map AD),.int .i64 0]),[]):=by
 have hbl:=ku h abu;have d_a:decide ((l.length:Int)<1)=false:=by simp<;>omega
 have d_c:decide ((l.length:Int)>512)=false:=by simp<;>omega
 obtain⟨xs,w,g1,g2,g3,g4⟩:=bk6 sg b l h abu [.c (.seq amv (.seq amu (.seq (.seq (.BV [8]) amt) .ret)))] l 0 0 (List.replicate l.length 0) rfl (aco _) abw abw abu;obtain⟨k,k64,hfit⟩:=bl9 g3;obtain⟨cd,cq,c64,hcode⟩:=a99 k64;obtain⟨hx,⟨hx1,hx0⟩,hx2⟩:=zi (b:=b) abu 1 cd l.length abu;obtain⟨px,px1,px2⟩:=a9h (b:=hx) abu xs abu k k64;have hp:=List.length_pos_iff.2 hx0;have hpx:px≠[]:=by intro e;have:=px1.1;rw[e,List.length_nil] at this;omega
 rw[ac hpx,bcn] at px2;refine⟨px,hpx,by omega,?_⟩
 rw[o_bg];have e0:(List.replicate l.length 0).map uD=List.replicate l.length (.int .u64 0):=by rw[List.map_replicate];rfl
 simp only[ppF,e0,Int.natCast_zero,List.cons_append,List.nil_append] at g4;unfold AR at *;simp(disch:=first|exact abt|fail) only[go_sem,QM,Y2,hbl,d_a,d_c,aby]
 refine g4.trans ?_;simp(disch:=first|exact abt|fail) only[go_sem,QM,hfit,hcode,hx2,px2,aby]
end Go.Proofs.YtkdiccgfbfbjlaaGreat
namespace Go.Proofs.YtkdiccgfbfbjlaaGreat
open Go Go.Ev
variable [Sh]
set_option maxHeartbeats 2000000
set_option maxRecDepth 100000
def Qu (x:List Nat):V:=match x with
 | []=> .d .AL
 |y::r=> .own false 1 ((y::r).map uD)
theorem mz:Qu []= .d .AL:=rfl
theorem oz {x:List Nat} (h:x≠[]):Qu x= .own false 1 (x.map uD):=by
 cases x with
 |nil=>exact absurd rfl h
 |cons y r=>rfl
theorem blz (x:List Nat):(Qu x).home 0=Qu x:=by cases x<;>rfl
abbrev pdE (sg:Bool) (b:List UInt8) (l:List Int) (s:Int) (sm:Bool) (o:V) (w i:Nat):List (Nat×V):=[(0,.d (.sl ((b).map AD))),(1,.d (AR l)),(2,.d (.bool (sg))),(8,.d (.int .i64 (s))),(9,.d (.bool (sm))),(11,o),(12,.d (.int .i64 ((w:Int)))),(13,.d (.int .i64 ((i:Int))))]
theorem ap4 (sg:Bool) (b:List UInt8) (l:List Int) (hf:DI sg l) (hl:l.length≤512) (s:Int) (sm:Bool) (K:List Kf):∀ (q:List Int) (i w:Nat) (xs:List Nat),2≤i→l.drop i=q→xs.length+q.length≤512→w≤64→
  ∃ (xs':List Nat) (w':Nat) (j:Nat),xs'.length≤512∧w'≤64∧go Eh (.c (.loop ars):: .b 0::K) ⟨pdE sg b l s sm (Qu xs) w i,[]⟩=go Eh K ⟨pdE sg b l s sm (Qu xs') w' j++[(46,.d (.bool (false)))],[]⟩
 | [],i,w,xs,hi,hq,hx,hw=>by
  have:l.length≤i:=by simpa using hq
  have d_a:decide ((i:Int)<l.length)=false:=by simp<;>omega
  refine⟨xs,w,i,by omega,hw,?_⟩
  rw[go_loop];simp(disch:=first|exact abt|fail) only[go_sem,Eh,pdE,AR,d_a,blz,List.cons_append,List.nil_append]
 | v::q,i,w,xs,hi,hq,hx,hw=>by
  obtain⟨h1,h2,h3⟩:=ba hq;have e1:(i:Int)-1=((i-1:Nat):Int):=abu;obtain⟨u,hu⟩:∃ u,l[i-1]? =some u:=⟨_,ab0 abu⟩
  obtain⟨t,ok,ht,hsub⟩:=d7 (hf v (List.mem_of_getElem? h2)).1 (hf u (List.mem_of_getElem? hu)).1;have d_a:decide ((i:Int)<l.length)=true:=by simp<;>omega
  obtain⟨n0,hn0,e2⟩:=ql t;obtain⟨n1,hn1,e3⟩:=ql (0-(n0:Int));rw[List.length_cons] at hx;cases e4:decide (t<0) with
  | true=>
   obtain⟨m,hm,hB⟩:=eq hn1;have e5:max (w:Int) (m:Int)=((max w m:Nat):Int):=abu;obtain⟨xs',w',j,g1,g2,g3⟩:=ap4 sg b l hf hl s sm K q (i+1) (max w m) (xs++[n1]) abu h3 (by simp;omega) abu
   refine⟨xs',w',j,g1,g2,Eq.trans ?_ g3⟩;rw[oz (x:=xs++[n1]) abw,go_loop,List.map_append,List.map_cons,List.map_nil,QQ n1];by_cases hz:xs=[]
   · subst hz
     simp(disch:=first|exact abt|fail) only[go_sem,Eh,pdE,AR,d_a,mz,e1,e2,e3,e4,e5,h2,hu,hsub,hB,aby,Int.natCast_add]
   · rw[oz hz]
     simp(disch:=first|exact abt|fail) only[go_sem,Eh,pdE,AR,d_a,e1,e2,e3,e4,e5,h2,hu,hsub,hB,aby,Int.natCast_add]
  | false=>
   obtain⟨m,hm,hB⟩:=eq hn0;have e5:max (w:Int) (m:Int)=((max w m:Nat):Int):=abu;obtain⟨xs',w',j,g1,g2,g3⟩:=ap4 sg b l hf hl s sm K q (i+1) (max w m) (xs++[n0]) abu h3 (by simp;omega) abu
   refine⟨xs',w',j,g1,g2,Eq.trans ?_ g3⟩;rw[oz (x:=xs++[n0]) abw,go_loop,List.map_append,List.map_cons,List.map_nil,QQ n0];by_cases hz:xs=[]
   · subst hz
     simp(disch:=first|exact abt|fail) only[go_sem,Eh,pdE,AR,d_a,mz,e1,e2,e3,e4,e5,h2,hu,hsub,hB,aby,Int.natCast_add]
   · rw[oz hz]
     simp(disch:=first|exact abt|fail) only[go_sem,Eh,pdE,AR,d_a,e1,e2,e3,e4,e5,h2,hu,hsub,hB,aby,Int.natCast_add]
theorem bcj (k:Nat):Dd 10 k≠[]:=by
 rw[Dd];split<;>simp
theorem oh {b:List UInt8} {u:Nat} (hb:b.length≤1000000) (hu:u<18446744073709551616):∃ x:List UInt8,x≠[]∧x.length≤b.length+10∧evL cfg GG 0 [.d (.sl ((b).map AD)),.d (.int .u64 ((u:Int)))] []=some (.own false 1 (x.map AD),[]):=by
 have h:=xa 10 u;exact⟨b++Dd 10 u,by simp[bcj],by rw[aci];omega,j4 hb hu⟩
theorem bmx {b:List UInt8} (hb:b.length≤800000) {sg:Bool} {l:List Int} (h:DI sg l) (h512:l.length≤512):
   ∃ d e,(e=1∨e=0∧∃ x:List UInt8,x≠[]∧d= .sl (x.map AD))∧evL cfg Rq 0 [.d (.sl ((b).map AD)),.d (AR l),.d (.bool (sg))] []=some (.d (.tup [d,.int .i64 e]),[]):=by
 have hbl:=ku h abu;obtain⟨s,sm,al,hs,Bz⟩:=aa6 (fun v hv=>(h v hv).1) (by omega:l.length≤1000000)
 have d_c:decide ((l.length:Int)>512)=false:=by simp<;>omega
 rw[o_ai];rcases ab2 (decide ((l.length:Int)<2)) with d_a|d_a<;>have p_a:=d_a<;>simp only[ab4,ab3,acg,ab6,ne_eq] at p_a
 · refine⟨.sl [],1,.inl rfl,?_⟩
   unfold AR at *;simp(disch:=first|exact abt|fail) only[go_sem,Eh,QE,hbl,Bz,d_a,d_c,aby]
 · cases al with
   | false=>
    refine⟨.sl [],1,.inl rfl,?_⟩;unfold AR at *;simp(disch:=first|exact abt|fail) only[go_sem,Eh,QE,hbl,Bz,d_a,d_c,aby]
   | true=>
    obtain⟨v,hv⟩:∃ v,l[0]? =some v:=⟨_,ab0 abu⟩
    obtain⟨u,hu,hbits⟩:=ji (h v (List.mem_of_getElem? hv)).1 sg;have hz:=gw hs;have hzl:=ary hs;obtain⟨xs,w,j,g1,g2,g3⟩:=ap4 sg b l h h512 s sm [.c (.seq aoh (.seq (.seq aog (.cond (.t 77) (.seq aof aoe) .skip)) (.seq aod (.seq aoc (.seq aob (.cond (.t 100) (.seq aoa .ret) (.seq (.seq (.BV [11]) an9) .ret)))))))] (l.drop 2) 2 2 [] (ab5 _) rfl (by simp;omega) abu
    have z2:((2:Nat):Int)=2:=rfl;simp only[pdE,mz,List.cons_append,List.nil_append,z2] at g3;obtain⟨k,k64,hfit⟩:=bl9 g2;obtain⟨cd,cq,c64,hcode⟩:=a99 k64;cases sm with
    | true=>
     obtain⟨x1,⟨q1,_⟩,p1⟩:=zi (b:=b) abu 3 0 l.length abu;obtain⟨x2,_,q2,p2⟩:=oh (b:=x1) abu hu;obtain⟨x3,q3,_,p3⟩:=oh (b:=x2) abu hzl;refine⟨_,0,.inr ⟨rfl,x3,q3,rfl⟩,?_⟩;unfold AR at *;simp(disch:=first|exact abt|fail) only[go_sem,Eh,QE,hbl,Bz,d_a,d_c,aby]
     refine g3.trans ?_;by_cases hx:xs=[]
     · subst hx
       simp(disch:=first|exact abt|fail) only[go_sem,Eh,p1,p2,p3,hbits,hz,hv,mz,aby]
     · rw[oz hx]
       simp(disch:=first|exact abt|fail) only[go_sem,Eh,p1,p2,p3,hbits,hz,hv,aby]
    | false=>
     obtain⟨x1,⟨q1,_⟩,p1⟩:=zi (b:=b) abu 3 cd l.length abu;obtain⟨x2,_,q2,p2⟩:=oh (b:=x1) abu hu;obtain⟨x3,q3,q4,p3⟩:=oh (b:=x2) abu hzl;obtain⟨x4,q5,p4⟩:=a9h (b:=x3) abu xs abu k k64;have hp:=List.length_pos_iff.2 q3;have hx4:x4≠[]:=by intro e;have:=q5.1;rw[e,List.length_nil] at this;omega
     rw[ac hx4,bcn] at p4;refine⟨_,0,.inr ⟨rfl,x4,hx4,rfl⟩,?_⟩;unfold AR at *;simp(disch:=first|exact abt|fail) only[go_sem,Eh,QE,hbl,Bz,d_a,d_c,aby]
     refine g3.trans ?_;by_cases hx:xs=[]
     · subst hx
       rw[List.map_nil] at p4;simp(disch:=first|exact abt|fail) only[go_sem,Eh,p1,p2,p3,p4,hbits,hz,hv,hfit,hcode,mz,aby]
     · rw[oz hx]
       simp(disch:=first|exact abt|fail) only[go_sem,Eh,p1,p2,p3,p4,hbits,hz,hv,hfit,hcode,aby]
end Go.Proofs.YtkdiccgfbfbjlaaGreat
namespace Go.Proofs.YtkdiccgfbfbjlaaGreat
open Go Go.Ev
variable [Sh]
set_option maxHeartbeats 4000000
set_option maxRecDepth 100000
theorem bde {b:List UInt8} (hb:b.length≤700000) {sg:Bool} {l:List Int} (h:DI sg l) (h512:l.length≤512) (x:List UInt8) (hx:x≠[]) (o:List (Nat×V))
   (ho:o=[]∨o=[(56,.d (.bool (true)))]∨∃ y:List UInt8,o=[(13,.d (.sl ((y).map AD))),(77,.d (.bool (false)))]):
   ∃ x':List UInt8,x'≠[]∧x'.length≤x.length∧go Dv [.c (.seq al7 (.seq al6 (.cond (.t 94) al5 .skip))),.c (.exit 1),.b 1,.c (.seq al4 .ret)] ⟨(0,.d (.sl ((b).map AD)))::(1,.d (AR l))::(2,.d (.bool (sg)))::(7,.d (.sl ((x).map AD)))::o,[]⟩=some (.d (.sl ((x').map AD)),[]):=by
 obtain⟨d,e,hd,hp⟩:=bmx (b:=b) abu h h512;unfold AR at *;rcases hd with rfl|⟨rfl,y,hy,rfl⟩
 · refine⟨x,hx,ab5 _,?_⟩
   rcases ho with rfl|rfl|⟨z,rfl⟩<;>simp(disch:=first|exact abt|fail) only[go_sem,Dv,hp,Int.reduceBEq]
 · rcases ab2 (decide ((y.length:Int)<x.length)) with d_a|d_a<;>have p_a:=d_a<;>simp only[ab4,ab3,acg,ab6,ne_eq] at p_a
   · refine⟨y,hy,by omega,?_⟩
     rcases ho with rfl|rfl|⟨z,rfl⟩<;>simp(disch:=first|exact abt|fail) only[go_sem,Dv,hp,Int.reduceBEq,d_a,aby]
   · refine⟨x,hx,ab5 _,?_⟩
     rcases ho with rfl|rfl|⟨z,rfl⟩<;>simp(disch:=first|exact abt|fail) only[go_sem,Dv,hp,Int.reduceBEq,d_a,aby]
theorem alv {b:List UInt8} (hb:b.length≤700000) {sg:Bool} {l:List Int} (h:DI sg l) (h1:1≤l.length) (h512:l.length≤512):
   ∃ x:List UInt8,x≠[]∧x.length≤b.length+2+64*l.length∧evL cfg Hr 0 [.d (.sl ((b).map AD)),.d (AR l),.d (.bool (sg))] []=some (.d (.sl ((x).map AD)),[]):=by
 obtain⟨x,hx0,hx,hp⟩:=bla (b:=b) abu h h1 h512;obtain⟨s,sm,al,hs,Bz⟩:=aa6 (fun v hv=>(h v hv).1) (by omega:l.length≤1000000)
 obtain⟨v,hv⟩:∃ v,l[0]? =some v:=⟨_,ab0 abu⟩
 have D:=fun x hx o ho=>bde (b:=b) abu h h512 x hx o ho
 rw[o_bz];have last:(sm&&(s==0)&&decide ((l.length:Int)≥3)&&decide ((l.length:Int)≤10))=false→∃ x':List UInt8,x'≠[]∧x'.length≤b.length+2+64*l.length∧go Dv [.c EB] ⟨entry 0 [.d (.sl ((b).map AD)),.d (AR l),.d (.bool (sg))],[]⟩=some (.d (.sl ((x').map AD)),[]):=by
   intro hk;obtain⟨x1,q1,q2,q3⟩:=D x hx0 [(56,.d (.bool (true)))] (.inr (.inl rfl));unfold AR at *;have cases4:sm=false∨sm=true∧(s==0)=false∨sm=true∧(s==0)=true∧decide ((l.length:Int)≥3)=false∨sm=true∧(s==0)=true∧decide ((l.length:Int)≥3)=true∧decide ((l.length:Int)≤10)=false:=by
     revert hk;cases sm<;>cases(s==0)<;>cases decide ((l.length:Int)≥3)<;>cases decide ((l.length:Int)≤10)<;>simp
   cases al with
   | false=>
     refine⟨x,hx0,hx,?_⟩;rcases cases4 with rfl|⟨rfl,g1⟩|⟨rfl,g1,g2⟩|⟨rfl,g1,g2,g3⟩
     · simp(disch:=first|exact abt|fail) only[go_sem,Dv,EB,hp,Bz,Int.reduceBEq,aby]
     · simp(disch:=first|exact abt|fail) only[go_sem,Dv,EB,hp,Bz,g1,Int.reduceBEq,aby]
     · simp(disch:=first|exact abt|fail) only[go_sem,Dv,EB,hp,Bz,g1,g2,Int.reduceBEq,aby]
     · simp(disch:=first|exact abt|fail) only[go_sem,Dv,EB,hp,Bz,g1,g2,g3,Int.reduceBEq,aby]
   | true=>
     rcases ab2 (decide ((l.length:Int)≥2)) with d_a|d_a<;>have p_a:=d_a<;>simp only[ab4,ab3,acg,ab6,ne_eq] at p_a
     · refine⟨x1,q1,by omega,Eq.trans ?_ q3⟩
       rcases cases4 with rfl|⟨rfl,g1⟩|⟨rfl,g1,g2⟩|⟨rfl,g1,g2,g3⟩
       · simp(disch:=first|exact abt|fail) only[go_sem,Dv,EB,hp,Bz,d_a,Int.reduceBEq,aby]
       · simp(disch:=first|exact abt|fail) only[go_sem,Dv,EB,hp,Bz,g1,d_a,Int.reduceBEq,aby]
       · simp(disch:=first|exact abt|fail) only[go_sem,Dv,EB,hp,Bz,g1,g2,d_a,Int.reduceBEq,aby]
       · simp(disch:=first|exact abt|fail) only[go_sem,Dv,EB,hp,Bz,g1,g2,g3,d_a,Int.reduceBEq,aby]
     · refine⟨x,hx0,hx,?_⟩
       rcases cases4 with rfl|⟨rfl,g1⟩|⟨rfl,g1,g2⟩|⟨rfl,g1,g2,g3⟩
       · simp(disch:=first|exact abt|fail) only[go_sem,Dv,EB,hp,Bz,d_a,Int.reduceBEq,aby]
       · simp(disch:=first|exact abt|fail) only[go_sem,Dv,EB,hp,Bz,g1,d_a,Int.reduceBEq,aby]
       · simp(disch:=first|exact abt|fail) only[go_sem,Dv,EB,hp,Bz,g1,g2,d_a,Int.reduceBEq,aby]
       · simp(disch:=first|exact abt|fail) only[go_sem,Dv,EB,hp,Bz,g1,g2,g3,d_a,Int.reduceBEq,aby]
 cases hk:(sm&&(s==0)&&decide ((l.length:Int)≥3)&&decide ((l.length:Int)≤10))
 · exact last hk
 · simp only[aca] at hk
   obtain⟨⟨⟨rfl,g1⟩,g2⟩,g3⟩:=hk;have g2':=of_decide_eq_true g2;have g3':=of_decide_eq_true g3;obtain⟨y,hy0,hy,hsh⟩:=bdc (b:=b) abu (sg:=sg) (v:=v) (fun z hz=>by
     rw[acv] at hz;subst hz;exact h z (List.mem_of_getElem? hv)) (n:=l.length) abu abu
   rcases ab2 (decide ((y.length:Int)<x.length)) with d_a|d_a<;>have p_a:=d_a<;>simp only[ab4,ab3,acg,ab6,ne_eq] at p_a
   · obtain⟨x1,q1,q2,q3⟩:=D y hy0 [] (.inl rfl)
     refine⟨x1,q1,by omega,Eq.trans ?_ q3⟩
     unfold AR at *;simp(disch:=first|exact abt|fail) only[go_sem,Dv,EB,hp,Bz,g1,g2,g3,hv,hsh,d_a,Int.reduceBEq,aby]
   · obtain⟨x1,q1,q2,q3⟩:=D x hx0 [(13,.d (.sl ((y).map AD))),(77,.d (.bool (false)))] (.inr (.inr ⟨y,rfl⟩))
     refine⟨x1,q1,by omega,Eq.trans ?_ q3⟩
     unfold AR at *;simp(disch:=first|exact abt|fail) only[go_sem,Dv,EB,hp,Bz,g1,g2,g3,hv,hsh,d_a,Int.reduceBEq,aby]
