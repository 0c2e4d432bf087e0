import Derived.Test.YtkdiccgfbfbjlaaGreatCoS
import Derived.KernelRfl
import Derived.Test.YtkdiccgfbfbjlaaGreatPur
import Derived.Test.YtkdiccgfbfbjlaaGreatL10
set_option linter.unusedSectionVars false
namespace Go.Proofs.YtkdiccgfbfbjlaaGreat
open Go Go.Ev
variable [Sh]
set_option maxHeartbeats 4000000
set_option maxRecDepth 100000
theorem Sj:∃ t:List Int,t.length=4096∧(∀ v∈t,v= -1)∧evL cfg Qw 0 [] []=some (.own false 1 (t.map (D.int .i64)),[]):=by
 refine⟨List.replicate 4096 (-1),List.length_replicate,fun v hv=>(adr.1 hv).2,?_⟩
 rw[List.map_replicate];refine ak (n:=1) ?_;have hx:cfg.ext Qw=some SZ:=rfl;simp only[BU,hx,B6,Option.map_some,Option.bind_some,SZ]
theorem U4 {b:List UInt8} (hb:b.length≤70000) {t:List Int} (ht:t.length=4096) (hv:∀ v∈t,v= -1):∃ x:List UInt8,x≠[]∧x.length≤3*b.length+1∧evL cfg UW 0 [.own false 1 (t.map (D.int .i64)),.d (.sl ((b).map AD))] []=some (.own false 1 (x.map AD),[]):=by
 obtain⟨x,h1,h2,h3⟩:=bmb b hb b.length 0 0 [] t abu (ab5 _) (aco _) ht (fun v h=>by have:=hv v h;omega) abw
 refine⟨x,h1,h2,Eq.trans ?_ h3⟩;rw[show evL cfg UW 0 [.own false 1 (t.map (D.int .i64)),.d (.sl ((b).map AD))] []=go Eg [.c nL] ⟨[(0,.own false 1 (t.map (D.int .i64))),(1,.d (.sl ((b).map AD)))],[]⟩ from ab (fn:=jH) rfl rfl _ _ _ rfl rfl]
 simp(disch:=first|exact abt|fail) only[go_sem,Eg,nL,fiE,af,Int.natCast_zero]
theorem Xa {b:List UInt8} (hb:b.length≤70000):∃ x:List UInt8,x≠[]∧x.length≤3*b.length+1∧evL cfg Q8 0 [.d (.sl ((b).map AD))] []=some (.d (.sl ((x).map AD)),[]):=by
 obtain⟨t,t1,t2,ht⟩:=Sj;obtain⟨x,h1,h2,h3⟩:=U4 hb t1 t2;obtain⟨y,g1,g2,g3⟩:=a9g (x:=[]) (q:=b) (by simp;omega)
 rw[af] at g3;simp only[List.length_nil,Nat.zero_add] at g2;have d_a:decide ((b.length:Int)>1048576)=false:=by simp<;>omega
 rw[o_dy];rcases ab2 (decide ((y.length:Int)<x.length)) with d_c|d_c<;>have p_c:=d_c<;>simp only[ab4,ab3,acg,ab6,ne_eq] at p_c
 · refine⟨y,g1,by omega,?_⟩
   simp(disch:=first|exact abt|fail) only[go_sem,oC,Vn,ht,h3,g3,d_a,d_c,aby]
 · refine⟨x,h1,h2,?_⟩
   simp(disch:=first|exact abt|fail) only[go_sem,oC,Vn,ht,h3,g3,d_a,d_c,aby]
theorem vy (n:Nat) (c:Bool):∃ p q r:UInt8,evL cfg RK 0 [.d (.int .i64 ((n:Int))),.d (.bool (c))] []=some (.d (.sl [AD p,AD q,AD r]),[]):=by
 rw[o_d6];cases c with
 | true=>
  simp(disch:=first|exact abt|fail) only[go_sem,oG,Vs,d8,ax,wB]
  exact⟨_,_,_,rfl⟩
 | false=>
  simp(disch:=first|exact abt|fail) only[go_sem,oG,Vs,d8,ax,wB]
  exact⟨_,_,_,rfl⟩
abbrev cgE (b:List UInt8) (z:Int):List (Nat×V):=[(8,.ref 0 8 0),(31,.clo Hm [] [.d (.ptr (.sl (b.map AD))),.d (.ptr (.int .i64 z))])]
theorem aq7 (b:List UInt8) (z:Int) (K:List Kf):∀ (ps:List (List UInt8)) (x:List UInt8),(∀ p∈ps,1≤p.length∧p.length≤65536)→x.length+4*(ps.map List.length).sum≤600000000→
  ∃ x':List UInt8,goE (fx cfg 0 [.t 6,.t 7]) [32] arl ark (cgE b z) K (ps.map fun p=>[.sl (p.map AD)]) [(⟨0,8,0⟩,Bw x)]=go (fx cfg 0 [.t 6,.t 7]) K ⟨cgE b z,[(⟨0,8,0⟩,Bw x')]⟩
 | [],x,hp,hx=>⟨x,rfl⟩
 | p::ps,x,hp,hx=>by
  obtain⟨h1,h2⟩:=hp p abw;rw[List.map_cons,List.sum_cons] at hx;obtain⟨y,y1,y2,y3⟩:=Xa (b:=p) abu;rcases ab2 (decide ((y.length:Int)≥p.length)) with d_c|d_c<;>have p_c:=d_c<;>simp only[ab4,ab3,acg,ab6,ne_eq] at p_c
  · obtain⟨h0,h3,h4,hh⟩:=vy p.length true
    have Ai:x++[h0,h3,h4]++p≠[]:=by simp
    obtain⟨x',q⟩:=aq7 b z K ps (x++[h0,h3,h4]++p) (fun q hq=>hp q (by simp[hq])) (by simp;omega)
    refine⟨x',Eq.trans ?_ q⟩;rw[List.map_cons,ln];simp only[cgE,ac Ai,List.map_append,List.map_cons,List.map_nil];by_cases hz:x=[]
    · subst hz
      rw[af];simp(disch:=first|exact abt|fail) only[go_sem,Gf,y3,d_c,hh,List.map_nil,List.nil_append,aby]
    · rw[ac hz]
      simp(disch:=first|exact abt|fail) only[go_sem,Gf,y3,d_c,hh,aby]
  · obtain⟨h0,h3,h4,hh⟩:=vy y.length false
    have Ai:x++[h0,h3,h4]++y≠[]:=by simp
    obtain⟨x',q⟩:=aq7 b z K ps (x++[h0,h3,h4]++y) (fun q hq=>hp q (by simp[hq])) (by simp;omega)
    refine⟨x',Eq.trans ?_ q⟩;rw[List.map_cons,ln];simp only[cgE,ac Ai,List.map_append,List.map_cons,List.map_nil];by_cases hz:x=[]
    · subst hz
      rw[af];simp(disch:=first|exact abt|fail) only[go_sem,Gf,y3,d_c,hh,List.map_nil,List.nil_append,aby]
    · rw[ac hz]
      simp(disch:=first|exact abt|fail) only[go_sem,Gf,y3,d_c,hh,aby]
theorem ap8 {c:Int} (h:c=0∨c=4):evL cfg Xe 0 [.d (.int .i64 (c))] []=some (.d (.bool (true)),[]):=by
 rcases h with rfl|rfl
 · exact ak (n:=5) abv
 · exact ak (n:=5) abv
theorem bm7 {b:List UInt8} (hz:b≠[]) (hl:b.length≤100000000):evL cfg EH 0 [.d (.sl ((b).map AD))] []=some (.own false 1 (b.map AD),[]):=by
 have:=da b hl;cases b with
 |nil=>exact absurd rfl hz
 |cons x r=>exact this
theorem bm8 {b:List UInt8} (hb:b.length≤100000000) {c z:Int} (hc:c=0∨c=4) (z1:1≤z) (z2:z≤65536):∃ x:List UInt8,evL cfg Rg 0 [.d (.sl ((b).map AD)),.d (.int .i64 (c)),.d (.int .i64 (z))] []=some (.d (.tup [.sl (x.map AD),.int .i64 0]),[]):=by
 have hk:=ap8 hc;have d_a:decide (z<1)=false:=by simp<;>omega
 have d_d:decide (z>65536)=false:=by simp<;>omega
 rcases hc with rfl|rfl
 · refine⟨b,?_⟩
   rw[o_az];by_cases hz:b=[]
   · subst hz
     have hcl:=kp;simp(disch:=first|exact abt|fail) only[go_sem,Gf,SF,hk,d_a,d_d,hcl,Int.reduceBEq,List.map_nil]
   · have hcl:=bm7 hz abu
     simp(disch:=first|exact abt|fail) only[go_sem,Gf,SF,hk,d_a,d_d,hcl,Int.reduceBEq]
 · obtain⟨ps,h1,h2,h3⟩:=eb AD z.toNat abu b.length b (ab5 _)
   have hs:=rl (b.map AD) (n:=z) abu;have hit:=nn (es:=b.map AD) (n:=z) abu abu (p5 b) (by simp;omega)
   have hi:=zh;rw[aby,h1] at hit;obtain⟨x',q⟩:=aq7 b z [.b 1,.c (.seq am8 .ret)] ps [] (fun p hp=>⟨(h2 p hp).1,by have:=(h2 p hp).2.1;omega⟩) (by simp;omega)
   refine⟨x',?_⟩;simp only[cgE,af] at q;rw[o_az];simp(disch:=first|exact abt|fail) only[go_sem,Gf,SF,hk,d_a,d_d,hs,hit,hi,Int.reduceBEq]
   refine q.trans ?_;by_cases hz:x'=[]
   · subst hz
     simp(disch:=first|exact abt|fail) only[go_sem,Gf,af,List.map_nil]
   · rw[ac hz]
     simp(disch:=first|exact abt|fail) only[go_sem,Gf]
end Go.Proofs.YtkdiccgfbfbjlaaGreat
namespace Go.Proofs.YtkdiccgfbfbjlaaGreat
open Go Go.Ev
variable [Sh]
set_option maxHeartbeats 4000000
set_option maxRecDepth 100000
def Fb (l ws:List Tx):List Int:=l.map fun x=>(CS x ws:Int)
theorem V8 (v:Int):evL cfg G9 0 [.d (.int .i64 (v))] []=some (.d (.int .i64 (IntKind.i64.wrap (v-1420070400))),[]):=by
 rw[o_d9];simp(disch:=first|exact abt|fail) only[go_sem,X_d9,Yp]
abbrev eaE (f:FuncId) (l:List Int) (x:List Int) (i:Nat):List (Nat×V):=[(1,.d (.fn f)),(5,.own false 1 (x.map (D.int .i64))),(11,.d (AR l)),(12,.d (.int .i64 ((l.length:Int)))),(13,.d (.int .i64 ((i:Int))))]
theorem aq3 (f:FuncId) (g:Int→Int) (l:List Int) (hg:∀ v∈l,evL cfg f 0 [.d (.int .i64 (v))] []=some (.d (.int .i64 (g v)),[])) (hl:l.length≤100000):∀ (q:List Int) (i:Nat) (x:List Int),l.drop i=q→i≤l.length→x.length=l.length→(∀ v∈x,v=0∨∃ u∈l,v=g u)→(f=G9∨f=GZ)→
  ∃ x':List Int,x'.length=l.length∧(∀ v∈x',v=0∨∃ u∈l,v=g u)∧go WO [.c (.loop bn8),.b 0,.c (.seq bgq .ret)] ⟨eaE f l x i,[]⟩=some (.own false 1 (x'.map (D.int .i64)),[])
    ∧go WK [.c (.loop bny),.b 0,.c (.seq beg .ret)] ⟨eaE f l x i,[]⟩=some (.own false 1 (x'.map (D.int .i64)),[])
 | [],i,x,hq,hi,hx,hv,hf=>by
  have:=aq hq;have:i=l.length:=abu;subst this;have d_a:decide ((l.length:Int)<l.length)=false:=by simp<;>omega
  refine⟨x,hx,hv,?_,?_⟩
  · rw[go_loop]
    simp(disch:=first|exact abt|fail) only[go_sem,WO,eaE,AR,d_a]
  · rw[go_loop]
    simp(disch:=first|exact abt|fail) only[go_sem,WK,eaE,AR,d_a]
 | v::q,i,x,hq,hi,hx,hv,hf=>by
  obtain⟨h1,h2,h3⟩:=ba hq;have d_a:decide ((i:Int)<l.length)=true:=by simp<;>omega
  have hm:=List.mem_of_getElem? h2;have hc:=hg v hm;have hxi:i<x.length:=abu;obtain⟨y,hy⟩:∃ y,x[i]? =some y:=⟨_,ab0 hxi⟩
  obtain⟨x',q1,q2,q3,q4⟩:=aq3 f g l hg hl q (i+1) (x.set i (g v)) h3 h1 (by rw[List.length_set];exact hx) (fun z hz=>by
    rcases adh hz with hz|rfl
    · exact hv z hz
    · exact .inr ⟨v,hm,rfl⟩) hf
  refine⟨x',q1,q2,Eq.trans ?_ q3,Eq.trans ?_ q4⟩
  · rw[go_loop]
    rcases hf with rfl|rfl<;>simp(disch:=first|exact abt|fail) only[go_sem,WO,eaE,AR,d_a,h2,hc,hy,Qt,u9,aby,Int.natCast_add]
  · rw[go_loop]
    rcases hf with rfl|rfl<;>simp(disch:=first|exact abt|fail) only[go_sem,WK,eaE,AR,d_a,h2,hc,hy,Qt,u9,aby,Int.natCast_add]
theorem bb9 {l:List Int} (hl:l.length≤100000):∃ x:List Int,x.length=l.length∧DI true x∧evL cfg Re 0 [.d (AR l),.d (.fn G9)] []=some (.own false 1 (x.map (D.int .i64)),[]):=by
 obtain⟨x,h1,h2,h3,_⟩:=aq3 G9 (fun v=>IntKind.i64.wrap (v-1420070400)) l (fun v _=>V8 v) hl l 0 (List.replicate l.length 0) rfl (aco _) abw abw (.inl rfl)
 have e0:(List.replicate l.length 0).map (D.int .i64)=List.replicate l.length (.int .i64 0):=by rw[List.map_replicate]
 refine⟨x,h1,fun v hv=>⟨?_,fun h=>by cases h⟩,Eq.trans ?_ h3⟩
 · rcases h2 v hv with rfl|⟨u,_,rfl⟩
   · unfold inI;omega
   · exact a9p _
 · rw[o_b9]
   simp(disch:=first|exact abt|fail) only[go_sem,WO,Y4,eaE,e0,AR,Int.natCast_zero,aby]
theorem bly (l:List Bool) (hl:l.length≤100000):∀ (q:List Bool) (i:Nat),l.drop i=q→i≤l.length→
  ∃ j:Int,(q.all id=true→j= -1)∧(q.all id=false→0≤j)∧go SP [.c (.loop bn9),.b 0,.c (.seq bhh .ret)] ⟨[(0,.d (cf l)),(1,.d (.bool (false))),(7,.d (.int .i64 ((l.length:Int)))),(8,.d (.int .i64 ((i:Int))))],[]⟩=some (.d (.int .i64 (j)),[])
 | [],i,hq,hi=>by
  have:=aq hq;have:i=l.length:=abu;subst this;have d_a:decide ((l.length:Int)<l.length)=false:=by simp<;>omega
  refine⟨-1,fun _=>rfl,fun h=>by simp at h,?_⟩
  rw[go_loop];simp(disch:=first|exact abt|fail) only[go_sem,SP,cf,d_a]
 | v::q,i,hq,hi=>by
  obtain⟨h1,h2,h3⟩:=ba hq;have d_a:decide ((i:Int)<l.length)=true:=by simp<;>omega
  cases v with
  | false=>
   refine⟨(i:Int),fun h=>by simp at h,fun _=>by omega,?_⟩
   rw[go_loop];simp(disch:=first|exact abt|fail) only[go_sem,SP,cf,d_a,h2]
  | true=>
   obtain⟨j,g1,g2,g3⟩:=bly l hl q (i+1) h3 h1;refine⟨j,fun h=>g1 (by simpa using h),fun h=>g2 (by simpa using h),Eq.trans ?_ g3⟩
   rw[go_loop];simp(disch:=first|exact abt|fail) only[go_sem,SP,cf,d_a,h2,Int.natCast_add]
theorem Xu (c:Col) (hl:c.here.length≤100000):evL cfg Q3 0 [.d c.d] []=some (.d (.bool (!c.here.all id)),[]):=by
 obtain⟨j,g1,g2,g3⟩:=bly c.here hl c.here 0 rfl (aco _);have hi:evL cfg Rk 0 [.d (cf c.here),.d (.bool (false))] []=some (.d (.int .i64 (j)),[]):=by
  rw[o_aw,← g3];simp(disch:=first|exact abt|fail) only[go_sem,SP,Y7,cf,Int.natCast_zero,aby]
 have hc:evL cfg RN 0 [.d (cf c.here),.d (.bool (false))] []=some (.d (.bool (!c.here.all id)),[]):=by
  rw[o_cx];cases e:c.here.all id with
  | true=>
   have:=g1 e;subst this;simp(disch:=first|exact abt|fail) only[go_sem,oH,Vt,hi,Int.reduceGE,decide_false,ge_iff_le,Int.reduceLE,Int.reduceNeg]
  | false=>
   have:=g2 e;have d_f:decide (j≥0)=true:=by simp<;>omega
   simp(disch:=first|exact abt|fail) only[go_sem,oH,Vt,hi,d_f]
 rw[o_f6];unfold Col.d;unfold cf at hc;simp(disch:=first|exact abt|fail) only[go_sem,X_f6,YX,hc]
theorem bV (c:Col):evL cfg Pm 0 [.d c.d] []=some (.d c.d,[]):=by
 rw[o_eh];unfold Col.d;simp(disch:=first|exact abt|fail) only[go_sem,X_eh,Ya]
def E3 (co ch ve sh ro st:Int):D:= .agg [.int .i64 co,.int .i64 ch,.int .i64 ve,.int .i64 sh,.int .i64 ro,.int .i64 st]
