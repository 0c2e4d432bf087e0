import Derived.Test.YtkdiccgfbfbjlaaGreatCoU
set_option linter.unusedSectionVars false
namespace Go.Proofs.YtkdiccgfbfbjlaaGreat
open Go Go.Ev
variable [Sh]
set_option maxHeartbeats 4000000
set_option maxRecDepth 100000
abbrev naT:AA:= .cond (.t 20) (.seq amp .ret) (.seq (.seq amo (.block 2 (.loop aac))) (.seq x9 .ret))
theorem UQ:∀ (k:Nat) (v z:Int),v≤1000000000→0<v→0≤z→z≤8→8-z≤k→∀ (n:Int),∃ z':Int,0≤z'∧z'≤8∧go F6 [.c (.loop bn6),.b 0,.c (.seq bfo naT)] ⟨[(0,.d (.int .i64 (n))),(3,.d (.int .i64 (z))),(4,.d (.int .i64 (v)))],[]⟩=go F6 [.c naT] ⟨[(0,.d (.int .i64 (n))),(3,.d (.int .i64 (z'))),(20,.d (.bool (decide (z'<2))))],[]⟩
 | k,v,z,h1,h2,h3,h4,hk,n=>by
  have h10:=Int.tmod_add_mul_tdiv v 10;cases a:(v.tmod 10==0) with
  | true=>
   have h5:v.tmod 10=0:=by simpa using a
   rcases ab2 (decide (z<8)) with d_b|d_b<;>have p_b:=d_b<;>simp only[ab4,ab3,acg,ab6,ne_eq] at p_b
   · match k,hk with
     |0,hk=>omega
     | k+1,hk=>
      obtain⟨z',g1,g2,g3⟩:=UQ k (v.tdiv 10) (z+1) abu abu abu abu abu n;refine⟨z',g1,g2,Eq.trans ?_ g3⟩;have w1:=bd (n:=z+1) abu abu;have w2:=bd (n:=v.tdiv 10) abu abu;rw[go_loop];simp(disch:=first|exact abt|fail) only[go_sem,F6,i6,p6,a,d_b,w1,w2]
   · refine⟨z,h3,h4,?_⟩
     rw[go_loop];simp(disch:=first|exact abt|fail) only[go_sem,F6,i6,a,d_b]
  | false=>
   refine⟨z,h3,h4,?_⟩;rw[go_loop];simp(disch:=first|exact abt|fail) only[go_sem,F6,i6,a]
theorem UP:∀ (k:Nat) (n z i:Int),0≤n→n≤1000000000→0≤i→z-i≤k→2≤z→z≤8→∃ n':Int,0≤n'∧n'≤1000000000∧go F6 [.c (.loop aac),.b 2,.c (.seq x9 .ret)] ⟨[(0,.d (.int .i64 (n))),(3,.d (.int .i64 (z))),(24,.d (.int .i64 (z))),(25,.d (.int .i64 (i)))],[]⟩=some (.d (.int .u64 (orI .u64 (Ez .u64 n' 3) (z-1))),[])
 | k,n,z,i,h1,h2,h3,hk,hz2,h8=>by
  rcases ab2 (decide (i<z)) with d_a|d_a<;>have p_a:=d_a<;>simp only[ab4,ab3,acg,ab6,ne_eq] at p_a
  · match k,hk with
    |0,hk=>omega
    | k+1,hk=>
     have h10:=Int.tmod_add_mul_tdiv n 10;have hm:0≤n.tmod 10:=Int.tmod_nonneg _ h1;have hd:0≤n.tdiv 10:=Int.tdiv_nonneg h1 abx;obtain⟨n',g1,g2,g3⟩:=UP k (n.tdiv 10) z (i+1) hd abu abu abu hz2 h8;refine⟨n',g1,g2,Eq.trans ?_ g3⟩;have w1:=bd (n:=i+1) abu abu;have w2:=bd (n:=n.tdiv 10) abu abu;rw[go_loop];simp(disch:=first|exact abt|fail) only[go_sem,F6,p6,d_a,w1,w2]
  · refine⟨n,h1,h2,?_⟩
    rw[go_loop];have w1:=bd (n:=z-1) abu abu;have w2:=dr (n:=z-1) abu abu;have w3:=dr (n:=n) abu abu;simp(disch:=first|exact abt|fail) only[go_sem,F6,d8,d_a,w1,w2,w3]
theorem cD {n:Int} (h0:0≤n) (h1:n≤1000000000):Ez .u64 n 3=((n.toNat*8:Nat):Int):=by
 unfold Ez;rw[show(2:Int) ^ (min (3:Int).toNat IntKind.u64.bits)=8 from rfl,dr abu abu]
 omega
theorem UB {n z:Int} (h0:0≤n) (h1:n≤1000000000) (h2:2≤z) (h3:z≤8):0≤orI .u64 (Ez .u64 n 3) (z-1)∧orI .u64 (Ez .u64 n 3) (z-1)<17179869184:=by
 obtain⟨a,ha⟩:∃ a:Nat,z-1=(a:Int):=⟨(z-1).toNat,by omega⟩
 rw[cD h0 h1,ha,orU (k:= .u64) rfl (by show _<18446744073709551616;omega) (by show _<18446744073709551616;omega)]
 have:(n.toNat*8) ||| a<2 ^ 34:=Nat.or_lt_two_pow abu abu;omega
theorem UO {n:Int} (h0:0≤n) (h1:n≤1000000000):∃ k:Int,0≤k∧inI k∧evL cfg GZ 0 [.d (.int .i64 (n))] []=some (.d (.int .i64 (k)),[]):=by
 have key:∃ k:Int,0≤k∧k<17179869184∧evL cfg Ra 0 [.d (.int .i64 (n))] []=some (.d (.int .u64 k),[]):=by
  rw[o_bo];rcases ab2 (decide (n≤0)) with d_a|d_a<;>have p_a:=d_a<;>simp only[ab4,ab3,acg,ab6,ne_eq] at p_a
  · exact⟨0,by omega,by omega,by simp(disch:=first|exact abt|fail) only[go_sem,F6,SA,d_a]⟩
  · obtain⟨z,g1,g2,g3⟩:=UQ 8 n 0 h1 abu abu abu abu n
    rcases ab2 (decide (z<2)) with d_b|d_b<;>have p_b:=d_b<;>simp only[ab4,ab3,acg,ab6,ne_eq] at p_b
    · refine⟨Ez .u64 n 3,by rw[cD h0 h1];omega,by rw[cD h0 h1];omega,?_⟩
      have w3:=dr (n:=n) abu abu;rw[d_b] at g3;simp(disch:=first|exact abt|fail) only[go_sem,F6,SA,d_a,g3,d8,w3]
    · obtain⟨n',k1,k2,k3⟩:=UP 8 n z 0 h0 h1 abu abu abu g2
      have:=UB k1 k2 (z:=z) abu g2;refine⟨orI .u64 (Ez .u64 n' 3) (z-1),this.1,this.2,?_⟩;rw[d_b] at g3;simp(disch:=first|exact abt|fail) only[go_sem,F6,SA,d_a,g3,k3]
 obtain⟨k,k1,k2,k3⟩:=key;have w1:=bd (n:=k) abu abu;refine⟨k,k1,by unfold inI;omega,?_⟩
 rw[o_d7];simp(disch:=first|exact abt|fail) only[go_sem,X_d7,Yr,k3,w1]
theorem bmv {l:List Int} (hl:l.length≤100000) (hn:∀ v∈l,0≤v∧v≤999999999):∃ x:List Int,x.length=l.length∧DI false x∧evL cfg RQ 0 [.d (AR l),.d (.fn GZ)] []=some (.own false 1 (x.map (D.int .i64)),[]):=by
 have hc:∀ n:Int,∃ k:Int,0≤n∧n≤1000000000→0≤k∧inI k∧evL cfg GZ 0 [.d (.int .i64 (n))] []=some (.d (.int .i64 (k)),[]):=fun n=>by
   by_cases h:0≤n∧n≤1000000000
   · obtain⟨k,hk⟩:=UO h.1 h.2
     exact⟨k,fun _=>hk⟩
   · exact⟨0,fun h'=>absurd h' h⟩
 obtain⟨G,hG⟩:=Classical.axiomOfChoice hc;obtain⟨x,h1,h2,_,h3⟩:=aq3 GZ (fun v=>G v) l (fun v hv=>by
   obtain⟨a,b⟩:=hn v hv;exact(hG v ⟨a,by omega⟩).2.2) hl l 0 (List.replicate l.length 0) rfl (aco _) abw abw (.inr rfl)
 have e0:(List.replicate l.length 0).map (D.int .i64)=List.replicate l.length (.int .i64 0):=by rw[List.map_replicate]
 refine⟨x,h1,fun v hv=> ?_,Eq.trans ?_ h3⟩
 · rcases h2 v hv with rfl|⟨u,hu,rfl⟩
   · exact⟨by unfold inI;omega,fun _=>by omega⟩
   · obtain⟨a,b⟩:=hn u hu
     have:=hG u ⟨a,by omega⟩
     exact⟨this.2.1,fun _=>this.1⟩
 · rw[o_ct]
   simp(disch:=first|exact abt|fail) only[go_sem,WK,Yu,eaE,e0,AR,Int.natCast_zero,aby]
abbrev byE (l:List Int) (x:List UInt8) (i:Nat):List (Nat×V):=[(3,.own false 1 (x.map AD)),(9,.d (AR l)),(10,.d (.int .i64 ((l.length:Int)))),(11,.d (.int .i64 ((i:Int))))]
theorem bnn (l:List Int) (hl:l.length≤100000):∀ (q:List Int) (i:Nat) (x:List UInt8),l.drop i=q→i≤l.length→x.length=l.length→
  ∃ x':List UInt8,x'.length=l.length∧go WJ [.c (.loop bnw),.b 0,.c (.seq bd0 .ret)] ⟨byE l x i,[]⟩=some (.own false 1 (x'.map AD),[])
 | [],i,x,hq,hi,hx=>by
  have:=aq hq;have:i=l.length:=abu;subst this;have d_a:decide ((l.length:Int)<l.length)=false:=by simp<;>omega
  refine⟨x,hx,?_⟩;rw[go_loop];simp(disch:=first|exact abt|fail) only[go_sem,WJ,byE,AR,d_a]
 | v::q,i,x,hq,hi,hx=>by
  obtain⟨h1,h2,h3⟩:=ba hq;have d_a:decide ((i:Int)<l.length)=true:=by simp<;>omega
  have hxi:i<x.length:=abu;obtain⟨y,hy⟩:∃ y,x[i]? =some y:=⟨_,ab0 hxi⟩
  obtain⟨c,hc⟩:∃ c:UInt8,D.int .u8 (IntKind.u8.wrap v)=AD c:=⟨_,wB v⟩
  obtain⟨x',q1,q2⟩:=bnn l hl q (i+1) (x.set i c) h3 h1 (by rw[List.length_set];exact hx)
  refine⟨x',q1,Eq.trans ?_ q2⟩;have hs:(x.map AD).set i (AD c)=(x.set i c).map AD:=by rw[List.map_set]
  have Bz:(AD y).setAt 0 [AD c]=some (AD c):=rfl;rw[go_loop];simp(disch:=first|exact abt|fail) only[go_sem,WJ,byE,AR,d_a,h2,hc,hy,hs,Bz,aby,Int.natCast_add]
theorem alc {l:List Int} (hl:l.length≤100000):∃ x:List UInt8,x.length=l.length∧evL cfg RH 0 [.d (AR l)] []=some (.own false 1 (x.map AD),[]):=by
 obtain⟨x,h1,h2⟩:=bnn l hl l 0 (List.replicate l.length 0) rfl (aco _) abw;have e0:(List.replicate l.length (0:UInt8)).map AD=List.replicate l.length (.int .u8 0):=by rw[List.map_replicate];rfl
 refine⟨x,h1,Eq.trans ?_ h2⟩;rw[o_db];simp(disch:=first|exact abt|fail) only[go_sem,WJ,Yo,byE,e0,AR,Int.natCast_zero,aby]
def dv (x:List UInt8):V:=match x with
 | []=> .d .AL
 |c::r=> .d (.sl (((c::r)).map AD))
theorem bmw:dv []= .d .AL:=rfl
theorem Qh {x:List UInt8} (h:x≠[]):dv x= .d (.sl ((x).map AD)):=by
 cases x with
 |nil=>exact absurd rfl h
 |cons c r=>rfl
abbrev dcE (l:List Int) (x:List UInt8) (i:Nat):List (Nat×V):=[(3,dv x),(6,.d (AR l)),(7,.d (.int .i64 ((l.length:Int)))),(8,.d (.int .i64 ((i:Int))))]
theorem bmy (l:List Int) (hl:l.length≤20000) (hf:∀ v∈l,inI v):∀ (q:List Int) (i:Nat) (x:List UInt8),l.drop i=q→i≤l.length→x.length≤10*i→
  ∃ x':List UInt8,x'.length≤10*l.length∧go QK [.c (.loop bn3),.b 0,.c (.seq be0 .ret)] ⟨dcE l x i,[]⟩=some (dv x',[])
 | [],i,x,hq,hi,hx=>by
  have:=aq hq;have:i=l.length:=abu;subst this;have d_a:decide ((l.length:Int)<l.length)=false:=by simp<;>omega
  refine⟨x,hx,?_⟩;rw[go_loop];by_cases hz:x=[]
  · subst hz
    simp(disch:=first|exact abt|fail) only[go_sem,QK,dcE,AR,d_a,bmw,List.map_nil]
  · simp(disch:=first|exact abt|fail) only[go_sem,QK,dcE,AR,d_a,Qh hz]
 | v::q,i,x,hq,hi,hx=>by
  obtain⟨h1,h2,h3⟩:=ba hq;have d_a:decide ((i:Int)<l.length)=true:=by simp<;>omega
  have hv:=hf v (List.mem_of_getElem? h2);have hzg:=gw hv;have hzl:Ft v<18446744073709551616:=ary hv;have hp:=j4 (b:=x) abu hzl;have hvl:=xa 10 (Ft v);have hvn:Dd 10 (Ft v)≠[]:=bcj _;have Ai:x++Dd 10 (Ft v)≠[]:=by simp[hvn]
  obtain⟨x',q1,q2⟩:=bmy l hl hf q (i+1) (x++Dd 10 (Ft v)) h3 h1 (by rw[aci];omega)
  refine⟨x',q1,Eq.trans ?_ q2⟩;rw[go_loop];by_cases hz:x=[]
  · subst hz
    rw[List.map_nil] at hp;simp(disch:=first|exact abt|fail) only[go_sem,QK,dcE,AR,d_a,h2,hzg,hp,bmw,Qh hvn,List.nil_append,aby,Int.natCast_add]
  · simp(disch:=first|exact abt|fail) only[go_sem,QK,dcE,AR,d_a,h2,hzg,hp,Qh hz,Qh Ai,aby,Int.natCast_add]
theorem VQ {l:List Int} (hl:l.length≤20000) (hf:∀ v∈l,inI v):∃ x:List UInt8,x.length≤10*l.length∧evL cfg RX 0 [.d (AR l)] []=some (dv x,[]):=by
 obtain⟨x,h1,h2⟩:=bmy l hl hf l 0 [] rfl (aco _) abw;refine⟨x,h1,Eq.trans ?_ h2⟩;rw[o_c7];simp(disch:=first|exact abt|fail) only[go_sem,QK,Yz,dcE,bmw,AR,Int.natCast_zero,aby]
end Go.Proofs.YtkdiccgfbfbjlaaGreat
namespace Go.Proofs.YtkdiccgfbfbjlaaGreat
open Go Go.Ev
variable [Sh]
set_option maxHeartbeats 4000000
set_option maxRecDepth 100000
abbrev rpD (v:Int) (N n:Nat):List D:=List.replicate n (.int .i64 v)++List.replicate (N-n) (.int .i64 0)
theorem bdg (v:Int) (N:Nat) (hN:N≤20000):∀ (k n:Nat),N-n≤k→1≤n→n≤N→
  go WQ [.c (.loop arr),.b 0,.c (.seq an8 .ret)] ⟨[(7,.own false 1 (rpD v N n)),(8,.d (.int .i64 ((n:Int))))],[]⟩=some (.own false 1 (List.replicate N (.int .i64 v)),[])
 | k,n,hk,h1,h2=>by
  have hl:(rpD v N n).length=N:=by simp;omega
  have ht:List.take n (rpD v N n)=List.replicate n (.int .i64 v):=by simp
  rcases ab2 (decide ((n:Int)<(N:Int))) with d_a|d_a<;>have p_a:=d_a<;>simp only[ab4,ab3,acg,ab6,ne_eq] at p_a
  · match k,hk with
    |0,hk=>omega
    | k+1,hk=>
     obtain⟨m,hm⟩:∃ m,min (N-n) n=m:=⟨_,rfl⟩
     have h2':List.take n (rpD v N n)++List.take (N-n) (List.replicate n (D.int .i64 v))++List.drop (n+min (N-n) n) (rpD v N n)=rpD v N (n+m):=by
      rw[ht,hm,List.take_replicate,hm,rpD,List.drop_append,List.length_replicate,List.drop_eq_nil_of_le abw,List.nil_append,List.drop_replicate,List.replicate_append_replicate,rpD]
      congr 2
      omega
     have hcp:=zu (some 45) 1 (.slot 7) n (N-n) (List.replicate n (.int .i64 v)) (rpD v N n) (by rw[hl];omega)
     rw[List.length_replicate,h2',hm] at hcp;have hz:B5 1 (List.replicate n (D.int .i64 v))=true:=by
      have:=FO (z:=1) (f:=fun _:Nat=>D.int .i64 v) (fun _=>rfl) (List.range n)
      rwa [List.map_const',List.length_range] at this
     have ih:=bdg v N hN k (n+m) abu abu abu;have w1:IntKind.i64.wrap ((n:Int)+(m:Int))=(n:Int)+(m:Int):=bd abu abu;refine Eq.trans ?_ ih;generalize rpD v N (n+m)=ys at hcp ⊢;generalize rpD v N n=xs at hl ht hcp ⊢;rw[go_loop];simp(disch:=first|exact abt|fail) only[go_sem,WQ,hl,ht,hz,hcp,d_a,w1,Int.natCast_add]
  · have e:n=N:=abu
    subst e;have e0:rpD v n n=List.replicate n (.int .i64 v):=by simp
    rw[e0] at hl ⊢;have A6:(List.replicate n (D.int .i64 v)).length=n:=by simp
    generalize List.replicate n (D.int .i64 v)=xs at A6 ⊢;rw[go_loop];simp(disch:=first|exact abt|fail) only[go_sem,WQ,A6,d_a]
theorem o7 (n:Nat) (h:n≤100000):QH .u64 (n:Int) 4294967295=(n:Int):=by
 have:=andU (k:= .u64) rfl (a:=n) (b:=4294967295) (by show _<18446744073709551616;omega)
 rw[show((4294967295:Nat):Int)=4294967295 from rfl] at this
 rw[this,show(4294967295:Nat)=2 ^ 32-1 from rfl,Nat.and_two_pow_sub_one_eq_mod,ads abu]
theorem rk (n:Nat) (h:n≤100000):FA .u64 (n:Int) 32=0:=by
 have:=IV .u64 n (n:=32) abx;rw[show((32:Nat):Int)=32 from rfl] at this
 rw[this];omega
theorem blg (n:Nat) (h:n≤100000):evL cfg RM 0 [.d (.int .u64 (1)),.d (.int .u64 ((n:Int)))] []=some (.d (.tup [.int .u64 0,.int .u64 (n:Int)]),[]):=by
 have m1:QH .u64 1 4294967295=1:=o7 1 abu;have m0:QH .u64 0 4294967295=0:=o7 0 abu;have mn:=o7 n h;have s1:FA .u64 1 32=0:=rk 1 abu;have s0:FA .u64 0 32=0:=rk 0 abu;have sn:=rk n h;have w1:IntKind.u64.wrap (n:Int)=(n:Int):=dr abu abu;have w0:IntKind.u64.wrap 0=0:=rfl;rw[o_cy];simp(disch:=first|exact abt|fail) only[go_sem,X_cy,Yt,ax,m1,m0,mn,s1,s0,sn,w1,w0,Int.one_mul,Int.zero_mul,Int.mul_zero,Int.add_zero,Int.zero_add]
theorem mul_one (n:Nat) (h:n≤100000):evL cfg Q1 0 [.d (.int .u64 (1)),.d (.int .u64 ((n:Int)))] []=some (.d (.tup [.int .u64 0,.int .u64 (n:Int)]),[]):=by
 have hm:=blg n h;rw[o_fm];simp(disch:=first|exact abt|fail) only[go_sem,X_fm,YW,hm]
theorem ba2 (v:Int) (N:Nat) (hN:N≤20000):evL cfg Rp 0 [.d (.sl [.int .i64 v]),.d (.int .i64 ((N:Int)))] []=some (.own false 1 (List.replicate N (D.int .i64 v)),[]):=by
 have hm:=mul_one N abu;have w1:IntKind.u64.wrap (N:Int)=(N:Int):=dr abu abu;have w2:IntKind.i64.wrap (N:Int)=(N:Int):=bd abu abu;have d_a:decide ((N:Int)<0)=false:=by simp<;>omega
 have d_b:decide ((N:Int)>9223372036854775807)=false:=by simp<;>omega
 by_cases hz:N=0
 · subst hz
   exact ak (n:=30) abv
 · rw[o_aj]
   have q:=bdg v N hN N 1 abu abu abu;have hcp:VS (some 33) 1 (.slot 7) 0 N [.int .i64 v] (some (.own false 1 (List.replicate N (.int .i64 0))))=some ((.slot 7,.own false 1 (rpD v N 1))::AG (some 33) (.d (.int .i64 (1)))):=by
    rw[zu _ _ _ _ _ _ _ abw];obtain⟨m,rfl⟩:∃ m,N=m+1:=⟨N-1,by omega⟩
    simp[rpD,List.replicate_succ]
   rw[show((1:Nat):Int)=1 from rfl] at q
   generalize rpD v N 1=xs at q hcp;have q0:decide ((0:Int)>0)=false:=rfl;simp(disch:=first|exact abt|fail) only[go_sem,WQ,ZB,hm,w1,w2,d_a,d_b,q0,hcp,q,List.length_cons,List.length_nil,List.length_replicate]
   done
