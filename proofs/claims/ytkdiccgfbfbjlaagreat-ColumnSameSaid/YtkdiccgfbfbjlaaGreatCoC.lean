import Derived.Test.YtkdiccgfbfbjlaaGreatCode
import Derived.Test.YtkdiccgfbfbjlaaGreatL8
import Derived.KernelRfl
set_option linter.unusedSectionVars false
namespace Go.Proofs.YtkdiccgfbfbjlaaGreat
open Go Go.Ev
variable [Sh]
set_option maxHeartbeats 2000000
set_option maxRecDepth 100000
theorem gw {v:Int} (h:inI v):evL cfg G4 0 [.d (.int .i64 (v))] []=some (.d (.int .u64 ((Ft v:Int))),[]):=by
 rw[o_fz];simp(disch:=first|exact abt|fail) only[go_sem,X_fz,YU,d8,ax,SX h]
theorem da (b:List UInt8) (hl:b.length≤100000000):evL cfg EH 0 [.d (.sl ((b).map AD))] []=some ((if b.isEmpty then .d .AL else .own false 1 (b.map AD)),[]):=by
 cases b with
 |nil=>exact ak (n:=3) abv
 | cons c b=>
  rw[o_b8];rw[List.length_cons] at hl;simp(disch:=first|exact abt|fail) only[go_sem,X_b8,Y5,List.isEmpty]
theorem ee:∀ (k u:Nat) (es:List UInt8),u<128 ^ (k+1)→u<18446744073709551616→es.length+k+1≤10000000→
  go IJ [.c (.loop bn0),.b 0,.c (.seq bet .ret)] ⟨[(1,.d (.int .u64 ((u:Int)))),(5,.own false 1 (es.map AD))],[]⟩=some (.own false 1 ((es++Dd (k+1) u).map AD),[])
 | k,u,es,h,h',hl=>by
  by_cases c:u<128
  · have d_a:decide ((u:Int)≥128)=false:=by simp<;>omega
    have e:Dd (k+1) u=[UInt8.ofNat u]:=by simp[Dd,c]
    have e1:=gz (n:=u) abu;have e2:u % 256=u:=abu;rw[go_loop,e];simp(disch:=first|exact abt|fail) only[go_sem,IJ,d_a,H8,List.map_append,e1,e2]
  · have d_a:decide ((u:Int)≥128)=true:=by simp<;>omega
    cases k with
    |zero=>simp at h;omega
    | succ k=>
     have e:Dd (k+1+1) u=UInt8.ofNat (u % 128+128)::Dd (k+1) (u / 128):=by rw[Dd,if_neg c]
     have e1:=gz (n:=u % 128+128) abu;have ih:=ee k (u / 128) (es++[UInt8.ofNat (u % 128+128)]) (by rw[Nat.pow_succ] at h;omega) abu (by simp;omega)
     rw[List.map_append,List.map_cons,List.map_nil,e1,ac4,List.singleton_append,← e] at ih;rw[go_loop];simp(disch:=first|exact abt|fail) only[go_sem,IJ,d_a,H8,ax,abf,bk2]
     exact ih
theorem j4 {b:List UInt8} {u:Nat} (hb:b.length≤1000000) (hu:u<18446744073709551616):evL cfg GG 0 [.d (.sl ((b).map AD)),.d (.int .u64 ((u:Int)))] []=some (.own false 1 ((b++Dd 10 u).map AD),[]):=by
 rw[o_c9];have hc:=da b abu;cases b with
 | cons x b=>
  have hl:=ee 9 u (x::b) abu hu (by simp at hb ⊢;omega)
  simp only[List.isEmpty_cons,acb,if_false] at hc;rw[List.map_cons] at hc hl ⊢;simp(disch:=first|exact abt|fail) only[go_sem,IJ,R9,hc,hl]
 | nil=>
  simp only[List.isEmpty_nil,if_true] at hc;rw[List.map_nil] at hc;by_cases c:u<128
  · have d_a:decide ((u:Int)≥128)=false:=by simp<;>omega
    have e:Dd 10 u=[UInt8.ofNat u]:=by simp[Dd,c]
    have e1:=gz (n:=u) abu;have e2:u % 256=u:=abu;simp(disch:=first|exact abt|fail) only[go_sem,IJ,R9,hc,go_loop,d_a,H8,e,e1,e2]
  · have d_a:decide ((u:Int)≥128)=true:=by simp<;>omega
    have e:Dd 10 u=UInt8.ofNat (u % 128+128)::Dd 9 (u / 128):=by rw[Dd,if_neg c]
    have e1:=gz (n:=u % 128+128) abu;have ih:=ee 8 (u / 128) [UInt8.ofNat (u % 128+128)] abu abu abw;rw[List.map_cons,List.map_nil,e1,List.singleton_append,← e] at ih;simp(disch:=first|exact abt|fail) only[go_sem,IJ,R9,hc]
    rw[go_loop];simp(disch:=first|exact abt|fail) only[go_sem,IJ,d_a,H8,ax,abf,bk2]
    exact ih
def AR (l:List Int):D:= .sl (l.map (D.int .i64))
def Ew (l:List Nat):D:= .sl (l.map fun u:Nat=>D.int .u64 (u:Int))
theorem a9p (x:Int):inI (IntKind.i64.wrap x):=by
 unfold inI;simp[IntKind.wrap,IntKind.signed,IntKind.bits,BitVec.toInt_ofInt,Int.bmod_def];omega
theorem ql (x:Int):∃ n:Nat,n<18446744073709551616∧IntKind.u64.wrap x=(n:Int):=by
 refine⟨(IntKind.u64.wrap x).toNat,?_,?_⟩<;>simp[IntKind.wrap,IntKind.signed,IntKind.bits]<;>omega
theorem Sg (x:Int):0≤IntKind.u8.wrap x∧IntKind.u8.wrap x<256:=by
 simp[IntKind.wrap,IntKind.signed,IntKind.bits]<;>omega
def wU (x:Int):UInt8:=UInt8.ofNat (IntKind.u8.wrap x).toNat
theorem wB (x:Int):D.int .u8 (IntKind.u8.wrap x)=AD (wU x):=by
 obtain⟨h1,h2⟩:=Sg x;unfold wU;rw[gz abu]
 congr 1
 omega
def oU (a b:Int):UInt8:=wU (BitVec.ofInt 8 a ||| BitVec.ofInt 8 b).toNat
theorem oB (a b:Int):D.int .u8 (orI .u8 a b)=AD (oU a b):=wB _
theorem d7 {a b:Int} (ha:inI a) (hb:inI b):∃ s ok,inI s∧evL cfg GX 0 [.d (.int .i64 (a)),.d (.int .i64 (b))] []=some (.d (.tup [.int .i64 s,.bool ok]),[]):=by
 rw[o_ef];have hs:=a9p (a-b);have z:inI 0:=by unfold inI;omega
 generalize hq:IntKind.i64.wrap (a-b)=q at hs;cases h1:(decide (q<a)==decide (b>0))
 · cases h2:(b !=0)
   · refine⟨q,true,hs,?_⟩
     simp(disch:=first|exact abt|fail) only[go_sem,ZO,R5,hq,h1,h2]
   · refine⟨0,false,z,?_⟩
     simp(disch:=first|exact abt|fail) only[go_sem,ZO,R5,hq,h1,h2]
 · refine⟨q,true,hs,?_⟩
   simp(disch:=first|exact abt|fail) only[go_sem,ZO,R5,hq,h1]
def QV:List UInt8:=[0,1]++List.replicate 2 2++List.replicate 4 3++List.replicate 8 4++List.replicate 16 5++List.replicate 32 6++List.replicate 64 7++List.replicate 128 8
theorem Ud:∀ k:Fin 256,∃ q:Fin 9,QV[k.val]? =some (UInt8.ofNat q.val):=by decide +kernel
theorem j6 {k:Nat} {n:Int} (hk:k<256) (h0:0≤n) (hn:n≤56) (o:List (Nat×V)) (ho:o=[]∨o=[(14,.d (.bool (false)))]):∃ m:Nat,m≤64∧go GS [.c (xw.seq AA.ret)] ⟨(0,.d (.int .u64 ((k:Int))))::(2,.d (.int .i64 (n)))::o,[]⟩=some (.d (.int .i64 ((m:Int))),[]):=by
 obtain⟨q,hq⟩:=Ud ⟨k,hk⟩;have hl:QV.length=256:=abx;have hq9:=q.2;refine⟨n.toNat+q.val,by omega,?_⟩
 have e:r9=[oo 19 (.mv (.t 2)),oo 20 (.mv (.t 0)),oo 21 (.Aj .u8 (.t 20)),oo 22 (.P1 (.c (.str QV)) (.t 21)),oo 23 (.Aj .i64 (.t 22)),oo 24 (.bin .add (.t 19) (.t 23)),oo 2 (.asg (.t 24))]:=rfl;unfold xw rg;rw[e];generalize QV=L at *;have e2:k % 256=k:=ads hk;have e3:=gz (n:=q.val) abu
 replace hq:L[k]? =some (UInt8.ofNat q.val):=hq
 have e4:((n.toNat+q.val:Nat):Int)=n+q.val:=abu;rw[e4];rcases ho with rfl|rfl<;>simp(disch:=first|exact abt|fail) only[go_sem,GS,Fy,H8,e2,hq,e3]
theorem ur {u:Nat} (h:u<18446744073709551616):∃ n:Nat,n≤64∧evL cfg RP 0 [.d (.int .u64 ((u:Int)))] []=some (.d (.int .i64 ((n:Int))),[]):=by
 have e1:=fun u:Nat=>IV .u64 u (n:=32) abx
 have e2:=fun u:Nat=>IV .u64 u (n:=16) abx
 have e3:=fun u:Nat=>IV .u64 u (n:=8) abx
 rw[show((32:Nat):Int)=32 from rfl] at e1
 rw[show((16:Nat):Int)=16 from rfl] at e2
 rw[show((8:Nat):Int)=8 from rfl] at e3
 rw[o_cu];rcases ab2 (decide ((u:Int)≥4294967296)) with d_a|d_a<;>have p_a:=d_a<;>simp only[ab4,ab3,acg,ab6,ne_eq] at p_a
 · rcases ab2 (decide (((u / 2 ^ 32:Nat):Int)≥65536)) with d_b|d_b<;>have p_b:=d_b<;>simp only[ab4,ab3,acg,ab6,ne_eq] at p_b
   · rcases ab2 (decide (((u / 2 ^ 32 / 2 ^ 16:Nat):Int)≥256)) with d_c|d_c<;>have p_c:=d_c<;>simp only[ab4,ab3,acg,ab6,ne_eq] at p_c
     · obtain⟨m,h1,h2⟩:=j6 (k:=(((u / 2 ^ 32) / 2 ^ 16) / 2 ^ 8)) (n:=56) abu abu abu [] (.inl rfl)
       refine⟨m,h1,Eq.trans ?_ h2⟩;simp(disch:=first|exact abt|fail) only[go_sem,GS,Fy,d_a,d_b,d_c,ax,e1,e2,e3]
     · obtain⟨m,h1,h2⟩:=j6 (k:=((u / 2 ^ 32) / 2 ^ 16)) (n:=48) abu abu abu [(14,.d (.bool (false)))] (.inr rfl)
       refine⟨m,h1,Eq.trans ?_ h2⟩;simp(disch:=first|exact abt|fail) only[go_sem,GS,Fy,d_a,d_b,d_c,ax,e1,e2,e3]
   · rcases ab2 (decide (((u / 2 ^ 32:Nat):Int)≥256)) with d_c|d_c<;>have p_c:=d_c<;>simp only[ab4,ab3,acg,ab6,ne_eq] at p_c
     · obtain⟨m,h1,h2⟩:=j6 (k:=((u / 2 ^ 32) / 2 ^ 8)) (n:=40) abu abu abu [] (.inl rfl)
       refine⟨m,h1,Eq.trans ?_ h2⟩;simp(disch:=first|exact abt|fail) only[go_sem,GS,Fy,d_a,d_b,d_c,ax,e1,e2,e3]
     · obtain⟨m,h1,h2⟩:=j6 (k:=(u / 2 ^ 32)) (n:=32) abu abu abu [(14,.d (.bool (false)))] (.inr rfl)
       refine⟨m,h1,Eq.trans ?_ h2⟩;simp(disch:=first|exact abt|fail) only[go_sem,GS,Fy,d_a,d_b,d_c,ax,e1,e2,e3]
 · rcases ab2 (decide ((u:Int)≥65536)) with d_b|d_b<;>have p_b:=d_b<;>simp only[ab4,ab3,acg,ab6,ne_eq] at p_b
   · rcases ab2 (decide (((u / 2 ^ 16:Nat):Int)≥256)) with d_c|d_c<;>have p_c:=d_c<;>simp only[ab4,ab3,acg,ab6,ne_eq] at p_c
     · obtain⟨m,h1,h2⟩:=j6 (k:=((u / 2 ^ 16) / 2 ^ 8)) (n:=24) abu abu abu [] (.inl rfl)
       refine⟨m,h1,Eq.trans ?_ h2⟩;simp(disch:=first|exact abt|fail) only[go_sem,GS,Fy,d_a,d_b,d_c,ax,e1,e2,e3]
     · obtain⟨m,h1,h2⟩:=j6 (k:=(u / 2 ^ 16)) (n:=16) abu abu abu [(14,.d (.bool (false)))] (.inr rfl)
       refine⟨m,h1,Eq.trans ?_ h2⟩;simp(disch:=first|exact abt|fail) only[go_sem,GS,Fy,d_a,d_b,d_c,ax,e1,e2,e3]
   · rcases ab2 (decide ((u:Int)≥256)) with d_c|d_c<;>have p_c:=d_c<;>simp only[ab4,ab3,acg,ab6,ne_eq] at p_c
     · obtain⟨m,h1,h2⟩:=j6 (k:=(u / 2 ^ 8)) (n:=8) abu abu abu [] (.inl rfl)
       refine⟨m,h1,Eq.trans ?_ h2⟩;simp(disch:=first|exact abt|fail) only[go_sem,GS,Fy,d_a,d_b,d_c,ax,e1,e2,e3]
     · obtain⟨m,h1,h2⟩:=j6 (k:=u) (n:=0) abu abu abu [(14,.d (.bool (false)))] (.inr rfl)
       refine⟨m,h1,Eq.trans ?_ h2⟩;simp(disch:=first|exact abt|fail) only[go_sem,GS,Fy,d_a,d_b,d_c,ax,e1,e2,e3]
theorem eq {u:Nat} (h:u<18446744073709551616):∃ n:Nat,n≤64∧evL cfg Ho 0 [.d (.int .u64 ((u:Int)))] []=some (.d (.int .i64 ((n:Int))),[]):=by
 obtain⟨n,h1,h2⟩:=ur h;refine⟨n,h1,?_⟩;rw[o_fy];simp(disch:=first|exact abt|fail) only[go_sem,X_fy,YV,h2]
theorem ji {v:Int} (h:inI v) (sg:Bool):∃ u:Nat,u<18446744073709551616∧evL cfg Hp 0 [.d (.int .i64 (v)),.d (.bool (sg))] []=some (.d (.int .u64 ((u:Int))),[]):=by
 cases sg with
 | true=>
  refine⟨Ft v,ary h,?_⟩;have hz:=gw h;rw[o_ej];simp(disch:=first|exact abt|fail) only[go_sem,nY,Vk,hz]
 | false=>
  obtain⟨n,h1,h2⟩:=ql v;refine⟨n,h1,?_⟩;rw[o_ej];simp(disch:=first|exact abt|fail) only[go_sem,nY,Vk,h2]
end Go.Proofs.YtkdiccgfbfbjlaaGreat
namespace Go.Proofs.YtkdiccgfbfbjlaaGreat
open Go Go.Ev
variable [Sh]
set_option maxHeartbeats 2000000
set_option maxRecDepth 100000
theorem below_1 (v:Int):evL cfg G6 0 [.d (.int .i64 (v))] []=some (.d (.bool (decide (v<0))),[]):=by
 rw[o_eb];simp(disch:=first|exact abt|fail) only[go_sem,X_eb,Yc]
theorem TD (v:Int):evL cfg G7 0 [.d (.int .i64 (v))] []=some (.d (.bool (decide (v<0))),[]):=by
 rw[o_dt];simp(disch:=first|exact abt|fail) only[go_sem,X_dt,Yf]
abbrev ixE (f:FuncId) (l:List Int) (i:Nat):List (Nat×V):=[(0,.d (AR l)),(1,.d (.fn f)),(7,.d (.int .i64 ((l.length:Int)))),(8,.d (.int .i64 ((i:Int))))]
theorem blu (f:FuncId) (hf:f=G6∨f=G7) (l:List Int) (hp:∀ v∈l,0≤v):∀ (r:List Int) (i:Nat),l.drop i=r→i≤l.length→l.length≤1000000→
  go SR [.c (.loop boc),.b 0,.c (.seq bil .ret)] ⟨ixE f l i,[]⟩=some (.d (.int .i64 (-1)),[])
 | [],i,hr,hi,hl=>by
  have:=aq hr;have:i=l.length:=abu;subst this;have d_a:decide ((l.length:Int)<l.length)=false:=by simp<;>omega
  rw[go_loop];simp(disch:=first|exact abt|fail) only[go_sem,SR,d_a]
 | v::r,i,hr,hi,hl=>by
  obtain⟨h1,h2,h3⟩:=ba hr;have ih:=blu f hf l hp r (i+1) h3 h1 hl;have hv:=hp v (List.mem_of_getElem? h2);have d_a:decide ((i:Int)<l.length)=true:=by simp<;>omega
  have d_c:decide (v<0)=false:=by simp<;>omega
  have b1:=below_1 v;have b2:=TD v;rw[go_loop];refine Eq.trans ?_ ih;rcases hf with rfl|rfl
  · simp(disch:=first|exact abt|fail) only[go_sem,SR,d_a,d_c,AR,h2,b1,acf,Option.map_some,Int.natCast_add,ixE]
  · simp(disch:=first|exact abt|fail) only[go_sem,SR,d_a,d_c,AR,h2,b2,acf,Option.map_some,Int.natCast_add,ixE]
theorem p9 (f:FuncId) (hf:f=G6∨f=G7) (l:List Int) (hp:∀ v∈l,0≤v) (hl:l.length≤1000000):
  evL cfg Pq 0 [.d (AR l),.d (.fn f)] []=some (.d (.bool (false)),[]):=by
 have h:evL cfg Ro 0 [.d (AR l),.d (.fn f)] []=some (.d (.int .i64 (-1)),[]):=by
  have:=blu f hf l hp l 0 rfl (aco _) hl;rw[o_am];simp only[ixE,AR] at this ⊢;simp(disch:=first|exact abt|fail) only[go_sem,SR,Y9,aby]
  exact this
 rw[o_cg];unfold AR at *;simp(disch:=first|exact abt|fail) only[go_sem,X_cg,Yv,h,Int.reduceLE,Int.reduceNeg,ge_iff_le,decide_false]
def DI (sg:Bool) (l:List Int):Prop:=∀ v∈l,inI v∧(sg=false→0≤v)
theorem ku {sg:Bool} {l:List Int} (h:DI sg l) (hl:l.length≤1000000):evL cfg G8 0 [.d (AR l),.d (.bool (sg))] []=some (.d (.bool (false)),[]):=by
 rw[o_de];cases sg with
 | true=>
  unfold AR;simp(disch:=first|exact abt|fail) only[go_sem,oE,Vq]
 | false=>
  have hc:=p9 G6 (.inl rfl) l (fun v hv=>(h v hv).2 rfl) hl
  unfold AR at *;simp(disch:=first|exact abt|fail) only[go_sem,oE,Vq,hc]
def SU (r:Ans) (n:Nat):Prop:=∃ x:List UInt8,(x.length≤n∧x≠[])∧r=some (.own false 1 (x.map AD),[])
theorem e9 {b q:List UInt8} {n:Nat} (h:b.length+q.length≤n) (hq:q≠[]:=by simp):SU (some (.own false 1 (b.map AD++q.map AD),[])) n:=⟨b++q,⟨by simpa using h,by simp[hq]⟩,by simp⟩
theorem aD {b:List UInt8} {u v:UInt8} {n:Nat} (h:b.length+2≤n):SU (some (.own false 1 (b.map AD++[AD u,AD v]),[])) n:=e9 (q:=[u,v]) h
theorem kR {u v:UInt8} {n:Nat} (h:2≤n):SU (some (.own false 1 [AD u,AD v],[])) n:=aD (b:=[]) (by simpa using h)
open Classical in
theorem X3 {α:Type} {r:α→Ans} {n:α→Nat} {P:α→Prop} (h:∀ a,P a→SU (r a) (n a)):∃ F:α→List UInt8,∀ a,P a→((F a).length≤n a∧F a≠[])∧r a=some (.own false 1 ((F a).map AD),[]):=
 ⟨fun a=>if q:P a then(h a q).choose else[],fun a ha=>by
  simp only[dif_pos ha];exact(h a ha).choose_spec⟩
def Bw (x:List UInt8):V:=match x with
 | []=> .d .AL
 |y::r=> .own false 1 ((y::r).map AD)
theorem af:Bw []= .d .AL:=rfl
theorem ac {x:List UInt8} (h:x≠[]):Bw x= .own false 1 (x.map AD):=by
 cases x with
 |nil=>exact absurd rfl h
 |cons y r=>rfl
theorem ga (x:List UInt8):(Bw x).home 0=Bw x:=by cases x<;>rfl
theorem nz {b:List UInt8} (hz:b≠[]) (hl:b.length≤1000000):evL cfg EH 0 [.d (.sl ((b).map AD))] []=some (.own false 1 (b.map AD),[]):=by
 have:=da b abu;cases b with
 |nil=>exact absurd rfl hz
 |cons x r=>exact this
theorem kp:evL cfg EH 0 [.d (.sl [])] []=some (.d .AL,[]):=da [] abw
theorem zi {b:List UInt8} (hb:b.length≤1000000) (k c n:Int) (hk:0≤k):SU (evL cfg Ph 0 [.d (.sl ((b).map AD)),.d (.int .i64 (k)),.d (.int .i64 (c)),.d (.int .i64 (n))] []) (b.length+2):=by
 rw[o_fw];by_cases hz:b=[]
 · subst hz
   have hc:=kp;simp(disch:=first|exact abt|fail) only[go_sem,nX,Vi,hc,d8,ax,List.map_nil,wB]
   exact kR (ab5 _)
 · have hc:=nz hz hb
   simp(disch:=first|exact abt|fail) only[go_sem,nX,Vi,hc,d8,ax,wB]
   exact aD (ab5 _)
theorem ZL {b:List UInt8} (hz:b≠[]) (hb:b.length≤1000000) (u:Nat) {n:Int} (h1:1≤n) (h8:n≤8):SU (evL cfg Rh 0 [.d (.sl ((b).map AD)),.d (.int .u64 ((u:Int))),.d (.int .i64 (n))] []) (b.length+8):=by
 have hc:=nz hz hb;rw[o_ay];obtain rfl|rfl|rfl|rfl|rfl|rfl|rfl|rfl:n=1∨n=2∨n=3∨n=4∨n=5∨n=6∨n=7∨n=8:=abu
 · simp(disch:=first|exact abt|fail) only[go_sem,HV,GR,hc,ax,wB,Int.reduceBEq,ac4,List.cons_append,List.nil_append]
   exact e9 (q:=[_]) abw
 · simp(disch:=first|exact abt|fail) only[go_sem,HV,GR,hc,ax,wB,Int.reduceBEq,ac4,List.cons_append,List.nil_append]
   exact e9 (q:=[_,_]) abw
 · simp(disch:=first|exact abt|fail) only[go_sem,HV,GR,hc,ax,wB,Int.reduceBEq,ac4,List.cons_append,List.nil_append]
   exact e9 (q:=[_,_,_]) abw
 · simp(disch:=first|exact abt|fail) only[go_sem,HV,GR,hc,ax,wB,Int.reduceBEq,ac4,List.cons_append,List.nil_append]
   exact e9 (q:=[_,_,_,_]) abw
 · simp(disch:=first|exact abt|fail) only[go_sem,HV,GR,hc,ax,wB,Int.reduceBEq,ac4,List.cons_append,List.nil_append]
   exact e9 (q:=[_,_,_,_,_]) abw
 · simp(disch:=first|exact abt|fail) only[go_sem,HV,GR,hc,ax,wB,Int.reduceBEq,ac4,List.cons_append,List.nil_append]
   exact e9 (q:=[_,_,_,_,_,_]) abw
 · simp(disch:=first|exact abt|fail) only[go_sem,HV,GR,hc,ax,wB,Int.reduceBEq,ac4,List.cons_append,List.nil_append]
   exact e9 (q:=[_,_,_,_,_,_,_]) abw
 · simp(disch:=first|exact abt|fail) only[go_sem,HV,GR,hc,ax,wB,Int.reduceBEq,ac4,List.cons_append,List.nil_append]
   exact e9 (q:=[_,_,_,_,_,_,_,_]) abw
end Go.Proofs.YtkdiccgfbfbjlaaGreat
namespace Go.Proofs.YtkdiccgfbfbjlaaGreat
open Go Go.Ev
variable [Sh]
set_option maxHeartbeats 2000000
set_option maxRecDepth 100000
noncomputable def fitB (n:Nat):Bool:=match BU cfg 50 UR 0 [.d (.int .i64 ((n:Int)))] [] with
 |some (.d (.int .i64 (.ofNat k)),[])=>decide (k≤64)
 |_=>false
noncomputable def aT (n:Nat):Bool:=match BU cfg 50 US 0 [.d (.int .i64 ((n:Int)))] [] with
 |some (.d (.tup [.int .i64 (.ofNat k),.bool _]),[])=>decide (k≤64)
 |_=>false
theorem X7:(List.range 65).all fitB=true:=abv
theorem VU:(List.range 65).all aT=true:=abv
theorem bl9 {n:Nat} (h:n≤64):∃ k:Nat,k≤64∧evL cfg UR 0 [.d (.int .i64 ((n:Int)))] []=some (.d (.int .i64 ((k:Int))),[]):=by
 have:=adn.1 X7 n (ad0.2 abu);unfold fitB at this;split at this
 · rename_i k hk
   exact⟨k,by simpa using this,ak (n:=50) hk⟩
 · cases this
theorem a99 {n:Nat} (h:n≤64):∃ (k:Nat) (q:Bool),k≤64∧evL cfg US 0 [.d (.int .i64 ((n:Int)))] []=some (.d (.tup [.int .i64 (k:Int),.bool q]),[]):=by
 have:=adn.1 VU n (ad0.2 abu);unfold aT at this;split at this
 · rename_i k q hk
   exact⟨k,q,by simpa using this,ak (n:=50) hk⟩
 · cases this
end Go.Proofs.YtkdiccgfbfbjlaaGreat
namespace Go.Proofs.YtkdiccgfbfbjlaaGreat
open Go Go.Ev
variable [Sh]
set_option maxHeartbeats 2000000
set_option maxRecDepth 100000
theorem bdc {b:List UInt8} (hb:b.length≤900000) {sg:Bool} {v:Int} (h:DI sg [v]) {n:Int} (h3:3≤n) (h10:n≤10):
   ∃ x:List UInt8,x≠[]∧x.length≤b.length+9∧evL cfg RI 0 [.d (.sl ((b).map AD)),.d (.int .i64 (v)),.d (.int .i64 (n)),.d (.bool (sg))] []=some (.d (.tup [.sl (x.map AD),.int .i64 0]),[]):=by
 have hb1:=ku h abw;obtain⟨u,hu,hbits⟩:=ji (h v abw).1 sg;obtain⟨w,hw,hBits⟩:=eq hu;simp only[AR,List.map_cons,List.map_nil] at hb1;have d_a:decide (n<3)=false:=by simp<;>omega
 have d_c:decide (n>10)=false:=by simp<;>omega
 obtain⟨q,hq0,hq8,e1⟩:∃ q:Int,0≤q∧q≤8∧IntKind.i64.wrap (Int.tdiv ((w:Int)+7) 8)=q:=⟨(((w+7) / 8:Nat):Int),by omega,by omega,by
   rw[show(w:Int)+7=((w+7:Nat):Int) by omega,show((8:Int))=((8:Nat):Int) from rfl,← Int.ofNat_tdiv]
   exact bd abu abu⟩
 obtain⟨m,hm1,hm8,e2⟩:∃ m:Int,1≤m∧m≤8∧max q 1=m:=⟨max q 1,by omega,by omega,rfl⟩
 obtain⟨F,hF⟩:=X3 (fun(y:UInt8) (_:True)=>ZL (b:=b++[y]) abw (by simp;omega) u hm1 hm8)
 have g2:=fun y=>(hF y trivial).2
 have g1:=fun y=>(hF y trivial).1.1
 have g0:=fun y=>(hF y trivial).1.2
 simp only[List.map_append,List.map_cons,List.map_nil,aci,List.length_cons,List.length_nil] at g2 g1;rw[o_da];by_cases hz:b=[]
 · subst hz
   have hc:=kp;simp only[List.map_nil,List.nil_append,List.length_nil] at g2 g1;simp(disch:=first|exact abt|fail) only[go_sem,oF,Vr,hb1,d_a,d_c,hbits,hBits,hc,d8,ax,p6,wB,List.map_nil,e1,e2,g2]
   refine⟨_,g0 _,?_,rfl⟩;exact ac7 (g1 _) abu
 · have hc:=nz hz abu
   simp(disch:=first|exact abt|fail) only[go_sem,oF,Vr,hb1,d_a,d_c,hbits,hBits,hc,d8,ax,p6,wB,e1,e2,g2]
   refine⟨_,g0 _,?_,rfl⟩;exact ac7 (g1 _) abu
theorem setB (k:IntKind) (n:Int) (z:UInt8):(D.int k n).setAt 0 [AD z]=some (AD z):=rfl
theorem setL (x:List UInt8) (j:Nat) (z:UInt8):(x.map AD).set j (AD z)=(x.set j z).map AD:=by rw[List.map_set]
abbrev pkE (w:Int) (o:V) (r v lf:Int) (l:List Nat) (i:Nat):List (Nat×V):=[(2,.d (.int .i64 (w))),(7,o),(8,.d (.int .i64 (r))),(10,.d (.int .u64 (v))),(11,.d (.int .i64 (lf))),(23,.d (Ew l)),(24,.d (.int .i64 ((l.length:Int)))),(25,.d (.int .i64 ((i:Int))))]
theorem T8 (w:Int) (x:List UInt8) (hx:x≠[]) (hl:x.length≤10000000) (r v lf:Int) (hr:0<r) (hr8:r≤8) (h0:0<lf) (h64:lf≤64) (l:List Nat) (i:Nat) (K:List Kf):
  ∃ x':List UInt8,x'.length=x.length∧go D5 (.c (.seq x8 (.seq x7 (.seq x6 xz)))::K) ⟨pkE w (.own false 1 (x.map AD)) r v lf l i,[]⟩=go D5 K ⟨pkE w (.own false 1 (x'.map AD)) (r-min lf r) v (lf-min lf r) l i,[]⟩:=by
 have hp:0<x.length:=List.length_pos_iff.2 hx;obtain⟨y,hy⟩:∃ y,x[x.length-1]? =some y:=⟨_,ab0 abu⟩
 have e1:(x.length:Int)-1=((x.length-1:Nat):Int):=abu;obtain⟨m,hm1,hm2,hm3,e2⟩:∃ m:Int,1≤m∧m≤lf∧m≤r∧min lf r=m:=⟨min lf r,by omega,by omega,by omega,rfl⟩
 rw[e2]
 have ey:=br y;simp(disch:=first|exact abt|fail) only[go_sem,D5,pkE,Ew,e2,e1,hy,ey,setB,setL,d8,ax,oB,acf,Option.map_some,aby]
 exact⟨_,by rw[List.length_set],rfl⟩
theorem zB:D.int .u8 0=AD 0:=rfl
theorem T9 (w:Int) (l:List Nat) (i:Nat) (v:Int) (K:List Kf):∀ (n lf r:Nat) (x:List UInt8),lf≤n→lf≤64→r≤8→(0<r→x≠[])→x.length+lf≤9000000→
  ∃ (x':List UInt8) (r':Nat),(x.length≤x'.length∧x'.length≤x.length+lf)∧r'≤8∧(0<r'→x'≠[])∧go D5 (.c (.loop pm):: .b 2::K) ⟨pkE w (Bw x) r v lf l i,[]⟩=go D5 K ⟨pkE w (Bw x') r' v 0 l i++[(31,.d (.bool (false)))],[]⟩
 | n,0,r,x,_,_,hr,hx,hl=>by
  refine⟨x,r,⟨ab5 _,by omega⟩,hr,hx,?_⟩
  rw[go_loop];simp(disch:=first|exact abt|fail) only[go_sem,D5,pkE,Ew,ga,List.cons_append,List.nil_append,Int.reduceGT,decide_false,gt_iff_lt,Int.reduceLT]
 |0,lf+1,r,x,h,_,_,_,_=>by omega
 | n+1,lf+1,r,x,h,h64,hr,hx,hl=>by
  have d_a:decide (((lf+1:Nat):Int)>0)=true:=by simp<;>omega
  by_cases h0:r=0
  · subst h0
    obtain⟨x1,hx1,e1⟩:=T8 w (x++[0]) abw (by simp;omega) 8 v ((lf+1:Nat):Int) abu abu abu abu l i (.b 3:: .c (.loop pm):: .b 2::K)
    rw[aci,List.length_singleton] at hx1;rw[show(8:Int)-min ((lf+1:Nat):Int) 8=((8-min (lf+1) 8:Nat):Int) by omega,show((lf+1:Nat):Int)-min ((lf+1:Nat):Int) 8=((lf+1-min (lf+1) 8:Nat):Int) by omega] at e1
    have Ai:x1≠[]:=by intro e;rw[e] at hx1;simp at hx1
    obtain⟨x2,r2,h1,h2,h3,e2⟩:=T9 w l i v K n (lf+1-min (lf+1) 8) (8-min (lf+1) 8) x1 abu abu abu (fun _=>Ai) abu
    refine⟨x2,r2,⟨by omega,by omega⟩,h2,h3,Eq.trans ?_ (e1.trans (Eq.trans ?_ e2))⟩
    · by_cases hz:x=[]
      · subst hz
        rw[go_loop];simp(disch:=first|exact abt|fail) only[go_sem,D5,pkE,Ew,List.map_nil,List.nil_append,af,d_a,zB,List.map_cons,Int.natCast_zero]
      · rw[ac hz,go_loop]
        simp(disch:=first|exact abt|fail) only[go_sem,D5,pkE,Ew,d_a,zB,List.map_append,List.map_cons,List.map_nil]
    · rw[ac Ai]
      simp(disch:=first|exact abt|fail) only[go_sem,D5,pkE]
  · have hz:=hx abu
    obtain⟨x1,hx1,e1⟩:=T8 w x hz abu (r:Int) v ((lf+1:Nat):Int) abu abu abu abu l i (.b 3:: .c (.loop pm):: .b 2::K);rw[show(r:Int)-min ((lf+1:Nat):Int) (r:Int)=((r-min (lf+1) r:Nat):Int) by omega,show((lf+1:Nat):Int)-min ((lf+1:Nat):Int) (r:Int)=((lf+1-min (lf+1) r:Nat):Int) by omega] at e1
    have Ai:x1≠[]:=by
      intro e;rw[e] at hx1;exact hz (acw hx1.symm)
    obtain⟨x2,r2,h1,h2,h3,e2⟩:=T9 w l i v K n (lf+1-min (lf+1) r) (r-min (lf+1) r) x1 abu abu abu (fun _=>Ai) abu
    refine⟨x2,r2,⟨by omega,by omega⟩,h2,h3,Eq.trans ?_ (e1.trans (Eq.trans ?_ e2))⟩
    · have er:((r:Int)==0)=false:=by simp;omega
      rw[ac hz,go_loop];simp(disch:=first|exact abt|fail) only[go_sem,D5,pkE,Ew,d_a,er]
    · rw[ac Ai]
      simp(disch:=first|exact abt|fail) only[go_sem,D5,pkE]
abbrev poE (w:Int) (o:V) (r:Int) (l:List Nat) (i:Nat):List (Nat×V):=[(2,.d (.int .i64 (w))),(7,o),(8,.d (.int .i64 (r))),(23,.d (Ew l)),(24,.d (.int .i64 ((l.length:Int)))),(25,.d (.int .i64 ((i:Int))))]
theorem T7 (w:Nat) (hw:w≤64) (l:List Nat) (hn:l.length≤10000):∀ (q:List Nat) (i r:Nat) (x:List UInt8),l.drop i=q→i≤l.length→r≤8→(0<r→x≠[])→x.length+64*q.length≤8000000→
  ∃ x':List UInt8,(x.length≤x'.length∧x'.length≤x.length+64*q.length)∧go D5 [.c (.loop aab),.b 0,.c (.seq xx .ret)] ⟨poE w (Bw x) r l i,[]⟩=some (Bw x',[])
 | [],i,r,x,hq,hi,hr,hx,hl=>by
  have:=aq hq;have:i=l.length:=abu;subst this;have d_a:decide ((l.length:Int)<l.length)=false:=by simp<;>omega
  refine⟨x,⟨ab5 _,by omega⟩,?_⟩
  rw[go_loop];by_cases hz:x=[]
  · subst hz
    simp(disch:=first|exact abt|fail) only[go_sem,D5,poE,Ew,af,d_a]
  · rw[ac hz]
    simp(disch:=first|exact abt|fail) only[go_sem,D5,poE,Ew,d_a]
 | v::q,i,r,x,hq,hi,hr,hx,hl=>by
  obtain⟨h1,h2,h3⟩:=ba hq;have d_a:decide ((i:Int)<l.length)=true:=by simp<;>omega
  rw[List.length_cons] at hl;obtain⟨x1,r1,g1,g2,g3,e1⟩:=T9 w l i (v:Int) (.b 1:: .c xy:: .c (.loop aab):: .b 0:: .c (.seq xx .ret)::[]) w w r x (ab5 _) hw hr hx abu;obtain⟨x2,k1,e2⟩:=T7 w hw l hn q (i+1) r1 x1 h3 h1 g2 g3 abu;refine⟨x2,⟨by omega,by rw[List.length_cons];omega⟩,Eq.trans ?_ (e1.trans (Eq.trans ?_ e2))⟩
  · rw[go_loop]
    simp(disch:=first|exact abt|fail) only[go_sem,D5,poE,pkE,Ew,d_a,h2,ga]
  · simp(disch:=first|exact abt|fail) only[go_sem,D5,poE,pkE,Ew,ga,List.cons_append,List.nil_append,Int.natCast_add]
theorem a9h {b:List UInt8} (hb:b.length≤900000) (l:List Nat) (hn:l.length≤10000) (w:Nat) (hw:w≤64):∃ x:List UInt8,(b.length≤x.length∧x.length≤b.length+64*l.length)∧evL cfg Pr 0 [.d (.sl ((b).map AD)),.d (Ew l),.d (.int .i64 ((w:Int)))] []=some (Bw x,[]):=by
 obtain⟨x,h1,h2⟩:=T7 w hw l hn l 0 0 b rfl (aco _) abu abu abu;refine⟨x,h1,?_⟩;have d_a:decide ((w:Int)<0)=false:=by simp<;>omega
 have d_c:decide ((w:Int)>64)=false:=by simp<;>omega
 rw[o_bp,← h2];by_cases hz:b=[]
 · subst hz
   have hc:=kp;simp(disch:=first|exact abt|fail) only[go_sem,D5,Vu,hc,d_a,d_c,poE,Ew,af,Int.natCast_zero]
 · have hc:=nz hz abu
   rw[ac hz];simp(disch:=first|exact abt|fail) only[go_sem,D5,Vu,hc,d_a,d_c,poE,Ew,Int.natCast_zero]
