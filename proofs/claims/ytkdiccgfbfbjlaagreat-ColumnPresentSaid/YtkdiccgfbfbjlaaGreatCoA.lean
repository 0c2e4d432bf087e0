import Derived.Test.YtkdiccgfbfbjlaaGreatCode
import Derived.Test.YtkdiccgfbfbjlaaGreatL8
namespace Go.Proofs.YtkdiccgfbfbjlaaGreat
open Go Go.Ev
set_option maxHeartbeats 2000000
set_option maxRecDepth 100000
theorem iu {v:Int} (h:inI v):evL cfg n_cy 0 [.d (.int .i64 (v))] []=some (.d (.int .u64 ((zigN v:Int))),[]):=by
 rw[o_cy];simp(disch:=first|exact uv|fail) only[go_sem,X_cy,c_cy,ej,a7,zig_bits h]
theorem fg (b:List UInt8) (hl:b.length≤1000000):evL cfg n_az 0 [.d (.sl ((b).map byteD))] []=some ((if b.isEmpty then .d .nilS else .own false 1 (b.map byteD)),[]):=by
 cases b with
 |nil=>exact a9 (n:=3) ux
 | cons c b=>
  rw[o_az];rw[List.length_cons] at hl;simp(disch:=first|exact uv|fail) only[go_sem,X_az,c_az,List.isEmpty]
theorem dr:∀ (k u:Nat) (es:List UInt8),u<128 ^ (k+1)→u<18446744073709551616→es.length+k+1≤10000000→
  go X_bq [.c (.loop az6),.b 0,.c (.seq at5 .ret)] ⟨[(1,.d (.int .u64 ((u:Int)))),(5,.own false 1 (es.map byteD))],[]⟩=some (.own false 1 ((es++varB (k+1) u).map byteD),[])
 | k,u,es,h,h',hl=>by
  by_cases c:u<128
  · have d_a:decide ((u:Int)≥128)=false:=by simp<;>omega
    have e:varB (k+1) u=[UInt8.ofNat u]:=by simp[varB,c]
    have e1:=jp (n:=u) uw;have e2:u % 256=u:=uw;rw[go_loop,e];simp(disch:=first|exact uv|fail) only[go_sem,X_bq,d_a,cv_u8,List.map_append,e1,e2]
  · have d_a:decide ((u:Int)≥128)=true:=by simp<;>omega
    cases k with
    |zero=>simp at h;omega
    | succ k=>
     have e:varB (k+1+1) u=UInt8.ofNat (u % 128+128)::varB (k+1) (u / 128):=by rw[varB,if_neg c]
     have e1:=jp (n:=u % 128+128) uw;have ih:=dr k (u / 128) (es++[UInt8.ofNat (u % 128+128)]) (by rw[Nat.pow_succ] at h;omega) uw (by simp;omega)
     rw[List.map_append,List.map_cons,List.map_nil,e1,w7,List.singleton_append,← e] at ih;rw[go_loop];simp(disch:=first|exact uv|fail) only[go_sem,X_bq,d_a,cv_u8,a7,ui,ax0]
     exact ih
theorem nq {b:List UInt8} {u:Nat} (hb:b.length≤1000000) (hu:u<18446744073709551616):evL cfg n_bq 0 [.d (.sl ((b).map byteD)),.d (.int .u64 ((u:Int)))] []=some (.own false 1 ((b++varB 10 u).map byteD),[]):=by
 rw[o_bq];have hc:=fg b hb;cases b with
 | cons x b=>
  have hl:=dr 9 u (x::b) uw hu (by simp at hb ⊢;omega)
  simp only[List.isEmpty_cons,vj,if_false] at hc;rw[List.map_cons] at hc hl ⊢;simp(disch:=first|exact uv|fail) only[go_sem,X_bq,c_bq,hc,hl]
 | nil=>
  simp only[List.isEmpty_nil,if_true] at hc;rw[List.map_nil] at hc;by_cases c:u<128
  · have d_a:decide ((u:Int)≥128)=false:=by simp<;>omega
    have e:varB 10 u=[UInt8.ofNat u]:=by simp[varB,c]
    have e1:=jp (n:=u) uw;have e2:u % 256=u:=uw;simp(disch:=first|exact uv|fail) only[go_sem,X_bq,c_bq,hc,go_loop,d_a,cv_u8,e,e1,e2]
  · have d_a:decide ((u:Int)≥128)=true:=by simp<;>omega
    have e:varB 10 u=UInt8.ofNat (u % 128+128)::varB 9 (u / 128):=by rw[varB,if_neg c]
    have e1:=jp (n:=u % 128+128) uw;have ih:=dr 8 (u / 128) [UInt8.ofNat (u % 128+128)] uw uw uy;rw[List.map_cons,List.map_nil,e1,List.singleton_append,← e] at ih;simp(disch:=first|exact uv|fail) only[go_sem,X_bq,c_bq,hc]
    rw[go_loop];simp(disch:=first|exact uv|fail) only[go_sem,X_bq,d_a,cv_u8,a7,ui,ax0]
    exact ih
def i64s (l:List Int):D:= .sl (l.map (D.int .i64))
def u64s (l:List Nat):D:= .sl (l.map fun u:Nat=>D.int .u64 (u:Int))
theorem apj (x:Int):inI (IntKind.i64.wrap x):=by
 unfold inI;simp[IntKind.wrap,IntKind.signed,IntKind.bits,BitVec.toInt_ofInt,Int.bmod_def];omega
theorem ml (x:Int):∃ n:Nat,n<18446744073709551616∧IntKind.u64.wrap x=(n:Int):=by
 refine⟨(IntKind.u64.wrap x).toNat,?_,?_⟩<;>simp[IntKind.wrap,IntKind.signed,IntKind.bits]<;>omega
theorem u8_range (x:Int):0≤IntKind.u8.wrap x∧IntKind.u8.wrap x<256:=by
 simp[IntKind.wrap,IntKind.signed,IntKind.bits]<;>omega
def wU (x:Int):UInt8:=UInt8.ofNat (IntKind.u8.wrap x).toNat
theorem wB (x:Int):D.int .u8 (IntKind.u8.wrap x)=byteD (wU x):=by
 obtain⟨h1,h2⟩:=u8_range x;unfold wU;rw[jp uw]
 congr 1
 omega
def oU (a b:Int):UInt8:=wU (BitVec.ofInt 8 a ||| BitVec.ofInt 8 b).toNat
theorem oB (a b:Int):D.int .u8 (orI .u8 a b)=byteD (oU a b):=wB _
theorem dl {a b:Int} (ha:inI a) (hb:inI b):∃ s ok,inI s∧evL cfg n_ce 0 [.d (.int .i64 (a)),.d (.int .i64 (b))] []=some (.d (.tup [.int .i64 s,.bool ok]),[]):=by
 rw[o_ce];have hs:=apj (a-b);have z:inI 0:=by unfold inI;omega
 generalize hq:IntKind.i64.wrap (a-b)=q at hs;cases h1:(decide (q<a)==decide (b>0))
 · cases h2:(b !=0)
   · refine⟨q,true,hs,?_⟩
     simp(disch:=first|exact uv|fail) only[go_sem,X_ce,c_ce,hq,h1,h2]
   · refine⟨0,false,z,?_⟩
     simp(disch:=first|exact uv|fail) only[go_sem,X_ce,c_ce,hq,h1,h2]
 · refine⟨q,true,hs,?_⟩
   simp(disch:=first|exact uv|fail) only[go_sem,X_ce,c_ce,hq,h1]
def len8:List UInt8:=[0,1]++List.replicate 2 2++List.replicate 4 3++List.replicate 8 4++List.replicate 16 5++List.replicate 32 6++List.replicate 64 7++List.replicate 128 8
theorem len8_at:∀ k:Fin 256,∃ q:Fin 9,len8[k.val]? =some (UInt8.ofNat q.val):=by decide +kernel
theorem i4 {k:Nat} {n:Int} (hk:k<256) (h0:0≤n) (hn:n≤56) (o:List (Nat×V)) (ho:o=[]∨o=[(14,.d (.bool (false)))]):∃ m:Nat,m≤64∧go X_bh [.c (rh.seq ICode.ret)] ⟨(0,.d (.int .u64 ((k:Int))))::(2,.d (.int .i64 (n)))::o,[]⟩=some (.d (.int .i64 ((m:Int))),[]):=by
 obtain⟨q,hq⟩:=len8_at ⟨k,hk⟩;have hl:len8.length=256:=uz;have hq9:=q.2;refine⟨n.toNat+q.val,by omega,?_⟩
 have e:ng=[oo 19 (.mv (.t 2)),oo 20 (.mv (.t 0)),oo 21 (.cvInt .u8 (.t 20)),oo 22 (.idxS (.c (.str len8)) (.t 21)),oo 23 (.cvInt .i64 (.t 22)),oo 24 (.bin .add (.t 19) (.t 23)),oo 2 (.asg (.t 24))]:=rfl;unfold rh rg;rw[e];generalize len8=L at *;have e2:k % 256=k:=Nat.mod_eq_of_lt hk;have e3:=jp (n:=q.val) uw
 replace hq:L[k]? =some (UInt8.ofNat q.val):=hq
 have e4:((n.toNat+q.val:Nat):Int)=n+q.val:=uw;rw[e4];rcases ho with rfl|rfl<;>simp(disch:=first|exact uv|fail) only[go_sem,X_bh,c_bh,cv_u8,e2,hq,e3]
theorem o7 {u:Nat} (h:u<18446744073709551616):∃ n:Nat,n≤64∧evL cfg n_bh 0 [.d (.int .u64 ((u:Int)))] []=some (.d (.int .i64 ((n:Int))),[]):=by
 have e1:=fun u:Nat=>shrU .u64 u (n:=32) uz
 have e2:=fun u:Nat=>shrU .u64 u (n:=16) uz
 have e3:=fun u:Nat=>shrU .u64 u (n:=8) uz
 rw[show((32:Nat):Int)=32 from rfl] at e1
 rw[show((16:Nat):Int)=16 from rfl] at e2
 rw[show((8:Nat):Int)=8 from rfl] at e3
 rw[o_bh];rcases vf (decide ((u:Int)≥4294967296)) with d_a|d_a<;>have p_a:=d_a<;>simp only[vn,vd,wb,vo,ne_eq] at p_a
 · rcases vf (decide (((u / 2 ^ 32:Nat):Int)≥65536)) with d_b|d_b<;>have p_b:=d_b<;>simp only[vn,vd,wb,vo,ne_eq] at p_b
   · rcases vf (decide (((u / 2 ^ 32 / 2 ^ 16:Nat):Int)≥256)) with d_c|d_c<;>have p_c:=d_c<;>simp only[vn,vd,wb,vo,ne_eq] at p_c
     · obtain⟨m,h1,h2⟩:=i4 (k:=(((u / 2 ^ 32) / 2 ^ 16) / 2 ^ 8)) (n:=56) uw uw uw [] (.inl rfl)
       refine⟨m,h1,Eq.trans ?_ h2⟩;simp(disch:=first|exact uv|fail) only[go_sem,X_bh,c_bh,d_a,d_b,d_c,a7,e1,e2,e3]
     · obtain⟨m,h1,h2⟩:=i4 (k:=((u / 2 ^ 32) / 2 ^ 16)) (n:=48) uw uw uw [(14,.d (.bool (false)))] (.inr rfl)
       refine⟨m,h1,Eq.trans ?_ h2⟩;simp(disch:=first|exact uv|fail) only[go_sem,X_bh,c_bh,d_a,d_b,d_c,a7,e1,e2,e3]
   · rcases vf (decide (((u / 2 ^ 32:Nat):Int)≥256)) with d_c|d_c<;>have p_c:=d_c<;>simp only[vn,vd,wb,vo,ne_eq] at p_c
     · obtain⟨m,h1,h2⟩:=i4 (k:=((u / 2 ^ 32) / 2 ^ 8)) (n:=40) uw uw uw [] (.inl rfl)
       refine⟨m,h1,Eq.trans ?_ h2⟩;simp(disch:=first|exact uv|fail) only[go_sem,X_bh,c_bh,d_a,d_b,d_c,a7,e1,e2,e3]
     · obtain⟨m,h1,h2⟩:=i4 (k:=(u / 2 ^ 32)) (n:=32) uw uw uw [(14,.d (.bool (false)))] (.inr rfl)
       refine⟨m,h1,Eq.trans ?_ h2⟩;simp(disch:=first|exact uv|fail) only[go_sem,X_bh,c_bh,d_a,d_b,d_c,a7,e1,e2,e3]
 · rcases vf (decide ((u:Int)≥65536)) with d_b|d_b<;>have p_b:=d_b<;>simp only[vn,vd,wb,vo,ne_eq] at p_b
   · rcases vf (decide (((u / 2 ^ 16:Nat):Int)≥256)) with d_c|d_c<;>have p_c:=d_c<;>simp only[vn,vd,wb,vo,ne_eq] at p_c
     · obtain⟨m,h1,h2⟩:=i4 (k:=((u / 2 ^ 16) / 2 ^ 8)) (n:=24) uw uw uw [] (.inl rfl)
       refine⟨m,h1,Eq.trans ?_ h2⟩;simp(disch:=first|exact uv|fail) only[go_sem,X_bh,c_bh,d_a,d_b,d_c,a7,e1,e2,e3]
     · obtain⟨m,h1,h2⟩:=i4 (k:=(u / 2 ^ 16)) (n:=16) uw uw uw [(14,.d (.bool (false)))] (.inr rfl)
       refine⟨m,h1,Eq.trans ?_ h2⟩;simp(disch:=first|exact uv|fail) only[go_sem,X_bh,c_bh,d_a,d_b,d_c,a7,e1,e2,e3]
   · rcases vf (decide ((u:Int)≥256)) with d_c|d_c<;>have p_c:=d_c<;>simp only[vn,vd,wb,vo,ne_eq] at p_c
     · obtain⟨m,h1,h2⟩:=i4 (k:=(u / 2 ^ 8)) (n:=8) uw uw uw [] (.inl rfl)
       refine⟨m,h1,Eq.trans ?_ h2⟩;simp(disch:=first|exact uv|fail) only[go_sem,X_bh,c_bh,d_a,d_b,d_c,a7,e1,e2,e3]
     · obtain⟨m,h1,h2⟩:=i4 (k:=u) (n:=0) uw uw uw [(14,.d (.bool (false)))] (.inr rfl)
       refine⟨m,h1,Eq.trans ?_ h2⟩;simp(disch:=first|exact uv|fail) only[go_sem,X_bh,c_bh,d_a,d_b,d_c,a7,e1,e2,e3]
theorem dy {u:Nat} (h:u<18446744073709551616):∃ n:Nat,n≤64∧evL cfg n_cx 0 [.d (.int .u64 ((u:Int)))] []=some (.d (.int .i64 ((n:Int))),[]):=by
 obtain⟨n,h1,h2⟩:=o7 h;refine⟨n,h1,?_⟩;rw[o_cx];simp(disch:=first|exact uv|fail) only[go_sem,X_cx,c_cx,h2]
theorem gr {v:Int} (h:inI v) (sg:Bool):∃ u:Nat,u<18446744073709551616∧evL cfg n_cf 0 [.d (.int .i64 (v)),.d (.bool (sg))] []=some (.d (.int .u64 ((u:Int))),[]):=by
 cases sg with
 | true=>
  refine⟨zigN v,ar6 h,?_⟩;have hz:=iu h;rw[o_cf];simp(disch:=first|exact uv|fail) only[go_sem,X_cf,c_cf,hz]
 | false=>
  obtain⟨n,h1,h2⟩:=ml v;refine⟨n,h1,?_⟩;rw[o_cf];simp(disch:=first|exact uv|fail) only[go_sem,X_cf,c_cf,h2]
