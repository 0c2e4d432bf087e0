import Derived.Test.YtkdiccgfbfbjlaaGreatCode
import Derived.Test.YtkdiccgfbfbjlaaGreatL8
import Derived.Test.YtkdiccgfbfbjlaaGreatCoF
namespace Go.Proofs.YtkdiccgfbfbjlaaGreat
open Go Go.Ev
set_option maxHeartbeats 2000000
set_option maxRecDepth 100000
theorem jh {v:Int} (h:inI v):evL cfg n_cz 0 [.d (.int .i64 (v))] []=some (.d (.int .u64 ((zigN v:Int))),[]):=by
 rw[o_cz];simp(disch:=first|exact yo|fail) only[go_sem,X_cz,c_cz,ff,ba,zig_bits h]
theorem fo (b:List UInt8) (hl:b.length≤1000000):evL cfg n_bc 0 [.d (.sl ((b).map byteD))] []=some ((if b.isEmpty then .d .nilS else .own false 1 (b.map byteD)),[]):=by
 cases b with
 |nil=>exact ap (n:=3) yr
 | cons c b=>
  rw[o_bc];rw[List.length_cons] at hl;simp(disch:=first|exact yo|fail) only[go_sem,X_bc,c_bc,List.isEmpty]
theorem dz:∀ (k u:Nat) (es:List UInt8),u<128 ^ (k+1)→u<18446744073709551616→es.length+k+1≤10000000→
  go X_bq [.c (.loop a5a),.b 0,.c (.seq ayx .ret)] ⟨[(1,.d (.int .u64 ((u:Int)))),(5,.own false 1 (es.map byteD))],[]⟩=some (.own false 1 ((es++varB (k+1) u).map byteD),[])
 | k,u,es,h,h',hl=>by
  by_cases c:u<128
  · have d_a:decide ((u:Int)≥128)=false:=by simp<;>omega
    have e:varB (k+1) u=[UInt8.ofNat u]:=by simp[varB,c]
    have e1:=gc (n:=u) yp;have e2:u % 256=u:=yp;rw[go_loop,e];simp(disch:=first|exact yo|fail) only[go_sem,X_bq,d_a,cv_u8,List.map_append,e1,e2]
  · have d_a:decide ((u:Int)≥128)=true:=by simp<;>omega
    cases k with
    |zero=>simp at h;omega
    | succ k=>
     have e:varB (k+1+1) u=UInt8.ofNat (u % 128+128)::varB (k+1) (u / 128):=by rw[varB,if_neg c]
     have e1:=gc (n:=u % 128+128) yp;have ih:=dz k (u / 128) (es++[UInt8.ofNat (u % 128+128)]) (by rw[Nat.pow_succ] at h;omega) yp (by simp;omega)
     rw[List.map_append,List.map_cons,List.map_nil,e1,aam,List.singleton_append,← e] at ih;rw[go_loop];simp(disch:=first|exact yo|fail) only[go_sem,X_bq,d_a,cv_u8,ba,x9,a2o]
     exact ih
theorem qh {b:List UInt8} {u:Nat} (hb:b.length≤1000000) (hu:u<18446744073709551616):evL cfg n_bq 0 [.d (.sl ((b).map byteD)),.d (.int .u64 ((u:Int)))] []=some (.own false 1 ((b++varB 10 u).map byteD),[]):=by
 rw[o_bq];have hc:=fo b hb;cases b with
 | cons x b=>
  have hl:=dz 9 u (x::b) yp hu (by simp at hb ⊢;omega)
  simp only[List.isEmpty_cons,zf,if_false] at hc;rw[List.map_cons] at hc hl ⊢;simp(disch:=first|exact yo|fail) only[go_sem,X_bq,c_bq,hc,hl]
 | nil=>
  simp only[List.isEmpty_nil,if_true] at hc;rw[List.map_nil] at hc;by_cases c:u<128
  · have d_a:decide ((u:Int)≥128)=false:=by simp<;>omega
    have e:varB 10 u=[UInt8.ofNat u]:=by simp[varB,c]
    have e1:=gc (n:=u) yp;have e2:u % 256=u:=yp;simp(disch:=first|exact yo|fail) only[go_sem,X_bq,c_bq,hc,go_loop,d_a,cv_u8,e,e1,e2]
  · have d_a:decide ((u:Int)≥128)=true:=by simp<;>omega
    have e:varB 10 u=UInt8.ofNat (u % 128+128)::varB 9 (u / 128):=by rw[varB,if_neg c]
    have e1:=gc (n:=u % 128+128) yp;have ih:=dz 8 (u / 128) [UInt8.ofNat (u % 128+128)] yp yp yt;rw[List.map_cons,List.map_nil,e1,List.singleton_append,← e] at ih;simp(disch:=first|exact yo|fail) only[go_sem,X_bq,c_bq,hc]
    rw[go_loop];simp(disch:=first|exact yo|fail) only[go_sem,X_bq,d_a,cv_u8,ba,x9,a2o]
    exact ih
def i64s (l:List Int):D:= .sl (l.map (D.int .i64))
def u64s (l:List Nat):D:= .sl (l.map fun u:Nat=>D.int .u64 (u:Int))
theorem inI_wrap (x:Int):inI (IntKind.i64.wrap x):=by
 unfold inI;simp[IntKind.wrap,IntKind.signed,IntKind.bits,BitVec.toInt_ofInt,Int.bmod_def];omega
theorem oh (x:Int):∃ n:Nat,n<18446744073709551616∧IntKind.u64.wrap x=(n:Int):=by
 refine⟨(IntKind.u64.wrap x).toNat,?_,?_⟩<;>simp[IntKind.wrap,IntKind.signed,IntKind.bits]<;>omega
theorem u8_range (x:Int):0≤IntKind.u8.wrap x∧IntKind.u8.wrap x<256:=by
 simp[IntKind.wrap,IntKind.signed,IntKind.bits]<;>omega
def wU (x:Int):UInt8:=UInt8.ofNat (IntKind.u8.wrap x).toNat
theorem wB (x:Int):D.int .u8 (IntKind.u8.wrap x)=byteD (wU x):=by
 obtain⟨h1,h2⟩:=u8_range x;unfold wU;rw[gc yp]
 congr 1
 omega
def oU (a b:Int):UInt8:=wU (BitVec.ofInt 8 a ||| BitVec.ofInt 8 b).toNat
theorem oB (a b:Int):D.int .u8 (orI .u8 a b)=byteD (oU a b):=wB _
theorem dv {a b:Int} (ha:inI a) (hb:inI b):∃ s ok,inI s∧evL cfg n_b9 0 [.d (.int .i64 (a)),.d (.int .i64 (b))] []=some (.d (.tup [.int .i64 s,.bool ok]),[]):=by
 rw[o_b9];have hs:=inI_wrap (a-b);have z:inI 0:=by unfold inI;omega
 generalize hq:IntKind.i64.wrap (a-b)=q at hs;cases h1:(decide (q<a)==decide (b>0))
 · cases h2:(b !=0)
   · refine⟨q,true,hs,?_⟩
     simp(disch:=first|exact yo|fail) only[go_sem,X_b9,c_b9,hq,h1,h2]
   · refine⟨0,false,z,?_⟩
     simp(disch:=first|exact yo|fail) only[go_sem,X_b9,c_b9,hq,h1,h2]
 · refine⟨q,true,hs,?_⟩
   simp(disch:=first|exact yo|fail) only[go_sem,X_b9,c_b9,hq,h1]
def len8:List UInt8:=[0,1]++List.replicate 2 2++List.replicate 4 3++List.replicate 8 4++List.replicate 16 5++List.replicate 32 6++List.replicate 64 7++List.replicate 128 8
theorem len8_at:∀ k:Fin 256,∃ q:Fin 9,len8[k.val]? =some (UInt8.ofNat q.val):=by decide +kernel
theorem jj {k:Nat} {n:Int} (hk:k<256) (h0:0≤n) (hn:n≤56) (o:List (Nat×V)) (ho:o=[]∨o=[(14,.d (.bool (false)))]):∃ m:Nat,m≤64∧go X_bm [.c (uz.seq ICode.ret)] ⟨(0,.d (.int .u64 ((k:Int))))::(2,.d (.int .i64 (n)))::o,[]⟩=some (.d (.int .i64 ((m:Int))),[]):=by
 obtain⟨q,hq⟩:=len8_at ⟨k,hk⟩;have hl:len8.length=256:=yu;have hq9:=q.2;refine⟨n.toNat+q.val,by omega,?_⟩
 have e:pz=[oo 19 (.mv (.t 2)),oo 20 (.mv (.t 0)),oo 21 (.cvInt .u8 (.t 20)),oo 22 (.idxS (.c (.str len8)) (.t 21)),oo 23 (.cvInt .i64 (.t 22)),oo 24 (.bin .add (.t 19) (.t 23)),oo 2 (.asg (.t 24))]:=rfl;unfold uz rg;rw[e];generalize len8=L at *;have e2:k % 256=k:=Nat.mod_eq_of_lt hk;have e3:=gc (n:=q.val) yp
 replace hq:L[k]? =some (UInt8.ofNat q.val):=hq
 have e4:((n.toNat+q.val:Nat):Int)=n+q.val:=yp;rw[e4];rcases ho with rfl|rfl<;>simp(disch:=first|exact yo|fail) only[go_sem,X_bm,c_bm,cv_u8,e2,hq,e3]
theorem rz {u:Nat} (h:u<18446744073709551616):∃ n:Nat,n≤64∧evL cfg n_bm 0 [.d (.int .u64 ((u:Int)))] []=some (.d (.int .i64 ((n:Int))),[]):=by
 have e1:=fun u:Nat=>shrU .u64 u (n:=32) yu
 have e2:=fun u:Nat=>shrU .u64 u (n:=16) yu
 have e3:=fun u:Nat=>shrU .u64 u (n:=8) yu
 rw[show((32:Nat):Int)=32 from rfl] at e1
 rw[show((16:Nat):Int)=16 from rfl] at e2
 rw[show((8:Nat):Int)=8 from rfl] at e3
 rw[o_bm];rcases y9 (decide ((u:Int)≥4294967296)) with d_a|d_a<;>have p_a:=d_a<;>simp only[zh,zb,zt,zi,ne_eq] at p_a
 · rcases y9 (decide (((u / 2 ^ 32:Nat):Int)≥65536)) with d_b|d_b<;>have p_b:=d_b<;>simp only[zh,zb,zt,zi,ne_eq] at p_b
   · rcases y9 (decide (((u / 2 ^ 32 / 2 ^ 16:Nat):Int)≥256)) with d_c|d_c<;>have p_c:=d_c<;>simp only[zh,zb,zt,zi,ne_eq] at p_c
     · obtain⟨m,h1,h2⟩:=jj (k:=(((u / 2 ^ 32) / 2 ^ 16) / 2 ^ 8)) (n:=56) yp yp yp [] (.inl rfl)
       refine⟨m,h1,Eq.trans ?_ h2⟩;simp(disch:=first|exact yo|fail) only[go_sem,X_bm,c_bm,d_a,d_b,d_c,ba,e1,e2,e3]
     · obtain⟨m,h1,h2⟩:=jj (k:=((u / 2 ^ 32) / 2 ^ 16)) (n:=48) yp yp yp [(14,.d (.bool (false)))] (.inr rfl)
       refine⟨m,h1,Eq.trans ?_ h2⟩;simp(disch:=first|exact yo|fail) only[go_sem,X_bm,c_bm,d_a,d_b,d_c,ba,e1,e2,e3]
   · rcases y9 (decide (((u / 2 ^ 32:Nat):Int)≥256)) with d_c|d_c<;>have p_c:=d_c<;>simp only[zh,zb,zt,zi,ne_eq] at p_c
     · obtain⟨m,h1,h2⟩:=jj (k:=((u / 2 ^ 32) / 2 ^ 8)) (n:=40) yp yp yp [] (.inl rfl)
       refine⟨m,h1,Eq.trans ?_ h2⟩;simp(disch:=first|exact yo|fail) only[go_sem,X_bm,c_bm,d_a,d_b,d_c,ba,e1,e2,e3]
     · obtain⟨m,h1,h2⟩:=jj (k:=(u / 2 ^ 32)) (n:=32) yp yp yp [(14,.d (.bool (false)))] (.inr rfl)
       refine⟨m,h1,Eq.trans ?_ h2⟩;simp(disch:=first|exact yo|fail) only[go_sem,X_bm,c_bm,d_a,d_b,d_c,ba,e1,e2,e3]
 · rcases y9 (decide ((u:Int)≥65536)) with d_b|d_b<;>have p_b:=d_b<;>simp only[zh,zb,zt,zi,ne_eq] at p_b
   · rcases y9 (decide (((u / 2 ^ 16:Nat):Int)≥256)) with d_c|d_c<;>have p_c:=d_c<;>simp only[zh,zb,zt,zi,ne_eq] at p_c
     · obtain⟨m,h1,h2⟩:=jj (k:=((u / 2 ^ 16) / 2 ^ 8)) (n:=24) yp yp yp [] (.inl rfl)
       refine⟨m,h1,Eq.trans ?_ h2⟩;simp(disch:=first|exact yo|fail) only[go_sem,X_bm,c_bm,d_a,d_b,d_c,ba,e1,e2,e3]
     · obtain⟨m,h1,h2⟩:=jj (k:=(u / 2 ^ 16)) (n:=16) yp yp yp [(14,.d (.bool (false)))] (.inr rfl)
       refine⟨m,h1,Eq.trans ?_ h2⟩;simp(disch:=first|exact yo|fail) only[go_sem,X_bm,c_bm,d_a,d_b,d_c,ba,e1,e2,e3]
   · rcases y9 (decide ((u:Int)≥256)) with d_c|d_c<;>have p_c:=d_c<;>simp only[zh,zb,zt,zi,ne_eq] at p_c
     · obtain⟨m,h1,h2⟩:=jj (k:=(u / 2 ^ 8)) (n:=8) yp yp yp [] (.inl rfl)
       refine⟨m,h1,Eq.trans ?_ h2⟩;simp(disch:=first|exact yo|fail) only[go_sem,X_bm,c_bm,d_a,d_b,d_c,ba,e1,e2,e3]
     · obtain⟨m,h1,h2⟩:=jj (k:=u) (n:=0) yp yp yp [(14,.d (.bool (false)))] (.inr rfl)
       refine⟨m,h1,Eq.trans ?_ h2⟩;simp(disch:=first|exact yo|fail) only[go_sem,X_bm,c_bm,d_a,d_b,d_c,ba,e1,e2,e3]
theorem ee {u:Nat} (h:u<18446744073709551616):∃ n:Nat,n≤64∧evL cfg n_cx 0 [.d (.int .u64 ((u:Int)))] []=some (.d (.int .i64 ((n:Int))),[]):=by
 obtain⟨n,h1,h2⟩:=rz h;refine⟨n,h1,?_⟩;rw[o_cx];simp(disch:=first|exact yo|fail) only[go_sem,X_cx,c_cx,h2]
theorem ip {v:Int} (h:inI v) (sg:Bool):∃ u:Nat,u<18446744073709551616∧evL cfg n_ce 0 [.d (.int .i64 (v)),.d (.bool (sg))] []=some (.d (.int .u64 ((u:Int))),[]):=by
 cases sg with
 | true=>
  refine⟨zigN v,aw4 h,?_⟩;have hz:=jh h;rw[o_ce];simp(disch:=first|exact yo|fail) only[go_sem,X_ce,c_ce,hz]
 | false=>
  obtain⟨n,h1,h2⟩:=oh v;refine⟨n,h1,?_⟩;rw[o_ce];simp(disch:=first|exact yo|fail) only[go_sem,X_ce,c_ce,h2]
set_option maxRecDepth 100000
theorem below_1 (v:Int):evL cfg n_b6 0 [.d (.int .i64 (v))] []=some (.d (.bool (decide (v<0))),[]):=by
 rw[o_b6];simp(disch:=first|exact yo|fail) only[go_sem,X_b6,c_b6]
theorem rbelow_1 (v:Int):evL cfg n_bx 0 [.d (.int .i64 (v))] []=some (.d (.bool (decide (v<0))),[]):=by
 rw[o_bx];simp(disch:=first|exact yo|fail) only[go_sem,X_bx,c_bx]
abbrev ixE (f:FuncId) (l:List Int) (i:Nat):List (Nat×V):=[(0,.d (i64s l)),(1,.d (.fn f)),(7,.d (.int .i64 ((l.length:Int)))),(8,.d (.int .i64 ((i:Int))))]
theorem a3c (f:FuncId) (hf:f=n_b6∨f=n_bx) (l:List Int) (hp:∀ v∈l,0≤v):∀ (r:List Int) (i:Nat),l.drop i=r→i≤l.length→l.length≤1000000→
  go X_af [.c (.loop a5i),.b 0,.c (.seq a17 .ret)] ⟨ixE f l i,[]⟩=some (.d (.int .i64 (-1)),[])
 | [],i,hr,hi,hl=>by
  have:=cf hr;have:i=l.length:=yp;subst this;have d_a:decide ((l.length:Int)<l.length)=false:=by simp<;>omega
  rw[go_loop];simp(disch:=first|exact yo|fail) only[go_sem,X_af,d_a]
 | v::r,i,hr,hi,hl=>by
  obtain⟨h1,h2,h3⟩:=da hr;have ih:=a3c f hf l hp r (i+1) h3 h1 hl;have hv:=hp v (List.mem_of_getElem? h2);have d_a:decide ((i:Int)<l.length)=true:=by simp<;>omega
  have d_c:decide (v<0)=false:=by simp<;>omega
  have b1:=below_1 v;have b2:=rbelow_1 v;rw[go_loop];refine Eq.trans ?_ ih;rcases hf with rfl|rfl
  · simp(disch:=first|exact yo|fail) only[go_sem,X_af,d_a,d_c,i64s,h2,b1,zg,Option.map_some,Int.natCast_add,ixE]
  · simp(disch:=first|exact yo|fail) only[go_sem,X_af,d_a,d_c,i64s,h2,b2,zg,Option.map_some,Int.natCast_add,ixE]
theorem n9 (f:FuncId) (hf:f=n_b6∨f=n_bx) (l:List Int) (hp:∀ v∈l,0≤v) (hl:l.length≤1000000):
  evL cfg n_bg 0 [.d (i64s l),.d (.fn f)] []=some (.d (.bool (false)),[]):=by
 have h:evL cfg n_af 0 [.d (i64s l),.d (.fn f)] []=some (.d (.int .i64 (-1)),[]):=by
  have:=a3c f hf l hp l 0 rfl (aad _) hl;rw[o_af];simp only[ixE,i64s] at this ⊢;simp(disch:=first|exact yo|fail) only[go_sem,X_af,c_af,yz]
  exact this
 rw[o_bg];unfold i64s at *;simp(disch:=first|exact yo|fail) only[go_sem,X_bg,c_bg,h,Int.reduceLE,Int.reduceNeg,ge_iff_le,decide_false]
def Fine (sg:Bool) (l:List Int):Prop:=∀ v∈l,inI v∧(sg=false→0≤v)
theorem jz {sg:Bool} {l:List Int} (h:Fine sg l) (hl:l.length≤1000000):evL cfg n_bt 0 [.d (i64s l),.d (.bool (sg))] []=some (.d (.bool (false)),[]):=by
 rw[o_bt];cases sg with
 | true=>
  unfold i64s;simp(disch:=first|exact yo|fail) only[go_sem,X_bt,c_bt]
 | false=>
  have hc:=n9 n_b6 (.inl rfl) l (fun v hv=>(h v hv).2 rfl) hl
  unfold i64s at *;simp(disch:=first|exact yo|fail) only[go_sem,X_bt,c_bt,hc]
def Gets (r:Ans) (n:Nat):Prop:=∃ x:List UInt8,(x.length≤n∧x≠[])∧r=some (.own false 1 (x.map byteD),[])
theorem ej {b q:List UInt8} {n:Nat} (h:b.length+q.length≤n) (hq:q≠[]:=by simp):Gets (some (.own false 1 (b.map byteD++q.map byteD),[])) n:=⟨b++q,⟨by simpa using h,by simp[hq]⟩,by simp⟩
theorem gets2 {b:List UInt8} {u v:UInt8} {n:Nat} (h:b.length+2≤n):Gets (some (.own false 1 (b.map byteD++[byteD u,byteD v]),[])) n:=ej (q:=[u,v]) h
theorem gets02 {u v:UInt8} {n:Nat} (h:2≤n):Gets (some (.own false 1 [byteD u,byteD v],[])) n:=gets2 (b:=[]) (by simpa using h)
open Classical in
theorem gets_fn {α:Type} {r:α→Ans} {n:α→Nat} {P:α→Prop} (h:∀ a,P a→Gets (r a) (n a)):∃ F:α→List UInt8,∀ a,P a→((F a).length≤n a∧F a≠[])∧r a=some (.own false 1 ((F a).map byteD),[]):=
 ⟨fun a=>if q:P a then(h a q).choose else[],fun a ha=>by
  simp only[dif_pos ha];exact(h a ha).choose_spec⟩
def ownB (x:List UInt8):V:=match x with
 | []=> .d .nilS
 |y::r=> .own false 1 ((y::r).map byteD)
theorem am:ownB []= .d .nilS:=rfl
theorem ah {x:List UInt8} (h:x≠[]):ownB x= .own false 1 (x.map byteD):=by
 cases x with
 |nil=>exact absurd rfl h
 |cons y r=>rfl
theorem fg (x:List UInt8):(ownB x).home 0=ownB x:=by cases x<;>rfl
theorem kf {b:List UInt8} (hz:b≠[]) (hl:b.length≤1000000):evL cfg n_bc 0 [.d (.sl ((b).map byteD))] []=some (.own false 1 (b.map byteD),[]):=by
 have:=fo b hl;cases b with
 |nil=>exact absurd rfl hz
 |cons x r=>exact this
theorem jv:evL cfg n_bc 0 [.d (.sl [])] []=some (.d .nilS,[]):=fo [] yt
theorem wg {b:List UInt8} (hb:b.length≤1000000) (k c n:Int) (hk:0≤k):Gets (evL cfg n_cw 0 [.d (.sl ((b).map byteD)),.d (.int .i64 (k)),.d (.int .i64 (c)),.d (.int .i64 (n))] []) (b.length+2):=by
 rw[o_cw];by_cases hz:b=[]
 · subst hz
   have hc:=jv;simp(disch:=first|exact yo|fail) only[go_sem,X_cw,c_cw,hc,ff,ba,List.map_nil,wB]
   exact gets02 (y7 _)
 · have hc:=kf hz hb
   simp(disch:=first|exact yo|fail) only[go_sem,X_cw,c_cw,hc,ff,ba,wB]
   exact gets2 (y7 _)
theorem big_ans {b:List UInt8} (hz:b≠[]) (hb:b.length≤1000000) (u:Nat) {n:Int} (h1:1≤n) (h8:n≤8):Gets (evL cfg n_am 0 [.d (.sl ((b).map byteD)),.d (.int .u64 ((u:Int))),.d (.int .i64 (n))] []) (b.length+8):=by
 have hc:=kf hz hb;rw[o_am];obtain rfl|rfl|rfl|rfl|rfl|rfl|rfl|rfl:n=1∨n=2∨n=3∨n=4∨n=5∨n=6∨n=7∨n=8:=yp
 · simp(disch:=first|exact yo|fail) only[go_sem,X_am,c_am,hc,ba,wB,Int.reduceBEq,aam,List.cons_append,List.nil_append]
   exact ej (q:=[_]) yt
 · simp(disch:=first|exact yo|fail) only[go_sem,X_am,c_am,hc,ba,wB,Int.reduceBEq,aam,List.cons_append,List.nil_append]
   exact ej (q:=[_,_]) yt
 · simp(disch:=first|exact yo|fail) only[go_sem,X_am,c_am,hc,ba,wB,Int.reduceBEq,aam,List.cons_append,List.nil_append]
   exact ej (q:=[_,_,_]) yt
 · simp(disch:=first|exact yo|fail) only[go_sem,X_am,c_am,hc,ba,wB,Int.reduceBEq,aam,List.cons_append,List.nil_append]
   exact ej (q:=[_,_,_,_]) yt
 · simp(disch:=first|exact yo|fail) only[go_sem,X_am,c_am,hc,ba,wB,Int.reduceBEq,aam,List.cons_append,List.nil_append]
   exact ej (q:=[_,_,_,_,_]) yt
 · simp(disch:=first|exact yo|fail) only[go_sem,X_am,c_am,hc,ba,wB,Int.reduceBEq,aam,List.cons_append,List.nil_append]
   exact ej (q:=[_,_,_,_,_,_]) yt
 · simp(disch:=first|exact yo|fail) only[go_sem,X_am,c_am,hc,ba,wB,Int.reduceBEq,aam,List.cons_append,List.nil_append]
   exact ej (q:=[_,_,_,_,_,_,_]) yt
 · simp(disch:=first|exact yo|fail) only[go_sem,X_am,c_am,hc,ba,wB,Int.reduceBEq,aam,List.cons_append,List.nil_append]
   exact ej (q:=[_,_,_,_,_,_,_,_]) yt
set_option maxRecDepth 100000
theorem ax2 {b:List UInt8} (hb:b.length≤900000) {sg:Bool} {v:Int} (h:Fine sg [v]) {n:Int} (h3:3≤n) (h10:n≤10):
   ∃ x:List UInt8,x≠[]∧x.length≤b.length+9∧evL cfg n_br 0 [.d (.sl ((b).map byteD)),.d (.int .i64 (v)),.d (.int .i64 (n)),.d (.bool (sg))] []=some (.d (.tup [.sl (x.map byteD),.int .i64 0]),[]):=by
 have hb1:=jz h yt;obtain⟨u,hu,hbits⟩:=ip (h v yt).1 sg;obtain⟨w,hw,hBits⟩:=ee hu;simp only[i64s,List.map_cons,List.map_nil] at hb1;have d_a:decide (n<3)=false:=by simp<;>omega
 have d_c:decide (n>10)=false:=by simp<;>omega
 obtain⟨q,hq0,hq8,e1⟩:∃ q:Int,0≤q∧q≤8∧IntKind.i64.wrap (Int.tdiv ((w:Int)+7) 8)=q:=⟨(((w+7) / 8:Nat):Int),by omega,by omega,by
   rw[show(w:Int)+7=((w+7:Nat):Int) by omega,show((8:Int))=((8:Nat):Int) from rfl,← Int.ofNat_tdiv]
   exact wrap_i64 yp yp⟩
 obtain⟨m,hm1,hm8,e2⟩:∃ m:Int,1≤m∧m≤8∧max q 1=m:=⟨max q 1,by omega,by omega,rfl⟩
 obtain⟨F,hF⟩:=gets_fn (fun(y:UInt8) (_:True)=>big_ans (b:=b++[y]) yt (by simp;omega) u hm1 hm8)
 have g2:=fun y=>(hF y trivial).2
 have g1:=fun y=>(hF y trivial).1.1
 have g0:=fun y=>(hF y trivial).1.2
 simp only[List.map_append,List.map_cons,List.map_nil,zo,List.length_cons,List.length_nil] at g2 g1;rw[o_br];by_cases hz:b=[]
 · subst hz
   have hc:=jv;simp only[List.map_nil,List.nil_append,List.length_nil] at g2 g1;simp(disch:=first|exact yo|fail) only[go_sem,X_br,c_br,hb1,d_a,d_c,hbits,hBits,hc,ff,ba,ib_quo,wB,List.map_nil,e1,e2,g2]
   refine⟨_,g0 _,?_,rfl⟩;exact aaa (g1 _) yp
 · have hc:=kf hz yp
   simp(disch:=first|exact yo|fail) only[go_sem,X_br,c_br,hb1,d_a,d_c,hbits,hBits,hc,ff,ba,ib_quo,wB,e1,e2,g2]
   refine⟨_,g0 _,?_,rfl⟩;exact aaa (g1 _) yp
theorem setB (k:IntKind) (n:Int) (z:UInt8):(D.int k n).setAt 0 [byteD z]=some (byteD z):=rfl
theorem setL (x:List UInt8) (j:Nat) (z:UInt8):(x.map byteD).set j (byteD z)=(x.set j z).map byteD:=by rw[List.map_set]
abbrev pkE (w:Int) (o:V) (r v lf:Int) (l:List Nat) (i:Nat):List (Nat×V):=[(2,.d (.int .i64 (w))),(7,o),(8,.d (.int .i64 (r))),(10,.d (.int .u64 (v))),(11,.d (.int .i64 (lf))),(23,.d (u64s l)),(24,.d (.int .i64 ((l.length:Int)))),(25,.d (.int .i64 ((i:Int))))]
theorem pk_mid (w:Int) (x:List UInt8) (hx:x≠[]) (hl:x.length≤10000000) (r v lf:Int) (hr:0<r) (hr8:r≤8) (h0:0<lf) (h64:lf≤64) (l:List Nat) (i:Nat) (K:List Kf):
  ∃ x':List UInt8,x'.length=x.length∧go X_ax (.c (.seq vf (.seq vd (.seq vc u9)))::K) ⟨pkE w (.own false 1 (x.map byteD)) r v lf l i,[]⟩=go X_ax K ⟨pkE w (.own false 1 (x'.map byteD)) (r-min lf r) v (lf-min lf r) l i,[]⟩:=by
 have hp:0<x.length:=aa2.2 hx;obtain⟨y,hy⟩:∃ y,x[x.length-1]? =some y:=⟨_,yy yp⟩
 have e1:(x.length:Int)-1=((x.length-1:Nat):Int):=yp;obtain⟨m,hm1,hm2,hm3,e2⟩:∃ m:Int,1≤m∧m≤lf∧m≤r∧min lf r=m:=⟨min lf r,by omega,by omega,by omega,rfl⟩
 rw[e2]
 have ey:=ce y;simp(disch:=first|exact yo|fail) only[go_sem,X_ax,pkE,u64s,e2,e1,hy,ey,setB,setL,ff,ba,oB,zg,Option.map_some,yz]
 exact⟨_,by rw[List.length_set],rfl⟩
theorem zB:D.int .u8 0=byteD 0:=rfl
theorem pk_in (w:Int) (l:List Nat) (i:Nat) (v:Int) (K:List Kf):∀ (n lf r:Nat) (x:List UInt8),lf≤n→lf≤64→r≤8→(0<r→x≠[])→x.length+lf≤9000000→
  ∃ (x':List UInt8) (r':Nat),(x.length≤x'.length∧x'.length≤x.length+lf)∧r'≤8∧(0<r'→x'≠[])∧go X_ax (.c (.loop nj):: .b 2::K) ⟨pkE w (ownB x) r v lf l i,[]⟩=go X_ax K ⟨pkE w (ownB x') r' v 0 l i++[(31,.d (.bool (false)))],[]⟩
 | n,0,r,x,_,_,hr,hx,hl=>by
  refine⟨x,r,⟨y7 _,by omega⟩,hr,hx,?_⟩
  rw[go_loop];simp(disch:=first|exact yo|fail) only[go_sem,X_ax,pkE,u64s,fg,List.cons_append,List.nil_append,Int.reduceGT,decide_false,gt_iff_lt,Int.reduceLT]
 |0,lf+1,r,x,h,_,_,_,_=>by omega
 | n+1,lf+1,r,x,h,h64,hr,hx,hl=>by
  have d_a:decide (((lf+1:Nat):Int)>0)=true:=by simp<;>omega
  by_cases h0:r=0
  · subst h0
    obtain⟨x1,hx1,e1⟩:=pk_mid w (x++[0]) yt (by simp;omega) 8 v ((lf+1:Nat):Int) yp yp yp yp l i (.b 3:: .c (.loop nj):: .b 2::K)
    rw[zo,List.length_singleton] at hx1;rw[show(8:Int)-min ((lf+1:Nat):Int) 8=((8-min (lf+1) 8:Nat):Int) by omega,show((lf+1:Nat):Int)-min ((lf+1:Nat):Int) 8=((lf+1-min (lf+1) 8:Nat):Int) by omega] at e1
    have hne:x1≠[]:=by intro e;rw[e] at hx1;simp at hx1
    obtain⟨x2,r2,h1,h2,h3,e2⟩:=pk_in w l i v K n (lf+1-min (lf+1) 8) (8-min (lf+1) 8) x1 yp yp yp (fun _=>hne) yp
    refine⟨x2,r2,⟨by omega,by omega⟩,h2,h3,Eq.trans ?_ (e1.trans (Eq.trans ?_ e2))⟩
    · by_cases hz:x=[]
      · subst hz
        rw[go_loop];simp(disch:=first|exact yo|fail) only[go_sem,X_ax,pkE,u64s,List.map_nil,List.nil_append,am,d_a,zB,List.map_cons,Int.natCast_zero]
      · rw[ah hz,go_loop]
        simp(disch:=first|exact yo|fail) only[go_sem,X_ax,pkE,u64s,d_a,zB,List.map_append,List.map_cons,List.map_nil]
    · rw[ah hne]
      simp(disch:=first|exact yo|fail) only[go_sem,X_ax,pkE]
  · have hz:=hx yp
    obtain⟨x1,hx1,e1⟩:=pk_mid w x hz yp (r:Int) v ((lf+1:Nat):Int) yp yp yp yp l i (.b 3:: .c (.loop nj):: .b 2::K);rw[show(r:Int)-min ((lf+1:Nat):Int) (r:Int)=((r-min (lf+1) r:Nat):Int) by omega,show((lf+1:Nat):Int)-min ((lf+1:Nat):Int) (r:Int)=((lf+1-min (lf+1) r:Nat):Int) by omega] at e1
    have hne:x1≠[]:=by
      intro e;rw[e] at hx1;exact hz (z8 hx1.symm)
    obtain⟨x2,r2,h1,h2,h3,e2⟩:=pk_in w l i v K n (lf+1-min (lf+1) r) (r-min (lf+1) r) x1 yp yp yp (fun _=>hne) yp
    refine⟨x2,r2,⟨by omega,by omega⟩,h2,h3,Eq.trans ?_ (e1.trans (Eq.trans ?_ e2))⟩
    · have er:((r:Int)==0)=false:=by simp;omega
      rw[ah hz,go_loop];simp(disch:=first|exact yo|fail) only[go_sem,X_ax,pkE,u64s,d_a,er]
    · rw[ah hne]
      simp(disch:=first|exact yo|fail) only[go_sem,X_ax,pkE]
abbrev poE (w:Int) (o:V) (r:Int) (l:List Nat) (i:Nat):List (Nat×V):=[(2,.d (.int .i64 (w))),(7,o),(8,.d (.int .i64 (r))),(23,.d (u64s l)),(24,.d (.int .i64 ((l.length:Int)))),(25,.d (.int .i64 ((i:Int))))]
theorem pk_out (w:Nat) (hw:w≤64) (l:List Nat) (hn:l.length≤10000):∀ (q:List Nat) (i r:Nat) (x:List UInt8),l.drop i=q→i≤l.length→r≤8→(0<r→x≠[])→x.length+64*q.length≤8000000→
  ∃ x':List UInt8,(x.length≤x'.length∧x'.length≤x.length+64*q.length)∧go X_ax [.c (.loop xa),.b 0,.c (.seq u6 .ret)] ⟨poE w (ownB x) r l i,[]⟩=some (ownB x',[])
 | [],i,r,x,hq,hi,hr,hx,hl=>by
  have:=cf hq;have:i=l.length:=yp;subst this;have d_a:decide ((l.length:Int)<l.length)=false:=by simp<;>omega
  refine⟨x,⟨y7 _,by omega⟩,?_⟩
  rw[go_loop];by_cases hz:x=[]
  · subst hz
    simp(disch:=first|exact yo|fail) only[go_sem,X_ax,poE,u64s,am,d_a]
  · rw[ah hz]
    simp(disch:=first|exact yo|fail) only[go_sem,X_ax,poE,u64s,d_a]
 | v::q,i,r,x,hq,hi,hr,hx,hl=>by
  obtain⟨h1,h2,h3⟩:=da hq;have d_a:decide ((i:Int)<l.length)=true:=by simp<;>omega
  rw[List.length_cons] at hl;obtain⟨x1,r1,g1,g2,g3,e1⟩:=pk_in w l i (v:Int) (.b 1:: .c u7:: .c (.loop xa):: .b 0:: .c (.seq u6 .ret)::[]) w w r x (y7 _) hw hr hx yp;obtain⟨x2,k1,e2⟩:=pk_out w hw l hn q (i+1) r1 x1 h3 h1 g2 g3 yp;refine⟨x2,⟨by omega,by rw[List.length_cons];omega⟩,Eq.trans ?_ (e1.trans (Eq.trans ?_ e2))⟩
  · rw[go_loop]
    simp(disch:=first|exact yo|fail) only[go_sem,X_ax,poE,pkE,u64s,d_a,h2,fg]
  · simp(disch:=first|exact yo|fail) only[go_sem,X_ax,poE,pkE,u64s,fg,List.cons_append,List.nil_append,Int.natCast_add]
theorem aub {b:List UInt8} (hb:b.length≤900000) (l:List Nat) (hn:l.length≤10000) (w:Nat) (hw:w≤64):∃ x:List UInt8,(b.length≤x.length∧x.length≤b.length+64*l.length)∧evL cfg n_ax 0 [.d (.sl ((b).map byteD)),.d (u64s l),.d (.int .i64 ((w:Int)))] []=some (ownB x,[]):=by
 obtain⟨x,h1,h2⟩:=pk_out w hw l hn l 0 0 b rfl (aad _) yp yp yp;refine⟨x,h1,?_⟩;have d_a:decide ((w:Int)<0)=false:=by simp<;>omega
 have d_c:decide ((w:Int)>64)=false:=by simp<;>omega
 rw[o_ax,← h2];by_cases hz:b=[]
 · subst hz
   have hc:=jv;simp(disch:=first|exact yo|fail) only[go_sem,X_ax,c_ax,hc,d_a,d_c,poE,u64s,am,Int.natCast_zero]
 · have hc:=kf hz yp
   rw[ah hz];simp(disch:=first|exact yo|fail) only[go_sem,X_ax,c_ax,hc,d_a,d_c,poE,u64s,Int.natCast_zero]
