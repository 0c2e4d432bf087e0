import Derived.Test.YtlcnfnjdelmkdaaGreatDoorL7
import Derived.OpenShut
namespace Go.Ev
open Go
def inI (n:Int):Prop:= -9223372036854775808≤n∧n<9223372036854775808
instance (n:Int):Decidable (inI n):=by unfold inI;infer_instance
theorem tdp {a k:Int} (h:0≤a):a.tdiv k=a / k:=Int.tdiv_eq_ediv_of_nonneg h
theorem tmp {a k:Int} (h:0≤a):a.tmod k=a % k:=Int.tmod_eq_emod_of_nonneg h
def zagI (u:Nat):Int:=if u % 2=1 then -((u / 2:Nat):Int)-1 else((u / 2:Nat):Int)
theorem zag_in {u:Nat} (h:u<18446744073709551616):inI (zagI u):=by
 unfold zagI inI;split<;>omega
theorem and_one (u:Nat) (h:u<18446744073709551616):andI .u64 (u:Int) 1=((u % 2:Nat):Int):=by
 have:=andU (k:= .u64) rfl (a:=u) (b:=1) h;rw[show((1:Nat):Int)=1 from rfl] at this
 rw[this,Nat.and_one_is_mod]
theorem bhp (u:Nat):shrI .u64 (u:Int) 1=((u / 2:Nat):Int):=by
 have:=shrU .u64 u (n:=1) ze;rw[show((1:Nat):Int)=1 from rfl] at this
 rw[this]
theorem zag_bits {u:Nat} (h:u<18446744073709551616):xorI .i64 (IntKind.i64.wrap (shrI .u64 (u:Int) 1)) (IntKind.i64.wrap (0-IntKind.i64.wrap (andI .u64 (u:Int) 1)))=zagI u:=by
 rw[and_one u h,bhp,az (n:=((u / 2:Nat):Int)) y8 y8,az (n:=((u % 2:Nat):Int)) y8 y8,az y8 y8];unfold zagI;by_cases c:u % 2=1
 · rw[c,if_pos rfl]
   rw[show(0:Int)-((1:Nat):Int)= -1 from rfl,xor_neg1 y8 y8]
   omega
 · rw[if_neg c,show u % 2=0 by omega]
   rw[show(0:Int)-((0:Nat):Int)=0 from rfl,xor_zero (az y8 y8)]
def varB:Nat→Nat→List UInt8
 |0,_=>[]
 |k+1,u=>if u<128 then[UInt8.ofNat u] else UInt8.ofNat (u % 128+128)::varB k (u / 128)
theorem cq:∀ (k u:Nat),(varB k u).length≤k
 |0,_=>z8 _
 | k+1,u=>by
  unfold varB;split
  · simp
  · have:=cq k (u / 128)
    simp;omega
def varM:Nat→Nat→List UInt8→Nat×Nat×Nat
 |_,_,[]=>(0,0,3)
 | i,v,c::r=>if i=9∧1<c.toNat then(0,0,4) else
  if c.toNat<128 then(v+c.toNat*128 ^ i,i+1,0) else varM (i+1) (v+(c.toNat-128)*128 ^ i) r
theorem u8_of {n:Nat} (h:n<256):(UInt8.ofNat n).toNat=n:=by
 simp[UInt8.toNat_ofNat'];omega
theorem u8_lt (b:UInt8):b.toNat<256:=b.toNat_lt
theorem yi:∀ (k i v u:Nat) (rest:List UInt8),i+k=9→u<2 ^ (7*k+1)→varM i v (varB (k+1) u++rest)=(v+u*128 ^ i,i+(varB (k+1) u).length,0)
 | 0,i,v,u,rest,hi,hu=>by
  have h1:i=9:=y8;subst h1;have h2:u<2:=by simpa using hu
  have e:varB 1 u=[UInt8.ofNat u]:=by simp[varB];omega
  rw[e];simp only[List.cons_append,List.nil_append,varM,u8_of (n:=u) y8,List.length_cons,List.length_nil];rw[if_neg y8,if_pos y8]
 | k+1,i,v,u,rest,hi,hu=>by
  by_cases h:u<128
  · have e:varB (k+1+1) u=[UInt8.ofNat u]:=by simp[varB,h]
    rw[e];simp only[List.cons_append,List.nil_append,varM,u8_of (n:=u) y8,List.length_cons,List.length_nil];rw[if_neg y8,if_pos h]
  · have e:varB (k+1+1) u=UInt8.ofNat (u % 128+128)::varB (k+1) (u / 128):=by rw[varB,if_neg h]
    have hu':u / 128<2 ^ (7*k+1):=by
      rw[Nat.div_lt_iff_lt_mul ze];have:2 ^ (7*(k+1)+1)=2 ^ (7*k+1)*128:=by rw[show 7*(k+1)+1=7*k+1+7 by omega,Nat.pow_add]
      omega
    rw[e];simp only[List.cons_append,varM,u8_of (n:=u % 128+128) y8];rw[if_neg y8,if_neg y8,yi k (i+1) _ (u / 128) rest y8 hu'];simp only[List.length_cons,Prod.mk.injEq,and_true];constructor
    · rw[Nat.pow_succ,show u % 128+128-128=u % 128 by omega,Nat.add_assoc,Nat.mul_comm (128 ^ i) 128,← Nat.mul_assoc,← aar]
      congr 2
      omega
    · omega
theorem nk {u:Nat} (h:u<18446744073709551616) (rest:List UInt8):varM 0 0 (varB 10 u++rest)=(u,(varB 10 u).length,0):=by
 have:=yi 9 0 0 u rest rfl y8;simpa using this
theorem rc:∀ (l:List UInt8) (i v:Nat),i≤9→v<128 ^ i→(varM i v l).1<18446744073709551616∧(varM i v l).2.1≤i+l.length∧(varM i v l).2.1≤10∧(varM i v l).2.2≤4∧((varM i v l).2.2=0→0<(varM i v l).2.1)
 | [],i,v,_,_=>by simp[varM]
 | c::r,i,v,hi,hv=>by
  have hc:=u8_lt c;have hp:128 ^ i*128=128 ^ (i+1):=(Nat.pow_succ ..).symm;unfold varM;split
  · simp
  · rename_i h9
    split
    · rename_i hlt
      simp only[List.length_cons];refine⟨?_,by omega,by omega,by omega,by omega⟩
      by_cases h:i=9
      · subst h
        have:c.toNat≤1:=y8;have h2:c.toNat*128 ^ 9≤1*128 ^ 9:=aaf _ this;omega
      · have h2:128 ^ (i+1)≤128 ^ 9:=abc ze y8
        have h3:c.toNat*128 ^ i≤127*128 ^ i:=aaf _ y8;have h4:(128:Nat) ^ 9=9223372036854775808:=ze;omega
    · rename_i hge
      have hi9:i≤8:=by
        by_cases h:i=9
        · subst h;omega
        · omega
      have h3:(c.toNat-128)*128 ^ i≤127*128 ^ i:=aaf _ y8;obtain⟨g1,g2,g3,g4,g5⟩:=rc r (i+1) (v+(c.toNat-128)*128 ^ i) y8 y8;simp only[List.length_cons];exact⟨g1,by omega,g3,g4,g5⟩
theorem br1 (i:Nat):128 ^ i=2 ^ (7*i):=by rw[Nat.pow_mul]
theorem qw {v x i:Nat} (hv:v<128 ^ i) (hx:i≤8∧x<128∨i=9∧x≤1):orI .u64 (v:Int) (shlI .u64 (x:Int) (7*(i:Int)))=((v+x*128 ^ i:Nat):Int):=by
 have e0:(7*(i:Int))=((7*i:Nat):Int):=y8;have hlt:x*128 ^ i<2 ^ 64:=by
  rcases hx with⟨h1,h2⟩|⟨rfl,h2⟩
  · have h3:128 ^ i≤128 ^ 8:=abc ze h1
    have h4:x*128 ^ i≤127*128 ^ 8:=Nat.mul_le_mul y8 h3;omega
  · have h4:x*128 ^ 9≤1*128 ^ 9:=aaf _ h2
    omega
 have hv2:v<2 ^ 64:=by
  have h3:128 ^ i≤128 ^ 9:=abc ze y8;omega
 rw[e0,shlU (k:= .u64) rfl x (by simp only[IntKind.bits];omega),← br1]
 simp only[IntKind.bits];rw[abg hlt,orU (k:= .u64) rfl hv2 hlt];rw[br1,amt (by rw[← br1];exact hv)]
theorem bfc (c:UInt8):x9 .u8 (c.toNat:Int) 128=((c.toNat % 128:Nat):Int):=by
 have:∀ n:Fin 256,x9 .u8 (n.val:Int) 128=((n.val % 128:Nat):Int):=by decide +kernel
 exact this ⟨c.toNat,u8_lt c⟩
theorem var_and (c:UInt8):andI .u8 (c.toNat:Int) 127=((c.toNat % 128:Nat):Int):=by
 have:∀ n:Fin 256,andI .u8 (n.val:Int) 127=((n.val % 128:Nat):Int):=by decide +kernel
 exact this ⟨c.toNat,u8_lt c⟩
theorem brz (u:Nat):orI .u8 (((u % 256:Nat)):Int) 128=((u % 128+128:Nat):Int):=by
 have:∀ n:Fin 256,orI .u8 (n.val:Int) 128=((n.val % 128+128:Nat):Int):=by decide +kernel
 have h:=this ⟨u % 256,Nat.mod_lt _ ze⟩;simpa using h
theorem bry {u:Nat} (h:u<18446744073709551616):IntKind.u8.wrap (orI .u64 (andI .u64 (u:Int) 127) 128)=((u % 128+128:Nat):Int):=by
 have h1:=andU (k:= .u64) rfl (a:=u) (b:=127) h;rw[show((127:Nat):Int)=127 from rfl] at h1
 have h2:u &&& 127=u % 128:=bfb u 7;have h3:=orU (k:= .u64) rfl (a:=u % 128) (b:=128) (by simp only[IntKind.bits];omega) ze
 rw[show((128:Nat):Int)=128 from rfl] at h3
 have h4:u % 128 ||| 128=u % 128+128:=by
  have:=amt (a:=u % 128) (b:=1) (n:=7) y8;simpa using this
 rw[h1,h2,h3,h4,cv_u8];omega
theorem aw (b:UInt8):byteD b= .int .u8 b.toNat:=rfl
theorem aml (l:List UInt8):D.plains (l.map byteD)=true:=by
 induction l with
 |nil=>rfl
 |cons b l ih=>simp[D.plains,D.plain,byteD,ih]
attribute [go_sem] aml
@[go_sem] theorem bytesOf_map (l:List UInt8):dh (l.map byteD)=some l:=by
 induction l with
 |nil=>rfl
 | cons b l ih=>
  simp only[List.map_cons,aw,an2,ih,Option.map_some]
  congr 2
  simp
theorem ga {n:Nat} (h:n<256):byteD (UInt8.ofNat n)= .int .u8 (n:Int):=by rw[aw,u8_of h]
theorem nv (u:Nat):shrI .u64 (u:Int) 7=((u / 128:Nat):Int):=by
 have:=shrU .u64 u (n:=7) ze;rw[show((7:Nat):Int)=7 from rfl] at this
 rw[this]
def mulM (a b:Int):Int×Bool:=if inI (a*b) then(a*b,true) else(0,false)
def addM (a b:Int):Int×Bool:=if inI (a+b) then(a+b,true) else(0,false)
theorem xMul_at {x y:Int} (h:0≤x∧x<18446744073709551616∧0≤y∧y<18446744073709551616):
 q9 [D.int .u64 x,D.int .u64 y]=some (.d (.tup [.int .u64 (x*y / 18446744073709551616),.int .u64 (x*y % 18446744073709551616)])):=if_pos h
theorem mul_div (x y:Nat):(x:Int)*(y:Int) / 18446744073709551616=((x*y / 18446744073709551616:Nat):Int):=by rw[← Int.natCast_mul];omega
theorem mul_mod (x y:Nat):(x:Int)*(y:Int) % 18446744073709551616=((x*y % 18446744073709551616:Nat):Int):=by rw[← Int.natCast_mul];omega
theorem mul64_at {x y:Nat} (hx:x<18446744073709551616) (hy:y<18446744073709551616):
  q9 [D.int .u64 (x:Int),D.int .u64 (y:Int)]=some (.d (.tup [.int .u64 ((x*y / 18446744073709551616:Nat):Int),.int .u64 ((x*y % 18446744073709551616:Nat):Int)])):=by
 rw[xMul_at y8,mul_div,mul_mod]
theorem bej (a b:Int):((a<0↔b<0)→a*b=((a.natAbs*b.natAbs:Nat):Int))∧(¬ (a<0↔b<0)→a*b= -((a.natAbs*b.natAbs:Nat):Int)):=by
 have h:∀ p q:Nat,((p:Int)*(q:Int))=((p*q:Nat):Int):=fun p q=>(Int.natCast_mul p q).symm
 by_cases ha:a<0<;>by_cases hb:b<0
 · refine⟨fun _=> ?_,fun c=>absurd (by simp[ha,hb]) c⟩
   rw[← h,show(a.natAbs:Int)= -a by omega,show(b.natAbs:Int)= -b by omega,Int.neg_mul_neg]
 · refine⟨fun c=>absurd (c.1 ha) hb,fun _=> ?_⟩
   rw[← h,show(a.natAbs:Int)= -a by omega,show(b.natAbs:Int)=b by omega,Int.neg_mul,Int.neg_neg]
 · refine⟨fun c=>absurd (c.2 hb) ha,fun _=> ?_⟩
   rw[← h,show(a.natAbs:Int)=a by omega,show(b.natAbs:Int)= -b by omega,Int.mul_neg,Int.neg_neg]
 · refine⟨fun _=> ?_,fun c=>absurd (by simp[ha,hb]) c⟩
   rw[← h,show(a.natAbs:Int)=a by omega,show(b.natAbs:Int)=b by omega]
theorem mulM_abs (a b:Int):a≠0→b≠0→(a.natAbs*b.natAbs<9223372036854775808→mulM a b=(if(decide (a<0)==decide (b<0))=true then((a.natAbs*b.natAbs:Nat):Int) else -((a.natAbs*b.natAbs:Nat):Int),true))∧
   (a.natAbs*b.natAbs=9223372036854775808→mulM a b=(if(decide (a<0)==decide (b<0))=true then(0,false) else(-((a.natAbs*b.natAbs:Nat):Int),true)))∧
   (9223372036854775808<a.natAbs*b.natAbs→mulM a b=(0,false)):=by
 intro _ _;obtain⟨h1,h2⟩:=bej a b;unfold mulM inI;generalize a.natAbs*b.natAbs=m at *;by_cases c:(a<0↔b<0)
 · have e:=h1 c
   have d:(decide (a<0)==decide (b<0))=true:=by simp[c]
   rw[e,d];simp only[if_true];refine⟨fun h=>if_pos y8,fun h=>if_neg y8,fun h=>if_neg y8⟩
 · have e:=h2 c
   have d:(decide (a<0)==decide (b<0))=false:=by
    by_cases p:a<0<;>by_cases q:b<0<;>simp[p,q] at c ⊢
   rw[e,d];simp only[zh,if_false];refine⟨fun h=>if_pos y8,fun h=>if_pos y8,fun h=>if_neg y8⟩
theorem mulM_ref (a b:Int):a.natAbs≠0→((a<0↔b<0)→(b.natAbs>9223372036854775807 / a.natAbs→mulM a b=(0,false))∧(¬ b.natAbs>9223372036854775807 / a.natAbs→mulM a b=(a*b,true)∧inI (a*b)))∧
   (¬ (a<0↔b<0)→(b.natAbs>9223372036854775808 / a.natAbs→mulM a b=(0,false))∧(¬ b.natAbs>9223372036854775808 / a.natAbs→mulM a b=(a*b,true)∧inI (a*b))):=by
 intro ha;obtain⟨h1,h2⟩:=bej a b;have k:∀ top,b.natAbs>top / a.natAbs↔top<a.natAbs*b.natAbs:=fun top=>by
   rw[Nat.mul_comm];exact Nat.div_lt_iff_lt_mul y8
 rw[k,k];unfold mulM inI;generalize a.natAbs*b.natAbs=m at *;refine⟨fun c=> ?_,fun c=> ?_⟩
 · rw[h1 c]
   exact⟨fun h=>if_neg y8,fun h=>⟨if_pos y8,by omega⟩⟩
 · rw[h2 c]
   exact⟨fun h=>if_neg y8,fun h=>⟨if_pos y8,by omega⟩⟩
end Go.Ev
namespace Go.Ev
open Go Go.RowKit
def mkD:List D→D
 | [x]=>x
 |xs=> .agg xs
variable {P:Program} {W:World} {H:Type} {enc:TypeId×Value→H} {base:Nat} {spare:Nat→Bool} {held:Bool} {t e:TypeId} {v:Value} {x:DataW H×List MemPlace}
theorem read_one {G:List D→Prop} {fuel:Nat} (hI:IsF P W fuel t G) (hf:DataW.trod enc P W base spare held fuel t v.cells.toList=some x) (hv:v.cells.toList=[v]) (hG:∀ xs,G xs→∃ d,xs=[d]):∃ d,G [d]∧Rd anyB W v d:=by
 obtain⟨xs,⟨q1,q2,q3⟩,hg⟩:=hI H enc base spare held _ _ hf;obtain⟨d,rfl⟩:=hG xs hg;exact⟨d,hg,q3 0 v d (by rw[hv];rfl) rfl⟩
theorem bhy {k:IntKind} (ht:P.underlying t=some (.slice e)) (he:P.underlying e=some (.int k)) (hz:P.cellsOf e=1) (hv:v.cells.toList=[v]) (h:∃ fuel,DataW.trod enc P W base spare held fuel t v.cells.toList=some x):
  ∃ l:List Int,l.length≤maxLen∧(∀ n∈l,(Lit.int k n).wf=true)∧Rd anyB W v (.sl (l.map (D.int k))):=by
 obtain⟨fuel,hf⟩:=h;obtain⟨d,⟨es,hd,hlen,hes⟩,hr⟩:=read_one (IsF.slice ht y8 (fun m _=>IsF.int he) mkD (fun xs hx _=>by obtain⟨m,rfl,_⟩:=hx;rfl)) hf hv (fun xs hx=>by obtain⟨es,rfl,_⟩:=hx;exact⟨_,rfl⟩)
 cases hd;have key:∀ es:List D,(∀ d∈es,∃ ys,(∃ m,ys=[D.int k m]∧(Lit.int k m).wf=true)∧ys.length=P.cellsOf e∧d=mkD ys)→∃ l:List Int,es=l.map (D.int k)∧∀ n∈l,(Lit.int k n).wf=true:=by
  intro es
  induction es with
  |nil=>exact fun _=>⟨[],rfl,by simp⟩
  | cons d es ih=>
   intro h;obtain⟨ys,⟨m,rfl,hw⟩,_,rfl⟩:=h d zb;obtain⟨l,rfl,hl⟩:=ih (fun d hd=>h d (by simp[hd]))
   refine⟨m::l,rfl,fun n hn=> ?_⟩
   rcases aac.1 hn with rfl|hn
   · exact hw
   · exact hl n hn
 obtain⟨l,rfl,hl⟩:=key es hes;exact⟨l,by simpa using hlen,hl,hr⟩
theorem ur (ht:P.underlying t=some (.slice e)) (he:P.underlying e=some (.int .u8)) (hz:P.cellsOf e=1) (hv:v.cells.toList=[v]) (h:∃ fuel,DataW.trod enc P W base spare held fuel t v.cells.toList=some x):
  ∃ l:List UInt8,l.length≤maxLen∧Rd anyB W v (.sl (l.map byteD)):=by
 obtain⟨l,h1,h2,h3⟩:=bhy ht he hz hv h;refine⟨l.map fun n=>UInt8.ofNat n.toNat,by simpa using h1,?_⟩
 have:(l.map fun n=>UInt8.ofNat n.toNat).map byteD=l.map (D.int .u8):=by
  rw[List.map_map];refine List.map_congr_left fun n hn=> ?_
  have hw:=h2 n hn;simp[Lit.wf,IntKind.min,IntKind.max,IntKind.signed,IntKind.bits] at hw;show byteD (UInt8.ofNat n.toNat)=_;rw[ga y8]
  congr 1
  omega
 rw[this];exact h3
