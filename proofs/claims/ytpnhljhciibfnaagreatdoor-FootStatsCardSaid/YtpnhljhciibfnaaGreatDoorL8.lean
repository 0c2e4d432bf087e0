import Derived.Test.YtpnhljhciibfnaaGreatDoorL7
import Derived.OpenShut
namespace Go.Ev
open Go
def inI (n:Int):Prop:= -9223372036854775808≤n∧n<9223372036854775808
instance (n:Int):Decidable (inI n):=by unfold inI;infer_instance
theorem tdp {a k:Int} (h:0≤a):a.tdiv k=a / k:=Int.tdiv_eq_ediv_of_nonneg h
theorem tmp {a k:Int} (h:0≤a):a.tmod k=a % k:=Int.tmod_eq_emod_of_nonneg h
def As (v:Int):Nat:=if v<0 then(-2*v-1).toNat else(2*v).toNat
def CG (u:Nat):Int:=if u % 2=1 then -((u / 2:Nat):Int)-1 else((u / 2:Nat):Int)
theorem fh (v:Int):CG (As v)=v:=by
 unfold CG As;split<;>split<;>omega
theorem v7 {v:Int} (h:inI v):As v<18446744073709551616:=by
 unfold As inI at *;split<;>omega
theorem dW {u:Nat} (h:u<18446744073709551616):inI (CG u):=by
 unfold CG inI;split<;>omega
theorem US {v:Int} (h:inI v):GD .u64 (GJ .u64 (IntKind.u64.wrap v) 1) (IntKind.u64.wrap (GI .i64 v 63))=As v:=by
 unfold inI at h;have hs:=bhu .i64 v 63 aa4;rw[show((63:Nat):Int)=63 from rfl] at hs
 rw[hs];by_cases c:v<0
 · have e1:v / 2 ^ 63= -1:=aa1
   have e2:IntKind.u64.wrap (-1)=18446744073709551615:=aa4;have hsl:=Hu (k:= .u64) rfl (v+18446744073709551616).toNat (n:=1) aa4;rw[show(((v+18446744073709551616).toNat:Nat):Int)=v+18446744073709551616 by omega,show((1:Nat):Int)=1 from rfl] at hsl
   rw[e1,e2,j7 aa1 c,hsl,UU (by have:=Nat.mod_lt ((v+18446744073709551616).toNat*2 ^ 1) (show 0<2 ^ IntKind.u64.bits by decide);simpa[IntKind.bits] using this)]
   unfold As;rw[if_pos c];simp only[IntKind.bits];omega
 · have e1:v / 2 ^ 63=0:=aa1
   have hsl:=Hu (k:= .u64) rfl v.toNat (n:=1) aa4;rw[show((v.toNat:Nat):Int)=v by omega,show((1:Nat):Int)=1 from rfl] at hsl
   rw[e1,jh aa1 aa1,hsl,jh aa1 aa1,xor_zero]
   · unfold As
     rw[if_neg c];simp only[IntKind.bits];omega
   · simp only[IntKind.bits]
     rw[vc];omega
theorem and_one (u:Nat) (h:u<18446744073709551616):G5 .u64 (u:Int) 1=((u % 2:Nat):Int):=by
 have:=oD (k:= .u64) rfl (a:=u) (b:=1) h;rw[show((1:Nat):Int)=1 from rfl] at this
 rw[this,Nat.and_one_is_mod]
theorem bht (u:Nat):GI .u64 (u:Int) 1=((u / 2:Nat):Int):=by
 have:=eG .u64 u (n:=1) aa4;rw[show((1:Nat):Int)=1 from rfl] at this
 rw[this]
theorem UT {u:Nat} (h:u<18446744073709551616):GD .i64 (IntKind.i64.wrap (GI .u64 (u:Int) 1)) (IntKind.i64.wrap (0-IntKind.i64.wrap (G5 .u64 (u:Int) 1)))=CG u:=by
 rw[and_one u h,bht,au (n:=((u / 2:Nat):Int)) aa1 aa1,au (n:=((u % 2:Nat):Int)) aa1 aa1,au aa1 aa1];unfold CG;by_cases c:u % 2=1
 · rw[c,if_pos rfl]
   rw[show(0:Int)-((1:Nat):Int)= -1 from rfl,UW aa1 aa1]
   omega
 · rw[if_neg c,show u % 2=0 by omega]
   rw[show(0:Int)-((0:Nat):Int)=0 from rfl,xor_zero (au aa1 aa1)]
theorem bg4 {v:Int} (h0: -9223372036854775808≤v) (h1:v<0):orI .u64 (GJ .u64 (-v-1) 1) 1=As v:=by
 have hsl:=Hu (k:= .u64) rfl (-v-1).toNat (n:=1) aa4;rw[show(((-v-1).toNat:Nat):Int)= -v-1 by omega,show((1:Nat):Int)=1 from rfl] at hsl
 rw[hsl];simp only[IntKind.bits];have e:(-v-1).toNat*2 ^ 1 % 2 ^ 64=(-v-1).toNat*2 ^ 1:=acv aa1;rw[e];have:=orU (k:= .u64) rfl (a:=(-v-1).toNat*2 ^ 1) (b:=1) (by simp only[IntKind.bits];omega) aa4
 rw[show((1:Nat):Int)=1 from rfl] at this
 rw[this];have e2:(-v-1).toNat*2 ^ 1 ||| 1=1+(-v-1).toNat*2 ^ 1:=by rw[Nat.or_comm];exact wy aa4
 rw[e2];unfold As;rw[if_pos h1];omega
theorem YR {v:Int} (h0:0≤v) (h1:v<9223372036854775808):GJ .u64 v 1=2*v:=by
 have hsl:=Hu (k:= .u64) rfl v.toNat (n:=1) aa4;rw[show((v.toNat:Nat):Int)=v by omega,show((1:Nat):Int)=1 from rfl] at hsl
 rw[hsl];simp only[IntKind.bits];omega
def Ai:Nat→Nat→List UInt8
 |0,_=>[]
 |k+1,u=>if u<128 then[UInt8.ofNat u] else UInt8.ofNat (u % 128+128)::Ai k (u / 128)
theorem bu:∀ (k u:Nat),(Ai k u).length≤k
 |0,_=>abn _
 | k+1,u=>by
  unfold Ai;split
  · simp
  · have:=bu k (u / 128)
    simp;omega
def Ay:Nat→Nat→List UInt8→Nat×Nat×Nat
 |_,_,[]=>(0,0,3)
 | i,v,c::r=>if i=9∧1<c.toNat then(0,0,4) else
  if c.toNat<128 then(v+c.toNat*128 ^ i,i+1,0) else Ay (i+1) (v+(c.toNat-128)*128 ^ i) r
theorem Hs {n:Nat} (h:n<256):(UInt8.ofNat n).toNat=n:=by
 simp[UInt8.toNat_ofNat'];omega
theorem E1 (b:UInt8):b.toNat<256:=b.toNat_lt
theorem aak:∀ (k i v u:Nat) (rest:List UInt8),i+k=9→u<2 ^ (7*k+1)→Ay i v (Ai (k+1) u++rest)=(v+u*128 ^ i,i+(Ai (k+1) u).length,0)
 | 0,i,v,u,rest,hi,hu=>by
  have h1:i=9:=aa1;subst h1;have h2:u<2:=by simpa using hu
  have e:Ai 1 u=[UInt8.ofNat u]:=by simp[Ai];omega
  rw[e];simp only[List.cons_append,List.nil_append,Ay,Hs (n:=u) aa1,List.length_cons,List.length_nil];rw[if_neg aa1,if_pos aa1]
 | k+1,i,v,u,rest,hi,hu=>by
  by_cases h:u<128
  · have e:Ai (k+1+1) u=[UInt8.ofNat u]:=by simp[Ai,h]
    rw[e];simp only[List.cons_append,List.nil_append,Ay,Hs (n:=u) aa1,List.length_cons,List.length_nil];rw[if_neg aa1,if_pos h]
  · have e:Ai (k+1+1) u=UInt8.ofNat (u % 128+128)::Ai (k+1) (u / 128):=by rw[Ai,if_neg h]
    have hu':u / 128<2 ^ (7*k+1):=by
      rw[Nat.div_lt_iff_lt_mul aa4];have:2 ^ (7*(k+1)+1)=2 ^ (7*k+1)*128:=by rw[show 7*(k+1)+1=7*k+1+7 by omega,Nat.pow_add]
      omega
    rw[e];simp only[List.cons_append,Ay,Hs (n:=u % 128+128) aa1];rw[if_neg aa1,if_neg aa1,aak k (i+1) _ (u / 128) rest aa1 hu'];simp only[List.length_cons,Prod.mk.injEq,and_true];constructor
    · rw[Nat.pow_succ,show u % 128+128-128=u % 128 by omega,acy,Nat.mul_comm (128 ^ i) 128,← Nat.mul_assoc,← ab8]
      congr 2
      omega
    · omega
theorem lm {u:Nat} (h:u<18446744073709551616) (rest:List UInt8):Ay 0 0 (Ai 10 u++rest)=(u,(Ai 10 u).length,0):=by
 have:=aak 9 0 0 u rest rfl aa1;simpa using this
theorem s9:∀ (l:List UInt8) (i v:Nat),i≤9→v<128 ^ i→(Ay i v l).1<18446744073709551616∧(Ay i v l).2.1≤i+l.length∧(Ay i v l).2.1≤10∧(Ay i v l).2.2≤4∧((Ay i v l).2.2=0→0<(Ay i v l).2.1)
 | [],i,v,_,_=>by simp[Ay]
 | c::r,i,v,hi,hv=>by
  have hc:=E1 c;have hp:128 ^ i*128=128 ^ (i+1):=(Nat.pow_succ ..).symm;unfold Ay;split
  · simp
  · rename_i h9
    split
    · rename_i hlt
      simp only[List.length_cons];refine⟨?_,by omega,by omega,by omega,by omega⟩
      by_cases h:i=9
      · subst h
        have:c.toNat≤1:=aa1;have h2:c.toNat*128 ^ 9≤1*128 ^ 9:=aby _ this;omega
      · have h2:128 ^ (i+1)≤128 ^ 9:=acw aa4 aa1
        have h3:c.toNat*128 ^ i≤127*128 ^ i:=aby _ aa1;have h4:(128:Nat) ^ 9=9223372036854775808:=aa4;omega
    · rename_i hge
      have hi9:i≤8:=by
        by_cases h:i=9
        · subst h;omega
        · omega
      have h3:(c.toNat-128)*128 ^ i≤127*128 ^ i:=aby _ aa1;obtain⟨g1,g2,g3,g4,g5⟩:=s9 r (i+1) (v+(c.toNat-128)*128 ^ i) aa1 aa1;simp only[List.length_cons];exact⟨g1,by omega,g3,g4,g5⟩
theorem br3 (i:Nat):128 ^ i=2 ^ (7*i):=by rw[Nat.pow_mul]
theorem sj {v x i:Nat} (hv:v<128 ^ i) (hx:i≤8∧x<128∨i=9∧x≤1):orI .u64 (v:Int) (GJ .u64 (x:Int) (7*(i:Int)))=((v+x*128 ^ i:Nat):Int):=by
 have e0:(7*(i:Int))=((7*i:Nat):Int):=aa1;have hlt:x*128 ^ i<2 ^ 64:=by
  rcases hx with⟨h1,h2⟩|⟨rfl,h2⟩
  · have h3:128 ^ i≤128 ^ 8:=acw aa4 h1
    have h4:x*128 ^ i≤127*128 ^ 8:=Nat.mul_le_mul aa1 h3;omega
  · have h4:x*128 ^ 9≤1*128 ^ 9:=aby _ h2
    omega
 have hv2:v<2 ^ 64:=by
  have h3:128 ^ i≤128 ^ 9:=acw aa4 aa1;omega
 rw[e0,Hu (k:= .u64) rfl x (by simp only[IntKind.bits];omega),← br3]
 simp only[IntKind.bits];rw[acv hlt,orU (k:= .u64) rfl hv2 hlt];rw[br3,wy (by rw[← br3];exact hv)]
theorem bfs (c:UInt8):aad .u8 (c.toNat:Int) 128=((c.toNat % 128:Nat):Int):=by
 have:∀ n:Fin 256,aad .u8 (n.val:Int) 128=((n.val % 128:Nat):Int):=by decide +kernel
 exact this ⟨c.toNat,E1 c⟩
theorem X2 (c:UInt8):G5 .u8 (c.toNat:Int) 127=((c.toNat % 128:Nat):Int):=by
 have:∀ n:Fin 256,G5 .u8 (n.val:Int) 127=((n.val % 128:Nat):Int):=by decide +kernel
 exact this ⟨c.toNat,E1 c⟩
theorem br1 (u:Nat):orI .u8 (((u % 256:Nat)):Int) 128=((u % 128+128:Nat):Int):=by
 have:∀ n:Fin 256,orI .u8 (n.val:Int) 128=((n.val % 128+128:Nat):Int):=by decide +kernel
 have h:=this ⟨u % 256,Nat.mod_lt _ aa4⟩;simpa using h
theorem br0 {u:Nat} (h:u<18446744073709551616):IntKind.u8.wrap (orI .u64 (G5 .u64 (u:Int) 127) 128)=((u % 128+128:Nat):Int):=by
 have h1:=oD (k:= .u64) rfl (a:=u) (b:=127) h;rw[show((127:Nat):Int)=127 from rfl] at h1
 have h2:u &&& 127=u % 128:=bfq u 7;have h3:=orU (k:= .u64) rfl (a:=u % 128) (b:=128) (by simp only[IntKind.bits];omega) aa4
 rw[show((128:Nat):Int)=128 from rfl] at h3
 have h4:u % 128 ||| 128=u % 128+128:=by
  have:=wy (a:=u % 128) (b:=1) (n:=7) aa1;simpa using this
 rw[h1,h2,h3,h4,Gf];omega
theorem av (b:UInt8):AM b= .int .u8 b.toNat:=rfl
theorem an1 (l:List UInt8):D.Co (l.map AM)=true:=by
 induction l with
 |nil=>rfl
 |cons b l ih=>simp[D.Co,D.plain,AM,ih]
attribute [go_sem] an1
@[go_sem] theorem dQ (l:List UInt8):di (l.map AM)=some l:=by
 induction l with
 |nil=>rfl
 | cons b l ih=>
  simp only[List.map_cons,av,apg,ih,Option.map_some]
  congr 2
  simp
theorem fu {n:Nat} (h:n<256):AM (UInt8.ofNat n)= .int .u8 (n:Int):=by rw[av,Hs h]
theorem o7 (u:Nat):GI .u64 (u:Int) 7=((u / 128:Nat):Int):=by
 have:=eG .u64 u (n:=7) aa4;rw[show((7:Nat):Int)=7 from rfl] at this
 rw[this]
def mulM (a b:Int):Int×Bool:=if inI (a*b) then(a*b,true) else(0,false)
def DW (a b:Int):Int×Bool:=if inI (a+b) then(a+b,true) else(0,false)
theorem X1 {x y:Int} (h:0≤x∧x<18446744073709551616∧0≤y∧y<18446744073709551616):
 sz [D.int .u64 x,D.int .u64 y]=some (.d (.tup [.int .u64 (x*y / 18446744073709551616),.int .u64 (x*y % 18446744073709551616)])):=if_pos h
theorem mul_div (x y:Nat):(x:Int)*(y:Int) / 18446744073709551616=((x*y / 18446744073709551616:Nat):Int):=by rw[← Int.natCast_mul];omega
theorem mul_mod (x y:Nat):(x:Int)*(y:Int) % 18446744073709551616=((x*y % 18446744073709551616:Nat):Int):=by rw[← Int.natCast_mul];omega
theorem V8 {x y:Nat} (hx:x<18446744073709551616) (hy:y<18446744073709551616):
  sz [D.int .u64 (x:Int),D.int .u64 (y:Int)]=some (.d (.tup [.int .u64 ((x*y / 18446744073709551616:Nat):Int),.int .u64 ((x*y % 18446744073709551616:Nat):Int)])):=by
 rw[X1 aa1,mul_div,mul_mod]
theorem beo (a b:Int):((a<0↔b<0)→a*b=((a.natAbs*b.natAbs:Nat):Int))∧(¬ (a<0↔b<0)→a*b= -((a.natAbs*b.natAbs:Nat):Int)):=by
 have h:∀ p q:Nat,((p:Int)*(q:Int))=((p*q:Nat):Int):=fun p q=>(Int.natCast_mul p q).symm
 by_cases ha:a<0<;>by_cases hb:b<0
 · refine⟨fun _=> ?_,fun c=>absurd (by simp[ha,hb]) c⟩
   rw[← h,show(a.natAbs:Int)= -a by omega,show(b.natAbs:Int)= -b by omega,Int.neg_mul_neg]
 · refine⟨fun c=>absurd (c.1 ha) hb,fun _=> ?_⟩
   rw[← h,show(a.natAbs:Int)= -a by omega,show(b.natAbs:Int)=b by omega,Int.neg_mul,Int.neg_neg]
 · refine⟨fun c=>absurd (c.2 hb) ha,fun _=> ?_⟩
   rw[← h,show(a.natAbs:Int)=a by omega,show(b.natAbs:Int)= -b by omega,Int.mul_neg,Int.neg_neg]
 · refine⟨fun _=> ?_,fun c=>absurd (by simp[ha,hb]) c⟩
   rw[← h,show(a.natAbs:Int)=a by omega,show(b.natAbs:Int)=b by omega]
theorem V7 (a b:Int):a≠0→b≠0→(a.natAbs*b.natAbs<9223372036854775808→mulM a b=(if(decide (a<0)==decide (b<0))=true then((a.natAbs*b.natAbs:Nat):Int) else -((a.natAbs*b.natAbs:Nat):Int),true))∧
   (a.natAbs*b.natAbs=9223372036854775808→mulM a b=(if(decide (a<0)==decide (b<0))=true then(0,false) else(-((a.natAbs*b.natAbs:Nat):Int),true)))∧
   (9223372036854775808<a.natAbs*b.natAbs→mulM a b=(0,false)):=by
 intro _ _;obtain⟨h1,h2⟩:=beo a b;unfold mulM inI;generalize a.natAbs*b.natAbs=m at *;by_cases c:(a<0↔b<0)
 · have e:=h1 c
   have d:(decide (a<0)==decide (b<0))=true:=by simp[c]
   rw[e,d];simp only[if_true];refine⟨fun h=>if_pos aa1,fun h=>if_neg aa1,fun h=>if_neg aa1⟩
 · have e:=h2 c
   have d:(decide (a<0)==decide (b<0))=false:=by
    by_cases p:a<0<;>by_cases q:b<0<;>simp[p,q] at c ⊢
   rw[e,d];simp only[aa8,if_false];refine⟨fun h=>if_pos aa1,fun h=>if_pos aa1,fun h=>if_neg aa1⟩
theorem V6 (a b:Int):a.natAbs≠0→((a<0↔b<0)→(b.natAbs>9223372036854775807 / a.natAbs→mulM a b=(0,false))∧(¬ b.natAbs>9223372036854775807 / a.natAbs→mulM a b=(a*b,true)∧inI (a*b)))∧
   (¬ (a<0↔b<0)→(b.natAbs>9223372036854775808 / a.natAbs→mulM a b=(0,false))∧(¬ b.natAbs>9223372036854775808 / a.natAbs→mulM a b=(a*b,true)∧inI (a*b))):=by
 intro ha;obtain⟨h1,h2⟩:=beo a b;have k:∀ top,b.natAbs>top / a.natAbs↔top<a.natAbs*b.natAbs:=fun top=>by
   rw[Nat.mul_comm];exact Nat.div_lt_iff_lt_mul aa1
 rw[k,k];unfold mulM inI;generalize a.natAbs*b.natAbs=m at *;refine⟨fun c=> ?_,fun c=> ?_⟩
 · rw[h1 c]
   exact⟨fun h=>if_neg aa1,fun h=>⟨if_pos aa1,by omega⟩⟩
 · rw[h2 c]
   exact⟨fun h=>if_neg aa1,fun h=>⟨if_pos aa1,by omega⟩⟩
end Go.Ev
namespace Go.Ev
open Go Go.RowKit
def mkD:List D→D
 | [x]=>x
 |xs=> .agg xs
variable {P:Program} {W:World} {H:Type} {enc:TypeId×Value→H} {base:Nat} {spare:Nat→Bool} {held:Bool} {t e:TypeId} {v:Value} {x:DataW H×List MemPlace}
theorem U5 {G:List D→Prop} {fuel:Nat} (hI:IsF P W fuel t G) (hf:DataW.trod enc P W base spare held fuel t v.cells.toList=some x) (hv:v.cells.toList=[v]) (hG:∀ xs,G xs→∃ d,xs=[d]):∃ d,G [d]∧Rd DD W v d:=by
 obtain⟨xs,⟨q1,q2,q3⟩,hg⟩:=hI H enc base spare held _ _ hf;obtain⟨d,rfl⟩:=hG xs hg;exact⟨d,hg,q3 0 v d (by rw[hv];rfl) rfl⟩
theorem bh1 {k:IntKind} (ht:P.underlying t=some (.slice e)) (he:P.underlying e=some (.int k)) (hz:P.cellsOf e=1) (hv:v.cells.toList=[v]) (h:∃ fuel,DataW.trod enc P W base spare held fuel t v.cells.toList=some x):
  ∃ l:List Int,l.length≤maxLen∧(∀ n∈l,(Lit.int k n).wf=true)∧Rd DD W v (.sl (l.map (D.int k))):=by
 obtain⟨fuel,hf⟩:=h;obtain⟨d,⟨es,hd,hlen,hes⟩,hr⟩:=U5 (IsF.slice ht aa1 (fun m _=>IsF.int he) mkD (fun xs hx _=>by obtain⟨m,rfl,_⟩:=hx;rfl)) hf hv (fun xs hx=>by obtain⟨es,rfl,_⟩:=hx;exact⟨_,rfl⟩)
 cases hd;have key:∀ es:List D,(∀ d∈es,∃ ys,(∃ m,ys=[D.int k m]∧(Lit.int k m).wf=true)∧ys.length=P.cellsOf e∧d=mkD ys)→∃ l:List Int,es=l.map (D.int k)∧∀ n∈l,(Lit.int k n).wf=true:=by
  intro es
  induction es with
  |nil=>exact fun _=>⟨[],rfl,by simp⟩
  | cons d es ih=>
   intro h;obtain⟨ys,⟨m,rfl,hw⟩,_,rfl⟩:=h d aa3;obtain⟨l,rfl,hl⟩:=ih (fun d hd=>h d (by simp[hd]))
   refine⟨m::l,rfl,fun n hn=> ?_⟩
   rcases abr.1 hn with rfl|hn
   · exact hw
   · exact hl n hn
 obtain⟨l,rfl,hl⟩:=key es hes;exact⟨l,by simpa using hlen,hl,hr⟩
theorem bf6 (ht:P.underlying t=some (.slice e)) (he:P.underlying e=some (.int .u8)) (hz:P.cellsOf e=1) (hv:v.cells.toList=[v]) (h:∃ fuel,DataW.trod enc P W base spare held fuel t v.cells.toList=some x):
  ∃ l:List UInt8,l.length≤maxLen∧Rd DD W v (.sl (l.map AM)):=by
 obtain⟨l,h1,h2,h3⟩:=bh1 ht he hz hv h;refine⟨l.map fun n=>UInt8.ofNat n.toNat,by simpa using h1,?_⟩
 have:(l.map fun n=>UInt8.ofNat n.toNat).map AM=l.map (D.int .u8):=by
  rw[List.map_map];refine List.map_congr_left fun n hn=> ?_
  have hw:=h2 n hn;simp[Lit.wf,IntKind.min,IntKind.max,IntKind.signed,IntKind.bits] at hw;show AM (UInt8.ofNat n.toNat)=_;rw[fu aa1]
  congr 1
  omega
 rw[this];exact h3
