import Derived.Test.YtplmdlobbfcknaaGreatDoorL7
import Derived.OpenShut
namespace Go.Ev
open Go
def inI (n:Int):Prop:= -9223372036854775808≤n∧n<9223372036854775808
instance (n:Int):Decidable (inI n):=by unfold inI;infer_instance
theorem tmp {a k:Int} (h:0≤a):a.tmod k=a % k:=Int.tmod_eq_emod_of_nonneg h
def varB:Nat→Nat→List UInt8
 |0,_=>[]
 |k+1,u=>if u<128 then[UInt8.ofNat u] else UInt8.ofNat (u % 128+128)::varB k (u / 128)
theorem dl:∀ (k u:Nat),(varB k u).length≤k
 |0,_=>yt _
 | k+1,u=>by
  unfold varB;split
  · simp
  · have:=dl k (u / 128)
    simp;omega
def varM:Nat→Nat→List UInt8→Nat×Nat×Nat
 |_,_,[]=>(0,0,3)
 | i,v,c::r=>if i=9∧1<c.toNat then(0,0,4) else
  if c.toNat<128 then(v+c.toNat*128 ^ i,i+1,0) else varM (i+1) (v+(c.toNat-128)*128 ^ i) r
theorem u8_of {n:Nat} (h:n<256):(UInt8.ofNat n).toNat=n:=by
 simp[UInt8.toNat_ofNat'];omega
theorem u8_lt (b:UInt8):b.toNat<256:=b.toNat_lt
theorem xh:∀ (k i v u:Nat) (rest:List UInt8),i+k=9→u<2 ^ (7*k+1)→varM i v (varB (k+1) u++rest)=(v+u*128 ^ i,i+(varB (k+1) u).length,0)
 | 0,i,v,u,rest,hi,hu=>by
  have h1:i=9:=yj;subst h1;have h2:u<2:=by simpa using hu
  have e:varB 1 u=[UInt8.ofNat u]:=by simp[varB];omega
  rw[e];simp only[List.cons_append,List.nil_append,varM,u8_of (n:=u) yj,List.length_cons,List.length_nil];rw[if_neg yj,if_pos yj]
 | k+1,i,v,u,rest,hi,hu=>by
  by_cases h:u<128
  · have e:varB (k+1+1) u=[UInt8.ofNat u]:=by simp[varB,h]
    rw[e];simp only[List.cons_append,List.nil_append,varM,u8_of (n:=u) yj,List.length_cons,List.length_nil];rw[if_neg yj,if_pos h]
  · have e:varB (k+1+1) u=UInt8.ofNat (u % 128+128)::varB (k+1) (u / 128):=by rw[varB,if_neg h]
    have hu':u / 128<2 ^ (7*k+1):=by
      rw[Nat.div_lt_iff_lt_mul ym];have:2 ^ (7*(k+1)+1)=2 ^ (7*k+1)*128:=by rw[show 7*(k+1)+1=7*k+1+7 by omega,Nat.pow_add]
      omega
    rw[e];simp only[List.cons_append,varM,u8_of (n:=u % 128+128) yj];rw[if_neg yj,if_neg yj,xh k (i+1) _ (u / 128) rest yj hu'];simp only[List.length_cons,Prod.mk.injEq,and_true];constructor
    · rw[Nat.pow_succ,show u % 128+128-128=u % 128 by omega,Nat.add_assoc,Nat.mul_comm (128 ^ i) 128,← Nat.mul_assoc,← zh]
      congr 2
      omega
    · omega
theorem me {u:Nat} (h:u<18446744073709551616) (rest:List UInt8):varM 0 0 (varB 10 u++rest)=(u,(varB 10 u).length,0):=by
 have:=xh 9 0 0 u rest rfl yj;simpa using this
theorem ae5:∀ (l:List UInt8) (i v:Nat),i≤9→v<128 ^ i→(varM i v l).1<18446744073709551616∧(varM i v l).2.1≤i+l.length∧(varM i v l).2.1≤10∧(varM i v l).2.2≤4∧((varM i v l).2.2=0→0<(varM i v l).2.1)
 | [],i,v,_,_=>by simp[varM]
 | c::r,i,v,hi,hv=>by
  have hc:=u8_lt c;have hp:128 ^ i*128=128 ^ (i+1):=(Nat.pow_succ ..).symm;unfold varM;split
  · simp
  · rename_i h9
    split
    · rename_i hlt
      simp only[List.length_cons];refine⟨?_,by omega,by omega,by omega,by omega⟩
      by_cases h:i=9
      · subst h
        have:c.toNat≤1:=yj;have h2:c.toNat*128 ^ 9≤1*128 ^ 9:=za _ this;omega
      · have h2:128 ^ (i+1)≤128 ^ 9:=aaq ym yj
        have h3:c.toNat*128 ^ i≤127*128 ^ i:=za _ yj;have h4:(128:Nat) ^ 9=9223372036854775808:=ym;omega
    · rename_i hge
      have hi9:i≤8:=by
        by_cases h:i=9
        · subst h;omega
        · omega
      have h3:(c.toNat-128)*128 ^ i≤127*128 ^ i:=za _ yj;obtain⟨g1,g2,g3,g4,g5⟩:=ae5 r (i+1) (v+(c.toNat-128)*128 ^ i) yj yj;simp only[List.length_cons];exact⟨g1,by omega,g3,g4,g5⟩
theorem azj (i:Nat):128 ^ i=2 ^ (7*i):=by rw[Nat.pow_mul]
theorem air {v x i:Nat} (hv:v<128 ^ i) (hx:i≤8∧x<128∨i=9∧x≤1):orI .u64 (v:Int) (shlI .u64 (x:Int) (7*(i:Int)))=((v+x*128 ^ i:Nat):Int):=by
 have e0:(7*(i:Int))=((7*i:Nat):Int):=yj;have hlt:x*128 ^ i<2 ^ 64:=by
  rcases hx with⟨h1,h2⟩|⟨rfl,h2⟩
  · have h3:128 ^ i≤128 ^ 8:=aaq ym h1
    have h4:x*128 ^ i≤127*128 ^ 8:=Nat.mul_le_mul yj h3;omega
  · have h4:x*128 ^ 9≤1*128 ^ 9:=za _ h2
    omega
 have hv2:v<2 ^ 64:=by
  have h3:128 ^ i≤128 ^ 9:=aaq ym yj;omega
 rw[e0,shlU (k:= .u64) rfl x (by simp only[IntKind.bits];omega),← azj]
 simp only[IntKind.bits];rw[aaf hlt,orU (k:= .u64) rfl hv2 hlt];rw[azj,apg (by rw[← azj];exact hv)]
theorem aqg (c:UInt8):w7 .u8 (c.toNat:Int) 128=((c.toNat % 128:Nat):Int):=by
 have:∀ n:Fin 256,w7 .u8 (n.val:Int) 128=((n.val % 128:Nat):Int):=by decide +kernel
 exact this ⟨c.toNat,u8_lt c⟩
theorem azh {u:Nat} (h:u<18446744073709551616):IntKind.u8.wrap (orI .u64 (andI .u64 (u:Int) 127) 128)=((u % 128+128:Nat):Int):=by
 have h1:=andU (k:= .u64) rfl (a:=u) (b:=127) h;rw[show((127:Nat):Int)=127 from rfl] at h1
 have h2:u &&& 127=u % 128:=aqb u 7;have h3:=orU (k:= .u64) rfl (a:=u % 128) (b:=128) (by simp only[IntKind.bits];omega) ym
 rw[show((128:Nat):Int)=128 from rfl] at h3
 have h4:u % 128 ||| 128=u % 128+128:=by
  have:=apg (a:=u % 128) (b:=1) (n:=7) yj;simpa using this
 rw[h1,h2,h3,h4,cv_u8];omega
theorem jo (b:UInt8):byteD b= .int .u8 b.toNat:=rfl
theorem ade (l:List UInt8):D.plains (l.map byteD)=true:=by
 induction l with
 |nil=>rfl
 |cons b l ih=>simp[D.plains,D.plain,byteD,ih]
attribute [go_sem] ade
@[go_sem] theorem r6 (l:List UInt8):db (l.map byteD)=some l:=by
 induction l with
 |nil=>rfl
 | cons b l ih=>
  simp only[List.map_cons,jo,aes,ih,Option.map_some]
  congr 2
  simp
theorem nf {n:Nat} (h:n<256):byteD (UInt8.ofNat n)= .int .u8 (n:Int):=by rw[jo,u8_of h]
theorem yb (u:Nat):shrI .u64 (u:Int) 7=((u / 128:Nat):Int):=by
 have:=shrU .u64 u (n:=7) ym;rw[show((7:Nat):Int)=7 from rfl] at this
 rw[this]
end Go.Ev
namespace Go.Ev
open Go Go.RowKit
def mkD:List D→D
 | [x]=>x
 |xs=> .agg xs
variable {P:Program} {W:World} {H:Type} {enc:TypeId×Value→H} {base:Nat} {spare:Nat→Bool} {held:Bool} {t e:TypeId} {v:Value} {x:DataW H×List MemPlace}
theorem read_one {G:List D→Prop} {fuel:Nat} (hI:IsF P W fuel t G) (hf:DataW.trod enc P W base spare held fuel t v.cells.toList=some x) (hv:v.cells.toList=[v]) (hG:∀ xs,G xs→∃ d,xs=[d]):∃ d,G [d]∧Rd anyB W v d:=by
 obtain⟨xs,⟨q1,q2,q3⟩,hg⟩:=hI H enc base spare held _ _ hf;obtain⟨d,rfl⟩:=hG xs hg;exact⟨d,hg,q3 0 v d (by rw[hv];rfl) rfl⟩
theorem atu {k:IntKind} (ht:P.underlying t=some (.slice e)) (he:P.underlying e=some (.int k)) (hz:P.cellsOf e=1) (hv:v.cells.toList=[v]) (h:∃ fuel,DataW.trod enc P W base spare held fuel t v.cells.toList=some x):
  ∃ l:List Int,l.length≤maxLen∧(∀ n∈l,(Lit.int k n).wf=true)∧Rd anyB W v (.sl (l.map (D.int k))):=by
 obtain⟨fuel,hf⟩:=h;obtain⟨d,⟨es,hd,hlen,hes⟩,hr⟩:=read_one (IsF.slice ht yj (fun m _=>IsF.int he) mkD (fun xs hx _=>by obtain⟨m,rfl,_⟩:=hx;rfl)) hf hv (fun xs hx=>by obtain⟨es,rfl,_⟩:=hx;exact⟨_,rfl⟩)
 cases hd;have key:∀ es:List D,(∀ d∈es,∃ ys,(∃ m,ys=[D.int k m]∧(Lit.int k m).wf=true)∧ys.length=P.cellsOf e∧d=mkD ys)→∃ l:List Int,es=l.map (D.int k)∧∀ n∈l,(Lit.int k n).wf=true:=by
  intro es
  induction es with
  |nil=>exact fun _=>⟨[],rfl,by simp⟩
  | cons d es ih=>
   intro h;obtain⟨ys,⟨m,rfl,hw⟩,_,rfl⟩:=h d yl;obtain⟨l,rfl,hl⟩:=ih (fun d hd=>h d (by simp[hd]))
   refine⟨m::l,rfl,fun n hn=> ?_⟩
   rcases zb.1 hn with rfl|hn
   · exact hw
   · exact hl n hn
 obtain⟨l,rfl,hl⟩:=key es hes;exact⟨l,by simpa using hlen,hl,hr⟩
theorem aqx (ht:P.underlying t=some (.slice e)) (he:P.underlying e=some (.int .u8)) (hz:P.cellsOf e=1) (hv:v.cells.toList=[v]) (h:∃ fuel,DataW.trod enc P W base spare held fuel t v.cells.toList=some x):
  ∃ l:List UInt8,l.length≤maxLen∧Rd anyB W v (.sl (l.map byteD)):=by
 obtain⟨l,h1,h2,h3⟩:=atu ht he hz hv h;refine⟨l.map fun n=>UInt8.ofNat n.toNat,by simpa using h1,?_⟩
 have:(l.map fun n=>UInt8.ofNat n.toNat).map byteD=l.map (D.int .u8):=by
  rw[List.map_map];refine List.map_congr_left fun n hn=> ?_
  have hw:=h2 n hn;simp[Lit.wf,IntKind.min,IntKind.max,IntKind.signed,IntKind.bits] at hw;show byteD (UInt8.ofNat n.toNat)=_;rw[nf yj]
  congr 1
  omega
 rw[this];exact h3
