import Derived.Test.YtpnhljhciibfnaaGreatDoorL8
namespace Go.Ev
open Go
def encM (l:List Int):List UInt8:=l.flatMap fun v=>Ai 10 (As v)
def decR:Nat→List UInt8→List Int→List Int×Nat
 |0,rest,acc=>if rest.isEmpty then(acc,0) else([],2)
 |k+1,rest,acc=>if(Ay 0 0 rest).2.2=0 then decR k (rest.drop (Ay 0 0 rest).2.1) (acc++[CG (Ay 0 0 rest).1]) else([],(Ay 0 0 rest).2.2)
theorem X7 (n:Nat):0<10 ^ n:=Nat.pow_pos aa4
def C1 (n:Nat):Nat:=(B2 20 n).length
theorem jf (k n:Nat):B2 (k+1) n=if n<10 then[UInt8.ofNat (48+n)] else B2 k (n / 10)++[UInt8.ofNat (48+n % 10)]:=rfl
theorem g8 (k n:Nat):(B2 (k+1) n).length=if n<10 then 1 else(B2 k (n / 10)).length+1:=by
 rw[jf];split<;>simp
theorem ao9:∀ (k n:Nat),n<10 ^ k→0<k→B2 (k+1) n=B2 k n
 |0,n,h,h0=>absurd h0 aa4
 | k+1,n,h,h0=>by
  rw[jf (k+1) n,jf k n];by_cases c:n<10
  · rw[if_pos c,if_pos c]
  · rw[if_neg c,if_neg c]
    cases k with
    |zero=>simp at h;omega
    |succ k=>rw[ao9 (k+1) (n / 10) (by rw[Nat.pow_succ] at h;omega) aa1]
theorem bgx {n:Nat} (h:n<10):C1 n=1:=by unfold C1;rw[g8,if_pos h]
theorem fa {n:Nat} (h:¬ n<10) (hn:n<10 ^ 20):C1 n=C1 (n / 10)+1:=by
 unfold C1;rw[g8,if_neg h,ao9 19 (n / 10) aa1 aa4]
theorem rb {n:Nat} (h:100000000≤n) (hn:n<10 ^ 20):C1 n=C1 (n / 100000000)+8:=by
 rw[fa aa1 hn,fa (n:=n / 10) aa1 aa1,fa (n:=n / 10 / 10) aa1 aa1,fa (n:=n / 10 / 10 / 10) aa1 aa1,fa (n:=n / 10 / 10 / 10 / 10) aa1 aa1,
  fa (n:=n / 10 / 10 / 10 / 10 / 10) aa1 aa1,fa (n:=n / 10 / 10 / 10 / 10 / 10 / 10) aa1 aa1,fa (n:=n / 10 / 10 / 10 / 10 / 10 / 10 / 10) aa1 aa1]
 have:n / 10 / 10 / 10 / 10 / 10 / 10 / 10 / 10=n / 100000000:=aa1;rw[this]
theorem bs7 (n:Nat):1≤C1 n∧C1 n≤20:=by
 unfold C1;have h:∀ k n,(B2 k n).length≤k:=by
  intro k
  induction k with
  |zero=>intro n;simp[B2]
  |succ k ih=>intro n;rw[g8];have:=ih (n / 10);split<;>omega
 refine⟨?_,h 20 n⟩;rw[g8];split<;>omega
def zer (k:Nat):List UInt8:=List.replicate k 48
theorem wl:∀ k,Lib.repeatL [48] k=zer k
 |0=>rfl
 | k+1=>by
  have h:=wl k;show[48]++Lib.repeatL [48] k=zer (k+1);rw[h];rfl
def Dn (d:List UInt8) (s:Nat):List UInt8:=zer (s+1-d.length)++d
def t6 (d:List UInt8) (s:Nat):List UInt8:=d.take (d.length-s)++(if s=0 then[] else 46::d.drop (d.length-s))
def HL (n s:Nat):List UInt8:=t6 (Dn (B2 20 n) s) s
def Al (v:Int) (s:Nat):List UInt8:=if v<0 then 45::HL v.natAbs s else HL v.natAbs s
theorem sq (d:List UInt8) (s:Nat):(Dn d s).length=max (s+1) d.length:=by
 unfold Dn zer;simp;omega
theorem br5 (d:List UInt8) (s:Nat) (h:d.length≤s):Dn (48::d) s=Dn d s:=by
 unfold Dn zer;have e:s+1-d.length=(s+1-(48::d:List UInt8).length)+1:=by simp;omega
 rw[e,List.replicate_succ'];simp
theorem an7 (d:List UInt8) (s:Nat) (h:¬ d.length≤s):Dn d s=d:=by
 unfold Dn zer;rw[show s+1-d.length=0 by omega]
 rfl
end Go.Ev
namespace Go.Ev
open Go
def BB (c:UInt8):Bool:=decide (48≤c.toNat)&&decide (c.toNat≤57)
def dx (l:List UInt8):Bool:= !l.isEmpty&&l.all BB
def BD:List UInt8→List UInt8×List UInt8×Bool
 | []=>([],[],false)
 |c::r=>if c=46 then([],r,true) else(c::(BD r).1,(BD r).2.1,(BD r).2.2)
def sgn (neg:Bool) (d:Int):Int:=if neg then 0-d else d
def Br (neg:Bool):Int→List UInt8→Int×Nat
 |v,[]=>(v,0)
 |v,c::r=>if(mulM v 10).2=true∧(DW (mulM v 10).1 (sgn neg ((c.toNat:Int)-48))).2=true then Br neg (DW (mulM v 10).1 (sgn neg ((c.toNat:Int)-48))).1 r else(0,4)
def Bp (t:List UInt8):List UInt8:=if t.head? =some 45 then t.tail else t
def az (t:List UInt8) (s:Nat):Int×Nat:=
 if dx (BD (Bp t)).1=false∨(BD (Bp t)).2.2=true∧dx (BD (Bp t)).2.1=false then(0,2) else
 if s<(BD (Bp t)).2.1.length then(0,4) else
 Br (decide (t.head? =some 45)) 0 ((BD (Bp t)).1++(BD (Bp t)).2.1++zer (s-(BD (Bp t)).2.1.length))
def DJ:List UInt8→Nat
 | []=>0
 |c::r=>(c.toNat-48)*10 ^ r.length+DJ r
theorem ov (a b:List UInt8):DJ (a++b)=DJ a*10 ^ b.length+DJ b:=by
 induction a with
 |nil=>simp[DJ]
 | cons c a ih=>
  simp only[List.cons_append,DJ,ih,abk,Nat.pow_add];rw[ab8,Nat.mul_assoc,acy]
theorem bfa (k:Nat):DJ (zer k)=0:=by
 induction k with
 |zero=>rfl
 |succ k ih=>simp only[zer,List.replicate_succ,DJ] at *;simp[ih]
theorem bfb {n:Nat} (h:n<10):BB (UInt8.ofNat (48+n))=true∧(UInt8.ofNat (48+n)).toNat=48+n:=by
 have:=Hs (n:=48+n) aa1;refine⟨?_,this⟩;unfold BB;rw[this];simp;omega
theorem u7 (k:Nat):(zer k).all BB=true:=by
 induction k with
 |zero=>rfl
 |succ k ih=>simp only[zer,List.replicate_succ,List.all_cons] at *;simp[ih];decide
theorem bfe:∀ (k n:Nat),(B2 k n).all BB=true
 |0,n=>rfl
 | k+1,n=>by
  rw[jf];split
  · rename_i c
    simp only[List.all_cons,List.all_nil,(bfb c).1,Bool.and_self]
  · simp only[List.all_append,List.all_cons,List.all_nil,bfe k (n / 10),(bfb (n:=n % 10) aa1).1,Bool.and_self]
theorem bfd:∀ (k n:Nat),n<10 ^ k→DJ (B2 k n)=n
 |0,n,h=>by simp at h;subst h;rfl
 | k+1,n,h=>by
  rw[jf];split
  · rename_i c
    simp only[DJ,(bfb c).2,List.length_nil];omega
  · rw[ov,bfd k (n / 10) (by rw[Nat.pow_succ] at h;omega)]
    simp only[DJ,(bfb (n:=n % 10) aa1).2,List.length_cons,List.length_nil];omega
theorem uu:∀ (l:List UInt8) (neg:Bool) (v:Int),l.all BB=true→inI v→(neg=true→v≤0)→(neg=false→0≤v)→
  Br neg v l=if inI (v*((10 ^ l.length:Nat):Int)+sgn neg (DJ l)) then(v*((10 ^ l.length:Nat):Int)+sgn neg (DJ l),0) else(0,4)
 | [],neg,v,_,hv,_,_=>by
  have e:v*((10 ^ ([]:List UInt8).length:Nat):Int)+sgn neg ((DJ []:Nat):Int)=v:=by unfold sgn DJ;split<;>simp
  simp only[Br,e,hv,if_true]
 | c::r,neg,v,hd,hv,hn,hp=>by
  simp only[List.all_cons,abe] at hd;have hc:=hd.1;unfold BB at hc;simp at hc;have hten:=X7 r.length;have e1:((10 ^ (c::r).length:Nat):Int)=10*((10 ^ r.length:Nat):Int):=by rw[List.length_cons,Nat.pow_succ];omega
  have e2:((DJ (c::r):Nat):Int)=((c.toNat:Int)-48)*((10 ^ r.length:Nat):Int)+(DJ r:Int):=by
    simp only[DJ];rw[Int.natCast_add,Int.natCast_mul]
    congr 2
    omega
  have hval0:(0:Int)≤(DJ r:Int):=aa1;have hd0:0≤(c.toNat:Int)-48:=aa1;have hd9:(c.toNat:Int)-48≤9:=aa1;have step:v*((10 ^ (c::r).length:Nat):Int)+sgn neg (DJ (c::r))=(v*10+sgn neg ((c.toNat:Int)-48))*((10 ^ r.length:Nat):Int)+sgn neg (DJ r):=by
    rw[e1,e2];unfold sgn;generalize((10 ^ r.length:Nat):Int)=T;generalize(c.toNat:Int)-48=d;split
    · rw[Int.add_mul,Int.sub_mul,Int.zero_mul,Int.mul_assoc];omega
    · rw[Int.add_mul,Int.mul_assoc];omega
  rw[step];generalize hdd:(c.toNat:Int)-48=d at *;have hT1:(1:Int)≤((10 ^ r.length:Nat):Int):=aa1;have hrec:=uu r neg (v*10+sgn neg d) hd.2;generalize((10 ^ r.length:Nat):Int)=T at *;simp only[Br,hdd];by_cases hx:inI (v*10)
  · have m1:mulM v 10=(v*10,true):=if_pos hx
    rw[m1];simp only[true_and];by_cases hy:inI (v*10+sgn neg d)
    · have m2:DW (v*10) (sgn neg d)=(v*10+sgn neg d,true):=if_pos hy
      rw[m2];simp only[if_true];exact hrec hy (fun h=>by subst h;have:=hn rfl;simp[sgn];omega) (fun h=>by subst h;have:=hp rfl;simp[sgn];omega)
    · have m2:DW (v*10) (sgn neg d)=(0,false):=if_neg hy
      rw[m2];simp only[aa8,if_false];rw[if_neg];intro h;apply hy;cases neg
      · have h0:=hp rfl
        simp only[sgn,aa8,if_false] at *;have hw:0≤v*10+d:=aa1;have:=Int.mul_le_mul_of_nonneg_left hT1 hw;unfold inI at *;omega
      · have h0:=hn rfl
        simp only[sgn,if_true] at *;have hw:v*10+(0-d)≤0:=aa1;have:=Int.mul_le_mul_of_nonpos_left hw hT1;unfold inI at *;omega
  · have m1:mulM v 10=(0,false):=if_neg hx
    rw[m1];simp only[aa8,false_and,if_false];rw[if_neg];intro h;apply hx;cases neg
    · have h0:=hp rfl
      simp only[sgn,aa8,if_false] at *;have hw:0≤v*10+d:=aa1;have:=Int.mul_le_mul_of_nonneg_left hT1 hw;unfold inI at *;omega
    · have h0:=hn rfl
      simp only[sgn,if_true] at *;have hw:v*10+(0-d)≤0:=aa1;have:=Int.mul_le_mul_of_nonpos_left hw hT1;unfold inI at *;omega
theorem p8 {c:UInt8} (h:BB c=true):c≠46:=by
 intro e;subst e;revert h;decide
theorem xr:∀ (w p:List UInt8),w.all BB=true→BD (w++46::p)=(w,p,true)
 | [],p,_=>by simp[BD]
 | c::w,p,h=>by
  simp only[List.all_cons,abe] at h;simp only[List.cons_append,BD,if_neg (p8 h.1),xr w p h.2]
theorem apa:∀ (w:List UInt8),w.all BB=true→BD w=(w,[],false)
 | [],_=>rfl
 | c::w,h=>by
  simp only[List.all_cons,abe] at h;simp only[BD,if_neg (p8 h.1),apa w h.2]
theorem mz:∀ (l:List UInt8),l=(BD l).1++(if(BD l).2.2=true then 46::(BD l).2.1 else[])∧((BD l).2.2=false→(BD l).2.1=[])
 | []=>by simp[BD]
 | c::r=>by
  unfold BD;split
  · rename_i h;simp[h]
  · have ih:=mz r
    refine⟨?_,ih.2⟩
    conv=>lhs;rw[ih.1]
    rfl
theorem qg {l:List UInt8} (h:l.all BB=true):l.filter (· !=46)=l:=by
 rw[List.filter_eq_self];intro c hc;have:=p8 (acd.1 h c hc);simpa using this
theorem bge (neg:Bool) (n s z:Nat) (hs:s≤18) (hn:n<10 ^ 20) (t:List UInt8) (hz:z=0∨0<s+z)
   (ht:t=(if neg then[45] else[])++(Dn (B2 20 n) s).take ((Dn (B2 20 n) s).length-s)++(if s+z=0 then[] else 46::((Dn (B2 20 n) s).drop ((Dn (B2 20 n) s).length-s)++zer z))):
   az t (s+z)=if inI (sgn neg ((n*10 ^ z:Nat):Int)) then(sgn neg ((n*10 ^ z:Nat):Int),0) else(0,4):=by
 generalize hd:Dn (B2 20 n) s=d at ht;have hall:d.all BB=true:=by rw[← hd];unfold Dn;rw[List.all_append,u7,bfe];rfl
 have hlen:s+1≤d.length:=by rw[← hd,sq];omega
 have hv:DJ d=n:=by rw[← hd];unfold Dn;rw[ov,bfa,bfd 20 n hn];simp
 have hw:(d.take (d.length-s)).all BB=true:=by rw[acd] at *;exact fun c hc=>hall c (acr hc)
 have hp:(d.drop (d.length-s)).all BB=true:=by rw[acd] at *;exact fun c hc=>hall c (acq hc)
 have hw0:(d.take (d.length-s))≠[]:=by
   intro e;have:=congrArg List.length e;simp at this;omega
 have hplen:(d.drop (d.length-s)).length=s:=by simp;omega
 have hsplit:d.take (d.length-s)++d.drop (d.length-s)=d:=List.take_append_drop _ _;generalize d.take (d.length-s)=w at *;generalize d.drop (d.length-s)=p at *;have hhead:t.head? =some 45↔neg=true:=by
   cases neg
   · cases w with
     |nil=>exact absurd rfl hw0
     | cons c w=>
      rw[ht];simp only[aa8,if_false,List.nil_append,List.cons_append,List.head?_cons,iff_false];intro e;cases e;simp only[List.all_cons,abe] at hw;exact absurd hw.1 aa4
   · rw[ht];simp
 have hrest:Bp t=w++(if s+z=0 then[] else 46::(p++zer z)):=by
   unfold Bp;cases neg
   · rw[if_neg (fun h=>by simpa using hhead.1 h),ht];simp
   · rw[if_pos (hhead.2 rfl),ht];simp
 have hneg:decide (t.head? =some 45)=neg:=by
   cases neg
   · simp only[aa7];exact fun h=>by simpa using hhead.1 h
   · simp only[aa9];exact hhead.2 rfl
 have hcut:BD (Bp t)=if s+z=0 then(w,[],false) else(w,p++zer z,true):=by
   rw[hrest];split
   · rw[List.append_nil];exact apa w hw
   · exact xr w _ hw
 have hpw:dx w=true:=by
   unfold dx;rw[hw];cases w with
   |nil=>exact absurd rfl hw0
   |cons=>rfl
 unfold az;rw[hneg,hcut];by_cases h0:s+z=0
 · have hz0:z=0:=aa1
   have hs0:s=0:=aa1;subst hz0;subst hs0;have hp0:p=[]:=ace hplen;rw[if_pos rfl];simp only[hpw,aa8,false_and,or_false,if_false,List.length_nil,Nat.lt_irrefl,Nat.sub_self,reduceCtorEq];rw[hp0,List.append_nil] at hsplit;rw[show zer 0=[] from rfl,List.append_nil,List.append_nil,hsplit,uu d neg 0 hall (by unfold inI;omega) (fun _=>by omega) (fun _=>by omega),hv]
   simp
 · rw[if_neg h0]
   have hpp:dx (p++zer z)=true:=by
     unfold dx;rw[List.all_append,hp,u7];have:(p++zer z).isEmpty=false:=by
      rw[List.isEmpty_eq_false_iff];intro e;have h3:=congrArg List.length e;rw[abk,hplen,List.length_nil] at h3;simp[zer] at h3;omega
     rw[this];rfl
   have hzl:(zer z).length=z:=by simp[zer]
   simp only[hpw,hpp,aa8,and_false,or_false,if_false,abk,hplen,hzl,Nat.lt_irrefl,Nat.sub_self,reduceCtorEq];rw[show zer 0=[] from rfl,List.append_nil,← abv,hsplit]
   have hall2:(d++zer z).all BB=true:=by rw[List.all_append,hall,u7];rfl
   rw[uu _ neg 0 hall2 (by unfold inI;omega) (fun _=>by omega) (fun _=>by omega),ov,bfa,hzl,hv]
   simp
def Ct:List UInt8→Bool→Nat→Nat→Option (Bool×Nat×Nat)
 | [],pt,a,b=>some (pt,a,b)
 |c::r,pt,a,b=>if c=46∧pt=false then Ct r true a b else if BB c=false then none else if pt=true then Ct r pt a (b+1) else Ct r pt (a+1) b
theorem tk:∀ (p:List UInt8) (a b:Nat),Ct p true a b=if p.all BB=true then some (true,a,b+p.length) else none
 | [],a,b=>by simp[Ct]
 | c::p,a,b=>by
  rw[Ct,if_neg aa3];by_cases h:BB c=true
  · rw[if_neg (by simp[h]),if_pos rfl,tk p a (b+1)]
    simp only[List.all_cons,h,Bool.true_and,List.length_cons];rw[show b+1+p.length=b+(p.length+1) by omega]
  · rw[if_pos (by simpa using h),if_neg]
    simp only[List.all_cons,abe];exact fun e=>h e.1
theorem yf:∀ (l:List UInt8) (a:Nat),Ct l false a 0=if((BD l).1.all BB&&(BD l).2.1.all BB)=true then some ((BD l).2.2,a+(BD l).1.length,(BD l).2.1.length) else none
 | [],a=>by simp[Ct,BD]
 | c::l,a=>by
  unfold Ct BD;by_cases h:c=46
  · rw[if_pos ⟨h,rfl⟩,if_pos h,tk]
    simp
  · rw[if_neg (fun e=>h e.1),if_neg h]
    by_cases hd:BB c=true
    · rw[if_neg (by simp[hd]),if_neg aa3,yf l (a+1)]
      simp only[List.all_cons,hd,Bool.true_and,List.length_cons];rw[show a+1+(BD l).1.length=a+((BD l).1.length+1) by omega]
    · rw[if_pos (by simpa using hd),if_neg]
      simp only[List.all_cons,abe];exact fun e=>hd e.1.1
theorem au6 (t:List UInt8) (s:Nat):az t s=match Ct (Bp t) false 0 0 with
   |none=>(0,2)
   |some (pt,a,b)=>if a=0∨pt=true∧b=0 then(0,2) else if s<b then(0,4) else Br (decide (t.head? =some 45)) 0 ((Bp t).filter (· !=46)++zer (s-b)):=by
 have hb:=mz (Bp t);rw[yf];unfold az;generalize Bp t=l at *;generalize hc:BD l=q at *;obtain⟨w,p,pt⟩:=q;simp only at *;by_cases hall:(w.all BB&&p.all BB)=true
 · rw[if_pos hall]
   simp only[Nat.zero_add];rw[abe] at hall;have e1:(dx w=false)=(w.length=0):=by
     unfold dx;rw[hall.1];cases w<;>simp
   have e2:(dx p=false)=(p.length=0):=by
     unfold dx;rw[hall.2];cases p<;>simp
   have e3:l.filter (· !=46)=w++p:=by
     rw[hb.1,List.filter_append,qg hall.1]
     congr 1
     cases pt
     · rw[hb.2 rfl];simp
     · simp[qg hall.2]
   rw[e3];simp only[e1,e2]
 · rw[if_neg hall]
   rw[if_pos];by_cases hw:dx w=false
   · exact .inl hw
   · right
     have hw':w.all BB=true:=by
       unfold dx at hw;simp at hw;simpa using hw.2
     cases pt
     · exfalso
       apply hall;rw[hb.2 rfl,hw'];rfl
     · refine⟨rfl,?_⟩
       unfold dx;rw[hw',Bool.true_and] at hall;rw[abh] at hall;rw[hall,Bool.and_false]
theorem cH:∀ (l:List UInt8),∀ c∈l.takeWhile BB,BB c=true
 | [],c,h=>by simp at h
 | x::l,c,h=>by
  rw[List.takeWhile_cons] at h;split at h
  · rename_i hx
    rcases abr.1 h with rfl|h
    · exact hx
    · exact cH l c h
  · simp at h
theorem Uh (l:List UInt8):(Lib.trimS l [48,49,50,51,52,53,54,55,56,57]==[])=l.all BB:=by
 have hd:∀ c:UInt8,([48,49,50,51,52,53,54,55,56,57]:List UInt8).contains c=BB c:=by
   intro c;have:∀ n:Fin 256,([48,49,50,51,52,53,54,55,56,57]:List UInt8).contains (UInt8.ofNat n.val)=BB (UInt8.ofNat n.val):=by decide +kernel
   have h:=this ⟨c.toNat,E1 c⟩;simpa using h
 have hdw:∀ (l:List UInt8),(l.dropWhile BB=[])↔l.all BB=true:=by
   intro l
   induction l with
   |nil=>simp
   | cons c l ih=>
    simp only[List.dropWhile_cons,List.all_cons];by_cases h:BB c=true
    · simp[h,ih]
    · simp[h]
 have hset:(fun c:UInt8=>([48,49,50,51,52,53,54,55,56,57]:List UInt8).contains c)=BB:=funext hd
 have e1:Lib.trimS l [48,49,50,51,52,53,54,55,56,57]=((l.reverse.dropWhile BB).reverse).dropWhile BB:=by
   unfold Lib.trimS Lib.trimLeftS Lib.trimRightS;rw[hset]
 rw[e1];rw[ab0];simp only[abm];rw[hdw];constructor
 · intro h
   have h1:(l.reverse.dropWhile BB).all BB=true:=by simpa using h
   have h2:l.reverse.all BB=true:=by
    rw[← List.takeWhile_append_dropWhile (p:=BB) (l:=l.reverse),List.all_append,h1,Bool.and_true];rw[acd];exact cH l.reverse
   simpa using h2
 · intro h
   have:l.reverse.dropWhile BB=[]:=(hdw l.reverse).2 (by simpa using h)
   rw[this];rfl
theorem aou:∀ (l:List UInt8),Lib.indexByte l 46=if(BD l).2.2=true then((BD l).1.length:Int) else -1
 | []=>by simp[BD,Lib.indexByte]
 | c::l=>by
  unfold BD Lib.indexByte;by_cases h:c=46
  · simp[h]
  · have ih:=aou l
    have hb:(c==46)=false:=by simpa using h
    rw[if_neg h,hb,ih];simp only[aa8,if_false];cases(BD l).2.2
    · simp
    · have:(((BD l).1.length:Int)== -1)=false:=by simp<;>omega
      simp[this]
