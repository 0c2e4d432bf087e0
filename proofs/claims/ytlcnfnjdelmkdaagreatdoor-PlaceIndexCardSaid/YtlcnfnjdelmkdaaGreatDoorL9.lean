import Derived.Test.YtlcnfnjdelmkdaaGreatDoorL8
namespace Go.Ev
open Go
def digN (n:Nat):Nat:=(decF 20 n).length
theorem lw (k n:Nat):decF (k+1) n=if n<10 then[UInt8.ofNat (48+n)] else decF k (n / 10)++[UInt8.ofNat (48+n % 10)]:=rfl
theorem fy (k n:Nat):(decF (k+1) n).length=if n<10 then 1 else(decF k (n / 10)).length+1:=by
 rw[lw];split<;>simp
theorem anv:∀ (k n:Nat),n<10 ^ k→0<k→decF (k+1) n=decF k n
 |0,n,h,h0=>absurd h0 ze
 | k+1,n,h,h0=>by
  rw[lw (k+1) n,lw k n];by_cases c:n<10
  · rw[if_pos c,if_pos c]
  · rw[if_neg c,if_neg c]
    cases k with
    |zero=>simp at h;omega
    |succ k=>rw[anv (k+1) (n / 10) (by rw[Nat.pow_succ] at h;omega) y8]
theorem bgw {n:Nat} (h:n<10):digN n=1:=by unfold digN;rw[fy,if_pos h]
theorem du {n:Nat} (h:¬ n<10) (hn:n<10 ^ 20):digN n=digN (n / 10)+1:=by
 unfold digN;rw[fy,if_neg h,anv 19 (n / 10) y8 ze]
theorem p6 {n:Nat} (h:100000000≤n) (hn:n<10 ^ 20):digN n=digN (n / 100000000)+8:=by
 rw[du y8 hn,du (n:=n / 10) y8 y8,du (n:=n / 10 / 10) y8 y8,du (n:=n / 10 / 10 / 10) y8 y8,du (n:=n / 10 / 10 / 10 / 10) y8 y8,
  du (n:=n / 10 / 10 / 10 / 10 / 10) y8 y8,du (n:=n / 10 / 10 / 10 / 10 / 10 / 10) y8 y8,du (n:=n / 10 / 10 / 10 / 10 / 10 / 10 / 10) y8 y8]
 have:n / 10 / 10 / 10 / 10 / 10 / 10 / 10 / 10=n / 100000000:=y8;rw[this]
theorem digN_le (n:Nat):1≤digN n∧digN n≤20:=by
 unfold digN;have h:∀ k n,(decF k n).length≤k:=by
  intro k
  induction k with
  |zero=>intro n;simp[decF]
  |succ k ih=>intro n;rw[fy];have:=ih (n / 10);split<;>omega
 refine⟨?_,h 20 n⟩;rw[fy];split<;>omega
def zer (k:Nat):List UInt8:=List.replicate k 48
theorem ul:∀ k,Lib.repeatL [48] k=zer k
 |0=>rfl
 | k+1=>by
  have h:=ul k;show[48]++Lib.repeatL [48] k=zer (k+1);rw[h];rfl
end Go.Ev
namespace Go.Ev
open Go
def digB (c:UInt8):Bool:=decide (48≤c.toNat)&&decide (c.toNat≤57)
def dz (l:List UInt8):Bool:= !l.isEmpty&&l.all digB
def cutM:List UInt8→List UInt8×List UInt8×Bool
 | []=>([],[],false)
 |c::r=>if c=46 then([],r,true) else(c::(cutM r).1,(cutM r).2.1,(cutM r).2.2)
def sgn (neg:Bool) (d:Int):Int:=if neg then 0-d else d
def foldV (neg:Bool):Int→List UInt8→Int×Nat
 |v,[]=>(v,0)
 |v,c::r=>if(mulM v 10).2=true∧(addM (mulM v 10).1 (sgn neg ((c.toNat:Int)-48))).2=true then foldV neg (addM (mulM v 10).1 (sgn neg ((c.toNat:Int)-48))).1 r else(0,4)
def restS (t:List UInt8):List UInt8:=if t.head? =some 45 then t.tail else t
def b6 (t:List UInt8) (s:Nat):Int×Nat:=
 if dz (cutM (restS t)).1=false∨(cutM (restS t)).2.2=true∧dz (cutM (restS t)).2.1=false then(0,2) else
 if s<(cutM (restS t)).2.1.length then(0,4) else
 foldV (decide (t.head? =some 45)) 0 ((cutM (restS t)).1++(cutM (restS t)).2.1++zer (s-(cutM (restS t)).2.1.length))
theorem bs4 (k:Nat):(zer k).all digB=true:=by
 induction k with
 |zero=>rfl
 |succ k ih=>simp only[zer,List.replicate_succ,List.all_cons] at *;simp[ih];decide
theorem anu {c:UInt8} (h:digB c=true):c≠46:=by
 intro e;subst e;revert h;decide
theorem ly:∀ (l:List UInt8),l=(cutM l).1++(if(cutM l).2.2=true then 46::(cutM l).2.1 else[])∧((cutM l).2.2=false→(cutM l).2.1=[])
 | []=>by simp[cutM]
 | c::r=>by
  unfold cutM;split
  · rename_i h;simp[h]
  · have ih:=ly r
    refine⟨?_,ih.2⟩
    conv=>lhs;rw[ih.1]
    rfl
theorem pf {l:List UInt8} (h:l.all digB=true):l.filter (· !=46)=l:=by
 rw[List.filter_eq_self];intro c hc;have:=anu (aax.1 h c hc);simpa using this
def scanR:List UInt8→Bool→Nat→Nat→Option (Bool×Nat×Nat)
 | [],pt,a,b=>some (pt,a,b)
 |c::r,pt,a,b=>if c=46∧pt=false then scanR r true a b else if digB c=false then none else if pt=true then scanR r pt a (b+1) else scanR r pt (a+1) b
theorem rn:∀ (p:List UInt8) (a b:Nat),scanR p true a b=if p.all digB=true then some (true,a,b+p.length) else none
 | [],a,b=>by simp[scanR]
 | c::p,a,b=>by
  rw[scanR,if_neg zb];by_cases h:digB c=true
  · rw[if_neg (by simp[h]),if_pos rfl,rn p a (b+1)]
    simp only[List.all_cons,h,Bool.true_and,List.length_cons];rw[show b+1+p.length=b+(p.length+1) by omega]
  · rw[if_pos (by simpa using h),if_neg]
    simp only[List.all_cons,zw];exact fun e=>h e.1
theorem wd:∀ (l:List UInt8) (a:Nat),scanR l false a 0=if((cutM l).1.all digB&&(cutM l).2.1.all digB)=true then some ((cutM l).2.2,a+(cutM l).1.length,(cutM l).2.1.length) else none
 | [],a=>by simp[scanR,cutM]
 | c::l,a=>by
  unfold scanR cutM;by_cases h:c=46
  · rw[if_pos ⟨h,rfl⟩,if_pos h,rn]
    simp
  · rw[if_neg (fun e=>h e.1),if_neg h]
    by_cases hd:digB c=true
    · rw[if_neg (by simp[hd]),if_neg zb,wd l (a+1)]
      simp only[List.all_cons,hd,Bool.true_and,List.length_cons];rw[show a+1+(cutM l).1.length=a+((cutM l).1.length+1) by omega]
    · rw[if_pos (by simpa using hd),if_neg]
      simp only[List.all_cons,zw];exact fun e=>hd e.1.1
theorem aux (t:List UInt8) (s:Nat):b6 t s=match scanR (restS t) false 0 0 with
   |none=>(0,2)
   |some (pt,a,b)=>if a=0∨pt=true∧b=0 then(0,2) else if s<b then(0,4) else foldV (decide (t.head? =some 45)) 0 ((restS t).filter (· !=46)++zer (s-b)):=by
 have hb:=ly (restS t);rw[wd];unfold b6;generalize restS t=l at *;generalize hc:cutM l=q at *;obtain⟨w,p,pt⟩:=q;simp only at *;by_cases hall:(w.all digB&&p.all digB)=true
 · rw[if_pos hall]
   simp only[Nat.zero_add];rw[zw] at hall;have e1:(dz w=false)=(w.length=0):=by
     unfold dz;rw[hall.1];cases w<;>simp
   have e2:(dz p=false)=(p.length=0):=by
     unfold dz;rw[hall.2];cases p<;>simp
   have e3:l.filter (· !=46)=w++p:=by
     rw[hb.1,List.filter_append,pf hall.1]
     congr 1
     cases pt
     · rw[hb.2 rfl];simp
     · simp[pf hall.2]
   rw[e3];simp only[e1,e2]
 · rw[if_neg hall]
   rw[if_pos];by_cases hw:dz w=false
   · exact .inl hw
   · right
     have hw':w.all digB=true:=by
       unfold dz at hw;simp at hw;simpa using hw.2
     cases pt
     · exfalso
       apply hall;rw[hb.2 rfl,hw'];rfl
     · refine⟨rfl,?_⟩
       unfold dz;rw[hw',Bool.true_and] at hall;rw[zu] at hall;rw[hall,Bool.and_false]
theorem takeW:∀ (l:List UInt8),∀ c∈l.takeWhile digB,digB c=true
 | [],c,h=>by simp at h
 | x::l,c,h=>by
  rw[List.takeWhile_cons] at h;split at h
  · rename_i hx
    rcases aac.1 h with rfl|h
    · exact hx
    · exact takeW l c h
  · simp at h
theorem trim_dig (l:List UInt8):(Lib.trimS l [48,49,50,51,52,53,54,55,56,57]==[])=l.all digB:=by
 have hd:∀ c:UInt8,([48,49,50,51,52,53,54,55,56,57]:List UInt8).contains c=digB c:=by
   intro c;have:∀ n:Fin 256,([48,49,50,51,52,53,54,55,56,57]:List UInt8).contains (UInt8.ofNat n.val)=digB (UInt8.ofNat n.val):=by decide +kernel
   have h:=this ⟨c.toNat,u8_lt c⟩;simpa using h
 have hdw:∀ (l:List UInt8),(l.dropWhile digB=[])↔l.all digB=true:=by
   intro l
   induction l with
   |nil=>simp
   | cons c l ih=>
    simp only[List.dropWhile_cons,List.all_cons];by_cases h:digB c=true
    · simp[h,ih]
    · simp[h]
 have hset:(fun c:UInt8=>([48,49,50,51,52,53,54,55,56,57]:List UInt8).contains c)=digB:=funext hd
 have e1:Lib.trimS l [48,49,50,51,52,53,54,55,56,57]=((l.reverse.dropWhile digB).reverse).dropWhile digB:=by
   unfold Lib.trimS Lib.trimLeftS Lib.trimRightS;rw[hset]
 rw[e1];rw[aal];simp only[aaa];rw[hdw];constructor
 · intro h
   have h1:(l.reverse.dropWhile digB).all digB=true:=by simpa using h
   have h2:l.reverse.all digB=true:=by
    rw[← List.takeWhile_append_dropWhile (p:=digB) (l:=l.reverse),List.all_append,h1,Bool.and_true];rw[aax];exact takeW l.reverse
   simpa using h2
 · intro h
   have:l.reverse.dropWhile digB=[]:=(hdw l.reverse).2 (by simpa using h)
   rw[this];rfl
theorem anf:∀ (l:List UInt8),Lib.indexByte l 46=if(cutM l).2.2=true then((cutM l).1.length:Int) else -1
 | []=>by simp[cutM,Lib.indexByte]
 | c::l=>by
  unfold cutM Lib.indexByte;by_cases h:c=46
  · simp[h]
  · have ih:=anf l
    have hb:(c==46)=false:=by simpa using h
    rw[if_neg h,hb,ih];simp only[zh,if_false];cases(cutM l).2.2
    · simp
    · have:(((cutM l).1.length:Int)== -1)=false:=by simp<;>omega
      simp[this]
