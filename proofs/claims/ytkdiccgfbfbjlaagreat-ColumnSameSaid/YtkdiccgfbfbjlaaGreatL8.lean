import Derived.Test.YtkdiccgfbfbjlaaGreatL7
import Derived.OpenShut
namespace Go.Ev
open Go
def Vh (dst:Option Nat) (own shared:Bool):Ans→Option (List (Loc×V))
 |some (r,_)=>BC dst own shared r
 |none=>none
@[go_sem] theorem aZ (dst:Option Nat) (own shared:Bool) (r:V) (m:List (Cel×V)):Vh dst own shared (some (r,m))=BC dst own shared r:=rfl
variable {cfg:Cfg} {AY:Orc} {dep:Nat}
@[go_sem] theorem U_callg (s:Get) (k:Nat) (own:Bool) (f:FuncId) (args:List AB) (i:Nat):Ae cfg AY dep s ⟨some k,none,.Cr own f args i⟩=C8 cfg AY s (some k) own f args i:=rfl
@[go_sem] theorem callG_def (s:Get) (dst:Option Nat) (own:Bool) (f:FuncId) (args:List AB) (i:Nat):C8 cfg AY s dst own f args i=
 (args[i]?).bind fun x=>(val cfg s x).bind fun v=>(B3 s x v).bind fun g=>
  (BK cfg (AK s g.1) (args.set i (.c .AL))).bind fun vs=>(BJ (AK s g.1) vs).bind fun q=>(Vh dst own q.2 (AY f 0 ((q.1.map .d).set i g.2) [])).map fun u=>g.1++u:=by
 unfold C8;cases args[i]? with
 |none=>rfl
 | some x=>
  simp only[Option.bind_some];cases val cfg s x with
  |none=>rfl
  | some v=>
   simp only[Option.bind_some];cases B3 s x v with
   |none=>rfl
   | some g=>
    simp only[Option.bind_some];cases BK cfg (AK s g.1) (args.set i (.c .AL)) with
    |none=>rfl
    | some vs=>
     simp only[Option.bind_some];cases BJ (AK s g.1) vs with
     |none=>rfl
     | some q=>
      simp only[Option.bind_some];cases AY f 0 ((q.1.map .d).set i g.2) [] with
      |none=>rfl
      |some r=>rfl
@[go_sem] theorem updG_get (s:St) (u:List (Loc×V)):AK s.get u=(s.upd u).get:=(eh u s).symm
@[go_sem] theorem kN (s:Get) (x:AB):B3 s x (.d .AL)=some ([],.d .AL):=by cases x<;>rfl
@[go_sem] theorem givenV_sl (s:Get) (x:AB) (es:List D):B3 s x (.d (.sl es))=some ([],.d (.sl es)):=by cases x<;>rfl
@[go_sem] theorem kM (s:Get) (k:Nat) (nw:Bool) (z:Nat) (es:List D):B3 s (.t k) (.own nw z es)=some ([(.slot k,.AM)],.own false z es):=rfl
def aks (l:Loc) (off n:Nat):Option V→Option (List (Loc×V)×V)
 |some (.own false z es)=>if off=0∧n≤es.length then some ([(l,.AM)],.own false z (es.take n)) else none
 |_=>none
@[go_sem] theorem kO (s:Get) (x:AB) (l:Loc) (off n:Nat):B3 s x (.bor l off n)=aks l off n (s l):=by
 unfold aks;cases x<;>(simp only[B3];rfl)
@[go_sem] theorem bbm (l:Loc) (z:Nat) (es:List D):aks l 0 es.length (some (.own false z es))=some ([(l,.AM)],.own false z es):=by simp[aks]
@[go_sem] theorem map_some' {α β:Type} (a:α) (f:α→β):(some a).map f=some (f a):=rfl
attribute [go_sem] List.nil_append List.cons_append
end Go.Ev
namespace Go.Ev
open Go
theorem w9 {k:IntKind} (hk:k.signed=false) {n:Int} (h0:0≤n) (h1:n<2 ^ k.bits):k.wrap n=n:=by
 simp only[IntKind.wrap,hk,Bool.false_and,acb,if_false];exact Int.emod_eq_of_lt h0 h1
theorem qw {k:IntKind} (hk:k.signed=false) (n:Nat):k.wrap (n:Int)=((n % 2 ^ k.bits:Nat):Int):=by
 simp only[IntKind.wrap,hk,Bool.false_and,acb,if_false];simp
section
variable {k:IntKind} (hk:k.signed=false) {a b:Nat} (ha:a<2 ^ k.bits) (hb:b<2 ^ k.bits)
include hk ha
theorem andU:QH k a b=((a &&& b:Nat):Int):=by
 have e:(BitVec.ofInt k.bits (a:Int) &&& BitVec.ofInt k.bits (b:Int)).toNat=a &&& (b % 2 ^ k.bits):=by
  rw[BitVec.toNat_and,BitVec.ofInt_natCast,BitVec.ofInt_natCast,BitVec.toNat_ofNat,BitVec.toNat_ofNat,ads ha]
 have e2:a &&& (b % 2 ^ k.bits)=a &&& b:=by
  apply Nat.eq_of_testBit_eq;intro i;rw[Nat.testBit_and,Nat.testBit_and,Nat.testBit_mod_two_pow];by_cases h:i<k.bits
  · simp[h]
  · have:a.testBit i=false:=Nat.testBit_lt_two_pow (ac1 ha (Nat.pow_le_pow_right abx abu))
    simp[this]
 unfold QH;rw[e,e2,w9 hk abu];have:a &&& b≤a:=Nat.and_le_left;have h2:((2 ^ k.bits:Nat):Int)=2 ^ k.bits:=by simp
 omega
include hb
theorem orU:orI k a b=((a ||| b:Nat):Int):=by
 have e:(BitVec.ofInt k.bits (a:Int) ||| BitVec.ofInt k.bits (b:Int)).toNat=a ||| b:=by
  rw[BitVec.toNat_or,BitVec.ofInt_natCast,BitVec.ofInt_natCast,BitVec.toNat_ofNat,BitVec.toNat_ofNat,ads ha,ads hb]
 unfold orI;rw[e,w9 hk abu];have:a ||| b<2 ^ k.bits:=Nat.or_lt_two_pow ha hb;have h2:((2 ^ k.bits:Nat):Int)=2 ^ k.bits:=by simp
 omega
theorem xorU:HY k a b=((a ^^^ b:Nat):Int):=by
 have e:(BitVec.ofInt k.bits (a:Int) ^^^ BitVec.ofInt k.bits (b:Int)).toNat=a ^^^ b:=by
  rw[BitVec.toNat_xor,BitVec.ofInt_natCast,BitVec.ofInt_natCast,BitVec.toNat_ofNat,BitVec.toNat_ofNat,ads ha,ads hb]
 unfold HY;rw[e,w9 hk abu];have:a ^^^ b<2 ^ k.bits:=Nat.xor_lt_two_pow ha hb;have h2:((2 ^ k.bits:Nat):Int)=2 ^ k.bits:=by simp
 omega
end
theorem shlU {k:IntKind} (hk:k.signed=false) (a:Nat) {n:Nat} (hn:n≤k.bits):Ez k (a:Int) (n:Int)=((a*2 ^ n % 2 ^ k.bits:Nat):Int):=by
 unfold Ez;rw[adv,Nat.min_eq_left hn];have:((a:Int)*2 ^ n)=((a*2 ^ n:Nat):Int):=by simp
 rw[this,qw hk]
theorem IV (k:IntKind) (a:Nat) {n:Nat} (hn:n≤k.bits):FA k (a:Int) (n:Int)=((a / 2 ^ n:Nat):Int):=by
 rw[bdb k _ n hn];simp
theorem H8 (n:Nat):IntKind.u8.wrap (n:Int)=((n % 256:Nat):Int):=qw (k:= .u8) rfl n
theorem lW (n:Nat):IntKind.u64.wrap (n:Int)=((n % 18446744073709551616:Nat):Int):=qw (k:= .u64) rfl n
theorem wv {v:Int} (h0: -18446744073709551616≤v) (h1:v<0):IntKind.u64.wrap v=v+18446744073709551616:=by
 simp[IntKind.wrap,IntKind.signed,IntKind.bits];omega
theorem SY {a:Nat} (h:a<18446744073709551616):HY .u64 a 18446744073709551615=((18446744073709551615-a:Nat):Int):=by
 have:=xorU (k:= .u64) rfl (a:=a) (b:=18446744073709551615) h abx;rw[show((18446744073709551615:Nat):Int)=18446744073709551615 from rfl] at this
 rw[this]
 congr 1
 have e:a ^^^ 18446744073709551615=18446744073709551615-a:=by
  have:=BitVec.xor_allOnes (x:=BitVec.ofNat 64 a);have h2:=congrArg BitVec.toNat this;simp only[BitVec.toNat_xor,BitVec.toNat_ofNat,BitVec.toNat_allOnes,BitVec.toNat_not] at h2;rw[ads h] at h2;omega
 exact e
theorem xor_zero {k:IntKind} {a:Int} (h:k.wrap a=a):HY k a 0=a:=by
 unfold HY;have:BitVec.ofInt k.bits (0:Int)=0#k.bits:=by simp
 rw[this,BitVec.xor_zero,BitVec.toNat_ofInt];have h2:((2 ^ k.bits:Nat):Int)≠0:=by have:=Nat.two_pow_pos k.bits;omega
 rw[Int.toNat_of_nonneg (Int.emod_nonneg _ h2)];rw[show((2 ^ k.bits:Nat):Int)=2 ^ k.bits by simp]
 have:k.wrap (a % 2 ^ k.bits)=k.wrap a:=by
  unfold IntKind.wrap;simp
 rw[this,h]
end Go.Ev
namespace Go.Ev
open Go
variable {X:Kx} {K:List Kf} {s:St}
noncomputable def Fx (X:Kx) (e0:List (Nat×V)) (pre:Bool) (acc:List Rec) (un:List (Nat×Nat)) (ops:List AS) (Ac:List Nat) (K:List Kf) (s:St):Ans:=
 match Bf X.cfg (evL X.cfg) X.dep e0 pre ops s with
 |some (l,s')=>if DW (acc++l) un then go X K (settle X.dep Ac s') else none
 |none=>none
theorem go_regionU' (ops:List AS) (p:Nat×Nat) (un:List (Nat×Nat)) (Ac:List Nat):go X (.c (.region ops (p::un) Ac)::K) s=Fx X s.env true [] (p::un) ops Ac K s:=by
 unfold go Fx;rw[aj,wt];unfold A9;simp only[List.nil_append];cases Bf X.cfg (evL X.cfg) X.dep s.env true ops s with
 |none=>exact ah _ _
 | some r=>
  obtain⟨l,s'⟩:=r;by_cases hu:DW l (p::un)=true
  · simp only[hu,if_true]
    rfl
  · simp only[hu,acb,if_false]
    exact ah _ _
noncomputable def GJ (X:Kx) (e0:List (Nat×V)) (pre:Bool) (acc:List Rec) (un:List (Nat×Nat)) (o:AS) (r:List AS) (Ac:List Nat) (K:List Kf) (s:St) (b:Bool) (u:List (Loc×V)):Ans:=
 Fx X e0 (pre&&u.all fun p=>p.2.calm X.dep) (acc++[(b,u.all (fun p=>p.2.calm X.dep),b9 X.dep s.get o,u.map (·.1))]) un r Ac K (s.upd u)
noncomputable def GK (X:Kx) (e0:List (Nat×V)) (pre:Bool) (acc:List Rec) (un:List (Nat×Nat)) (o:AS) (r:List AS) (Ac:List Nat) (K:List Kf) (s:St):Option (List (Loc×V))→Option V→Option Nat→Ans
 |some ch,some v,some k=>GJ X e0 pre acc un o r Ac K s true (ch++[(.slot k,v)])
 |_,_,_=>none
noncomputable def QY (X:Kx) (e0:List (Nat×V)) (pre:Bool) (acc:List Rec) (un:List (Nat×Nat)) (o:AS) (r:List AS) (Ac:List Nat) (K:List Kf) (s:St):Option St→Ans
 |some s'=>if(D7 X.dep e0&&pre)=true then GK X e0 pre acc un o r Ac K s (BL (Er X.cfg s.get o.op) s.mem s'.mem) (o.dst.bind (lk s'.env)) o.dst else none
 |none=>none
noncomputable def QZ (X:Kx) (e0:List (Nat×V)) (pre:Bool) (acc:List Rec) (un:List (Nat×Nat)) (o:AS) (r:List AS) (Ac:List Nat) (K:List Kf) (s:St):Option (List (Loc×V))→Ans
 |some u=>GJ X e0 pre acc un o r Ac K s false u
 |none=>QY X e0 pre acc un o r Ac K s (BN X.cfg (evL X.cfg) X.dep s o)
@[go_sem] theorem goRU_step (e0:List (Nat×V)) (pre:Bool) (acc:List Rec) (un:List (Nat×Nat)) (o:AS) (r:List AS) (Ac:List Nat):Fx X e0 pre acc un (o::r) Ac K s=QZ X e0 pre acc un o r Ac K s (Ae X.cfg (evL X.cfg) X.dep s.get o):=by
 have key:∀ b u,Bt X.cfg (evL X.cfg) X.dep e0 pre s o=some (b,u)→Fx X e0 pre acc un (o::r) Ac K s=GJ X e0 pre acc un o r Ac K s b u:=by
  intro b u h;unfold GJ Fx;rw[Bf,h];simp only;cases Bf X.cfg (evL X.cfg) X.dep e0 (pre&&u.all fun p=>p.2.calm X.dep) r (s.upd u) with
  |none=>rfl
  |some q=>obtain⟨l,s'⟩:=q;simp only[ac4,List.singleton_append]
 have no:Bt X.cfg (evL X.cfg) X.dep e0 pre s o=none→Fx X e0 pre acc un (o::r) Ac K s=none:=by
  intro h;unfold Fx;rw[Bf,h]
 unfold QZ;cases h1:Ae X.cfg (evL X.cfg) X.dep s.get o with
 | some u=>
  refine key false u ?_;unfold Bt;rw[h1]
 | none=>
  simp only;unfold QY;cases h2:BN X.cfg (evL X.cfg) X.dep s o with
  | none=>
   refine no ?_;unfold Bt;rw[h1,h2];simp
  | some s'=>
   simp only;by_cases h3:(D7 X.dep e0&&pre)=true
   · rw[if_pos h3]
     cases h4:o.dst with
     | none=>
      refine(no ?_).trans (by unfold GK;cases BL (Er X.cfg s.get o.op) s.mem s'.mem<;>rfl)
      unfold Bt;rw[h1];simp only[h3,if_true,h2,h4]
     | some k=>
      simp only[Option.bind_some];cases h5:BL (Er X.cfg s.get o.op) s.mem s'.mem with
      | none=>
       refine(no ?_).trans (by unfold GK;rfl)
       unfold Bt;rw[h1];simp only[h3,if_true,h2,h4,h5]
      | some ch=>
       cases h6:lk s'.env k with
       | none=>
        refine(no ?_).trans (by unfold GK;rfl)
        unfold Bt;rw[h1];simp only[h3,if_true,h2,h4,h5,h6]
       | some v=>
        refine(key true (ch++[(.slot k,v)]) ?_).trans (by unfold GK;rfl)
        unfold Bt;rw[h1];simp only[h3,if_true,h2,h4,h5,h6]
   · rw[if_neg h3]
     refine no ?_;unfold Bt;rw[h1];simp only[if_neg h3]
section
variable (e0:List (Nat×V)) (pre:Bool) (acc:List Rec) (un:List (Nat×Nat)) (o:AS) (r:List AS) (Ac:List Nat)
@[go_sem] theorem kI (u:List (Loc×V)):QZ X e0 pre acc un o r Ac K s (some u)=GJ X e0 pre acc un o r Ac K s false u:=rfl
@[go_sem] theorem kJ:QZ X e0 pre acc un o r Ac K s none=QY X e0 pre acc un o r Ac K s (BN X.cfg (evL X.cfg) X.dep s o):=rfl
@[go_sem] theorem goRUX_def (b:Bool) (u:List (Loc×V)):GJ X e0 pre acc un o r Ac K s b u=Fx X e0 (pre&&u.all fun p=>p.2.calm X.dep) (acc++[(b,u.all (fun p=>p.2.calm X.dep),b9 X.dep s.get o,u.map (·.1))]) un r Ac K (s.upd u):=rfl
@[go_sem] theorem kG (s':St):QY X e0 pre acc un o r Ac K s (some s')=if(D7 X.dep e0&&pre)=true then GK X e0 pre acc un o r Ac K s (BL (Er X.cfg s.get o.op) s.mem s'.mem) (o.dst.bind (lk s'.env)) o.dst else none:=rfl
@[go_sem] theorem kH (ch:List (Loc×V)) (v:V) (k:Nat):GK X e0 pre acc un o r Ac K s (some ch) (some v) (some k)=GJ X e0 pre acc un o r Ac K s true (ch++[(.slot k,v)]):=rfl
end
@[go_sem] theorem goRU_end (e0:List (Nat×V)) (pre:Bool) (acc:List Rec) (un:List (Nat×Nat)) (Ac:List Nat) (e:List (Nat×V)) (m:List (Cel×V)) (h:DW acc un=true):
  Fx X e0 pre acc un [] Ac K ⟨e,m⟩=go X K ⟨Bc X.dep Ac e,BG X.dep m⟩:=by
 unfold Fx;simp only[Bf,List.append_nil,h,if_true];rfl
@[go_sem] theorem calm_d (n:Nat) (y:D):V.calm n (.d y)=true:=rfl
@[go_sem] theorem calm_own (n:Nat) (b:Bool) (z:Nat) (es:List D):V.calm n (.own b z es)=true:=rfl
@[go_sem] theorem calm_junk (n:Nat):V.calm n .AM=true:=rfl
@[go_sem] theorem calm_iptr (n:Nat) (e:D) (o:Nat):V.calm n (.Af e o)=true:=rfl
@[go_sem] theorem calm_ref (n d k o:Nat):V.calm n (.ref d k o)=decide (d<n+1):=rfl
@[go_sem] theorem calm_bor (n k a b:Nat):V.calm n (.bor (.slot k) a b)=true:=rfl
@[go_sem] theorem calm_bref (n k a b:Nat):V.calm n (.Am (.slot k) a b)=true:=rfl
@[go_sem] theorem calm_borC (n:Nat) (c:Cel) (a b:Nat):V.calm n (.bor (.cell c) a b)=false:=rfl
@[go_sem] theorem nJ (n:Nat) (c:Cel) (a b:Nat):V.calm n (.Am (.cell c) a b)=false:=rfl
@[go_sem] theorem calm_rcd (n:Nat) (ys:List V):V.calm n (.rcd ys)=false:=rfl
@[go_sem] theorem calm_clo (n:Nat) (f:FuncId) (a b:List V):V.calm n (.clo f a b)=(V.CA (n+1) a&&V.CA (n+1) b):=rfl
@[go_sem] theorem calm_ifc (n:Nat) (t:TypeId) (v:V):V.calm n (.ifc t v)=v.A4 (n+1):=rfl
@[go_sem] theorem calm_vec (n:Nat) (ys:List V):V.calm n (.vec ys)=V.CA (n+1) ys:=rfl
@[go_sem] theorem calm_vref (n:Nat) (y:V):V.calm n (.BB y)=y.A4 (n+1):=rfl
@[go_sem] theorem calmE_nil (n:Nat):D7 n []=true:=rfl
@[go_sem] theorem nK (n k:Nat) (v:V) (r:List (Nat×V)):D7 n ((k,v)::r)=(v.calm n&&D7 n r):=rfl
mutual
theorem D.Dt:∀ a:D,D.eqb a a=true
 | .bool a=>by simp[D.eqb]
 | .int k a=>by simp[D.eqb]
 | .str a=>by simp[D.eqb]
 | .AL| .Bs| .Be| .CU| .Dn| .unk| .Cy=>rfl
 | .sl a=>by simp[D.eqb,D.Ds a]
 | .agg a=>by simp[D.eqb,D.Ds a]
 | .tup a=>by simp[D.eqb,D.Ds a]
 | .ptr a=>by simp[D.eqb,D.Dt a]
 | .ifc t a=>by simp[D.eqb,D.Dt a]
 | .fn f=>by simp[D.eqb]
theorem D.Ds:∀ a:List D,D.DT a a=true
 | []=>rfl
 |a::r=>by simp[D.DT,D.Dt a,D.Ds r]
end
mutual
theorem V.Eb:∀ a:V,V.eqb a a=true
 | .d a=>by simp[V.eqb,D.Dt a]
 | .own n z a=>by simp[V.eqb,D.Ds a]
 | .Af a o=>by simp[V.eqb,D.Dt a]
 | .ref e k o=>by simp[V.eqb]
 | .clo f a b=>by simp[V.eqb,V.DN a,V.DN b]
 | .ifc t a=>by simp[V.eqb,V.Eb a]
 | .AM=>rfl
 | .bor l a b=>by simp[V.eqb]
 | .Am l a b=>by simp[V.eqb]
 | .vec a=>by simp[V.eqb,V.DN a]
 | .BB a=>by simp[V.eqb,V.Eb a]
 | .rcd a=>by simp[V.eqb,V.DN a]
theorem V.DN:∀ a:List V,V.DT a a=true
 | []=>rfl
 |a::r=>by simp[V.DT,V.Eb a,V.DN r]
end
@[go_sem] theorem Dt (a:V):V.eqb a a=true:=V.Eb a
@[go_sem] theorem Zw (cs:Option (List Cel)):BL cs [] []=some []:=rfl
@[go_sem] theorem Zx (c c':Cel) (v v':V) (r r':List (Cel×V)):BL none ((c,v)::r) ((c',v')::r')=if c=c' then(BL none r r').map fun u=>u++[(.cell c,v')] else none:=rfl
@[go_sem] theorem Xi (l:List Cel) (c c':Cel) (v v':V) (r r':List (Cel×V)):BL (some l) ((c,v)::r) ((c',v')::r')=if c=c' then(if l.contains c then(BL (some l) r r').map fun u=>u++[(.cell c,v')] else if v.eqb v' then(BL (some l) r r').map fun u=>u.filter fun p=> !decide (p.1= .cell c) else none) else none:=rfl
@[go_sem] theorem YR (vs:List V):CZ vs []=[]:=rfl
def mM (o:Nat) (cs:List Cel):Option V→List Cel
 |some (.ref d k off)=>⟨d,k,off+o⟩::cs
 |_=>cs
@[go_sem] theorem Wl (vs:List V) (i o:Nat) (r:List (Nat×Nat)):CZ vs ((i,o)::r)=mM o (CZ vs r) vs[i]? :=by
 rw[CZ];unfold mM;cases vs[i]? with
 |none=>rfl
 |some v=>cases v<;>rfl
@[go_sem] theorem chgQ_ref (o:Nat) (cs:List Cel) (d k off:Nat):mM o cs (some (.ref d k off))=⟨d,k,off+o⟩::cs:=rfl
def mL (cfg:Cfg):Option (Bool×FuncId×List V)→Option (List Cel)
 |some t=>(cfg.chg t.2.1).map (CZ t.2.2)
 |none=>none
@[go_sem] theorem chgOf_def (cfg:Cfg) (s:Get) (op:IOp):Er cfg s op=mL cfg (target cfg s op):=by
 unfold Er mL;cases target cfg s op with
 |none=>rfl
 |some t=>rfl
@[go_sem] theorem chgT_some (cfg:Cfg) (t:Bool×FuncId×List V):mL cfg (some t)=(cfg.chg t.2.1).map (CZ t.2.2):=rfl
@[go_sem] theorem Zf (cfg:Cfg) (s:Get) (own:Bool) (f:FuncId) (args:List AB):target cfg s (.call own f args)=(BK cfg s args).map fun vs=>(own,f,vs):=rfl
attribute [go_sem] List.filter_nil List.filter_cons Option.bind_some List.contains_nil List.contains_cons
def behind (n:Nat):Option V→List Loc
 |some (.bor l _ _)=>[l]
 |some (.Am l _ _)=>[l]
 |some (.ref d j off)=>gp d j off n
 |_=>[]
@[go_sem] theorem behind_d (n:Nat) (y:D):behind n (some (.d y))=[]:=rfl
@[go_sem] theorem nP (n:Nat) (nw:Bool) (z:Nat) (es:List D):behind n (some (.own nw z es))=[]:=rfl
@[go_sem] theorem nS (n:Nat) (l:Loc) (a b:Nat):behind n (some (.bor l a b))=[l]:=rfl
@[go_sem] theorem bE (n:Nat) (l:Loc) (a b:Nat):behind n (some (.Am l a b))=[l]:=rfl
@[go_sem] theorem bD (n:Nat) (e:D) (o:Nat):behind n (some (.Af e o))=[]:=rfl
@[go_sem] theorem bC (n:Nat):behind n (some .AM)=[]:=rfl
@[go_sem] theorem nM (n:Nat) (ys:List V):behind n (some (.vec ys))=[]:=rfl
@[go_sem] theorem bB (n:Nat) (y:V):behind n (some (.BB y))=[]:=rfl
@[go_sem] theorem nR (n:Nat) (f:FuncId) (a b:List V):behind n (some (.clo f a b))=[]:=rfl
@[go_sem] theorem nQ (n:Nat) (t:TypeId) (v:V):behind n (some (.ifc t v))=[]:=rfl
@[go_sem] theorem nN (n d j off:Nat):behind n (some (.ref d j off))=gp d j off n:=rfl
@[go_sem] theorem opdLocs_t (s:Get) (n k:Nat):aa s n (.t k)= .slot k::behind n (s (.slot k)):=by
 unfold behind;simp only[aa];rfl
@[go_sem] theorem opdLocs_c (s:Get) (n:Nat) (d:D):aa s n (.c d)=[]:=rfl
@[go_sem] theorem opdLocs_g (s:Get) (n:Nat) (d:Nat):aa s n (.g d)=[]:=rfl
def Px (dep:Nat) (dst:Option Nat):IOp→List Loc
 | .alloc _| .box _ _=>match dst with
  |some k=>[.cell ⟨dep,k,0⟩]
  |none=>[]
 |_=>[]
@[go_sem] theorem readsOf_n (dep:Nat) (s:Get) (dst:Option Nat) (op:IOp):b9 dep s ⟨dst,none,op⟩=Px dep dst op++op.operands.flatMap (aa s op.span):=by
 cases op<;>cases dst<;>rfl
@[go_sem] theorem readsOf_g (dep:Nat) (s:Get) (dst:Option Nat) (k:Nat) (b:Bool) (op:IOp):b9 dep s ⟨dst,some (k,b),op⟩= .slot k::(Px dep dst op++op.operands.flatMap (aa s op.span)):=by
 cases op<;>cases dst<;>rfl
@[go_sem] theorem eY (neg:Bool) (e:D) (es:List D):mj neg (.d (.sl (e::es)))=some (.bool neg):=rfl
@[go_sem] theorem isNil_own (neg nw:Bool) (z:Nat) (es:List D):mj neg (.own nw z es)=some (.bool neg):=rfl
@[go_sem] theorem isNil_bor (neg:Bool) (l:Loc) (a b:Nat):mj neg (.bor l a b)=some (.bool neg):=rfl
attribute [go_sem] Px IOp.operands IOp.span List.flatMap_cons List.flatMap_nil gp Option.toList
theorem FD {n:Nat} (h:n≤1000000000):(n≤bh)=True:=by
 have:(1000000000:Nat)≤bh:=by unfold bh;decide
 simp;omega
def WG (dst:Option Nat) (z:Nat) (l:Loc) (off n:Nat) (ys:List D):Option V→Option (List (Loc×V))
 |some (.own false z' es)=>if off=0∧n≤es.length∧z'=z∧n+ys.length≤bh then some (AG dst (.own true z (es.take n++ys))++[(l,.AM)]) else none
 |_=>none
def Ge (s:Get) (dst:Option Nat) (z:Nat) (x:AB) (v:V) (ys:List D):Option (List (Loc×V)):=
 match x,v with
  | _,.d .AL=>match ys with
   | []=>some (AG dst (.d .AL))
   |_=>if ys.length≤bh then some (AG dst (.own true z ys)) else none
  | _,.d (.sl es)=>match ys with
   | []=>some (AG dst (.d (.sl es)))
   |_=>none
  | .t k,.own _ z' es=>if z'=z∧es.length+ys.length≤bh then some (AG dst (.own true z (es++ys))++[(.slot k,.AM)]) else none
  |_,.bor l off n=>WG dst z l off n ys (s l)
  |_,_=>none
@[go_sem] theorem YF (s:Get) (dst:Option Nat) (z bytes:Nat) (x:AB) (v:V) (ys:List D):fh s dst z bytes x v ys=if(B5 z ys&&decide (bytes≤2048))=true then Ge s dst z x v ys else none:=rfl
section
variable (g:Get) (dst:Option Nat) (z:Nat) (x:AB)
@[go_sem] theorem appV_nil0:Ge g dst z x (.d .AL) []=some (AG dst (.d .AL)):=by cases x<;>rfl
@[go_sem] theorem WD (y:D) (ys:List D) (h:(y::ys).length≤1000000000):Ge g dst z x (.d .AL) (y::ys)=some (AG dst (.own true z (y::ys))):=by
 have:=FD h;cases x<;>simp[Ge,FD h]<;>simpa using this
theorem SK {ys:List D} (hn:ys≠[]) (h:ys.length≤1000000000):Ge g dst z x (.d .AL) ys=some (AG dst (.own true z ys)):=by
 cases ys with
 |nil=>exact absurd rfl hn
 |cons y ys=>exact WD g dst z x y ys h
@[go_sem] theorem appV_sl0 (es:List D):Ge g dst z x (.d (.sl es)) []=some (AG dst (.d (.sl es))):=by cases x<;>rfl
@[go_sem] theorem appV_own (k:Nat) (nw:Bool) (es ys:List D) (h:es.length+ys.length≤1000000000):Ge g dst z (.t k) (.own nw z es) ys=some (AG dst (.own true z (es++ys))++[(.slot k,.AM)]):=by
 simp[Ge,FD h]
@[go_sem] theorem appV_bor (l:Loc) (off n:Nat) (ys:List D):Ge g dst z x (.bor l off n) ys=WG dst z l off n ys (g l):=by cases x<;>rfl
@[go_sem] theorem WE (l:Loc) (n:Nat) (es ys:List D) (hn:n=es.length) (h:es.length+ys.length≤1000000000):WG dst z l 0 n ys (some (.own false z es))=some (AG dst (.own true z (es++ys))++[(l,.AM)]):=by
 subst hn;simp[WG,FD h]
@[go_sem] theorem borQ_own' (l:Loc) (n:Nat) (es:List D) (hn:n=es.length):V3 dst l 0 n (some (.own false z es))=if dst.map Loc.slot=some l then some [(l,.own true z es)] else some (AG dst (.own true z es)++[(l,.AM)]):=by
 subst hn;exact V2 dst l z es
@[go_sem] theorem aB (l:Loc) (n:Nat) (es:List D) (hn:n=es.length):aks l 0 n (some (.own false z es))=some ([(l,.AM)],.own false z es):=by
 subst hn;exact bbm l z es
@[go_sem high] theorem argQ_own' (n:Nat) (es:List D) (hn:n=es.length):WA 0 n (some (.own false z es))=some (.sl es,true):=by
 subst hn;simp[WA]
@[go_sem high] theorem mB (n:Nat) (es:List D) (hn:n=es.length):H9 0 n (some (.own false z es))=some es:=by
 subst hn;simp[H9]
end
@[go_sem] theorem allZ_nil (z:Nat):B5 z []=true:=rfl
@[go_sem] theorem allZ_cons (z:Nat) (e:D) (r:List D):B5 z (e::r)=(e.cells.length==z&&B5 z r):=rfl
theorem FO {α:Type} {z:Nat} {f:α→D} (h:∀ x,(f x).cells.length=z) (l:List α):B5 z (l.map f)=true:=by
 induction l with
 |nil=>rfl
 |cons b l ih=>simp[B5,h b,ih]
@[go_sem] theorem QI (l:List UInt8):B5 1 (l.map AD)=true:=FO (f:=AD) (fun _=>rfl) l
@[go_sem] theorem SL (k:IntKind) (l:List Int):B5 1 (l.map (D.int k))=true:=FO (f:=D.int k) (fun _=>rfl) l
@[go_sem] theorem allZ_strs (l:List (List UInt8)):B5 1 (l.map D.str)=true:=FO (f:=D.str) (fun _=>rfl) l
@[go_sem] theorem allZ_take (z n:Nat) (l:List D) (h:B5 z l=true):B5 z (l.take n)=true:=by
 induction l generalizing n with
 |nil=>simp[B5]
 | cons e l ih=>
  simp only[B5,aca] at h;cases n with
  |zero=>rfl
  |succ n=>simp[B5,ih n h.2];simpa using h.1
@[go_sem] theorem allZ_drop (z n:Nat) (l:List D) (h:B5 z l=true):B5 z (l.drop n)=true:=by
 induction l generalizing n with
 |nil=>simp[B5]
 | cons e l ih=>
  simp only[B5,aca] at h;cases n with
  |zero=>simp[B5,h.2];simpa using h.1
  |succ n=>simpa using ih n h.2
theorem Hy {z:Nat} {es:List D} (h:B5 z es=true):En z es=true:=by
 cases es with
 |nil=>rfl
 |cons e es=>simp only[B5,aca] at h;exact h.1
@[go_sem] theorem headZ_nil (z:Nat):En z []=true:=rfl
@[go_sem] theorem kE (z:Nat) (e:D) (r:List D):En z (e::r)=(e.cells.length==z):=rfl
@[go_sem] theorem Z8 (l:List UInt8):En 1 (l.map AD)=true:=Hy (QI l)
@[go_sem] theorem kD (k:IntKind) (l:List Int):En 1 (l.map (D.int k))=true:=Hy (SL k l)
variable {cfg:Cfg}
def Qs (dst:Option Nat) (z:Nat) (loc:Loc) (off l h:Nat):Option V→Option (List (Loc×V))
 |some (.own false z' _)=>if z'=z then some (AG dst (.bor loc (off+l) (h-l))) else none
 |_=>none
def Gx (s:Get) (dst:Option Nat) (z:Nat) (x:AB) (l h:Nat) (v:V):Option (List (Loc×V)):=
 match x,v with
  |_,.d .AL=>some (AG dst (.d .AL))
  |_,.d (.sl es)=>if En z es then some (AG dst (.d (.sl ((es.take h).drop l)))) else none
  | .t k,.own false z' _=>if z'=z then some (AG dst (.bor (.slot k) l (h-l))) else none
  | .t k,.own true z' es=>if z'=z then some (AG dst (.own true z ((es.take h).drop l))++[(.slot k,.AM)]) else none
  |_,.bor loc off _=>Qs dst z loc off l h (s loc)
  |_,_=>none
@[go_sem] theorem aK (s:Get) (dst:Option Nat) (z:Nat) (x:AB) (v:V) (lo hi:Option AB):gd cfg s dst z x v lo hi none=(cont s v).bind fun es=>(bf cfg s es.length lo hi).bind fun lh=>Gx s dst z x lh.1 lh.2 v:=by
 unfold gd Gx Qs;cases cont s v with
 |none=>rfl
 | some es=>
  simp only[Ek,Option.bind_some];cases bf cfg s es.length lo hi with
  |none=>rfl
  |some lh=>obtain⟨l,h⟩:=lh;simp only[Option.isSome_none,Bool.false_and,acb,if_false,Option.bind_some];rfl
section
variable (g:Get) (dst:Option Nat) (z:Nat) (x:AB) (l h:Nat)
@[go_sem] theorem slcV_nil:Gx g dst z x l h (.d .AL)=some (AG dst (.d .AL)):=by cases x<;>rfl
@[go_sem] theorem slcV_sl (es:List D):Gx g dst z x l h (.d (.sl es))=if En z es=true then some (AG dst (.d (.sl ((es.take h).drop l)))) else none:=by cases x<;>rfl
@[go_sem] theorem slcV_ownT (k:Nat) (es:List D):Gx g dst z (.t k) l h (.own true z es)=some (AG dst (.own true z ((es.take h).drop l))++[(.slot k,.AM)]):=by simp[Gx]
@[go_sem] theorem slcV_bor (loc:Loc) (off n:Nat):Gx g dst z x l h (.bor loc off n)=Qs dst z loc off l h (g loc):=by cases x<;>rfl
@[go_sem] theorem slcB_own (loc:Loc) (off:Nat) (es:List D):Qs dst z loc off l h (some (.own false z es))=some (AG dst (.bor loc (off+l) (h-l))):=by simp[Qs]
@[go_sem] theorem lN:D2 dst x (.d .AL)=some (AG dst (.d .AL)):=by cases x<;>rfl
@[go_sem] theorem evClip_sl (es:List D):D2 dst x (.d (.sl es))=some (AG dst (.d (.sl es))):=by cases x<;>rfl
@[go_sem] theorem lM (nw:Bool) (es:List D):D2 dst x (.own nw z es)=Dr dst x (.own nw z es):=rfl
@[go_sem] theorem lO (loc:Loc) (a b:Nat):D2 dst x (.bor loc a b)=some (AG dst (.bor loc a b)):=by cases x<;>rfl
def Fw (dst:Option Nat) (z:Nat) (l:Loc) (i:Nat):Option V→Option (List (Loc×V))
 |some (.own false z' _)=>if z'=z then some (AG dst (.Am l i 0)) else none
 |_=>none
theorem Rx (loc:Loc) (off len:Nat) {n:Int} (h0:0≤n) (h1:n<len):Br g dst z x (.bor loc off len) n=Fw dst z loc (off+n.toNat) (g loc):=by
 unfold Br Fw;rw[if_neg abu];have:n.toNat<len:=abu;cases x<;>simp only[this,true_and]<;>cases g loc<;>rfl
@[go_sem] theorem lK (loc:Loc) (off len:Nat) {n:Nat} (h1:n<len):Br g dst z x (.bor loc off len) (n:Int)=Fw dst z loc (off+n) (g loc):=by
 rw[Rx g dst z x loc off len abu abu,adv]
@[go_sem] theorem idxB_own (loc:Loc) (i:Nat) (es:List D):Fw dst z loc i (some (.own false z es))=some (AG dst (.Am loc i 0)):=by simp[Fw]
end
@[go_sem high] theorem aU (c:UInt8):(AD c).cells=[AD c]:=rfl
@[go_sem] theorem Sk (c:UInt8):(AD c).storable=true:=rfl
@[go_sem] theorem aX (c:UInt8):(AD c).canon=AD c:=rfl
@[go_sem] theorem Ze (c:UInt8):(AD c).toInt? =some (c.toNat:Int):=rfl
@[go_sem] theorem asD_byteD (c:UInt8):V.asD (.d (AD c))=some (AD c):=rfl
end Go.Ev
namespace Go.Ev
open Go
def inI (n:Int):Prop:= -9223372036854775808≤n∧n<9223372036854775808
instance (n:Int):Decidable (inI n):=by unfold inI;infer_instance
theorem tdp {a k:Int} (h:0≤a):a.tdiv k=a / k:=Int.tdiv_eq_ediv_of_nonneg h
theorem tmp {a k:Int} (h:0≤a):a.tmod k=a % k:=Int.tmod_eq_emod_of_nonneg h
def Ft (v:Int):Nat:=if v<0 then(-2*v-1).toNat else(2*v).toNat
theorem ary {v:Int} (h:inI v):Ft v<18446744073709551616:=by
 unfold Ft inI at *;split<;>omega
theorem SX {v:Int} (h:inI v):HY .u64 (Ez .u64 (IntKind.u64.wrap v) 1) (IntKind.u64.wrap (FA .i64 v 63))=Ft v:=by
 unfold inI at h;have hs:=bdb .i64 v 63 abx;rw[show((63:Nat):Int)=63 from rfl] at hs
 rw[hs];by_cases c:v<0
 · have e1:v / 2 ^ 63= -1:=abu
   have e2:IntKind.u64.wrap (-1)=18446744073709551615:=abx;have hsl:=shlU (k:= .u64) rfl (v+18446744073709551616).toNat (n:=1) abx;rw[show(((v+18446744073709551616).toNat:Nat):Int)=v+18446744073709551616 by omega,show((1:Nat):Int)=1 from rfl] at hsl
   rw[e1,e2,wv abu c,hsl,SY (by have:=Nat.mod_lt ((v+18446744073709551616).toNat*2 ^ 1) (show 0<2 ^ IntKind.u64.bits by decide);simpa[IntKind.bits] using this)]
   unfold Ft;rw[if_pos c];simp only[IntKind.bits];omega
 · have e1:v / 2 ^ 63=0:=abu
   have hsl:=shlU (k:= .u64) rfl v.toNat (n:=1) abx;rw[show((v.toNat:Nat):Int)=v by omega,show((1:Nat):Int)=1 from rfl] at hsl
   rw[e1,dr abu abu,hsl,dr abu abu,xor_zero]
   · unfold Ft
     rw[if_neg c];simp only[IntKind.bits];omega
   · simp only[IntKind.bits]
     rw[lW];omega
theorem XP (u:Nat):FA .u64 (u:Int) 1=((u / 2:Nat):Int):=by
 have:=IV .u64 u (n:=1) abx;rw[show((1:Nat):Int)=1 from rfl] at this
 rw[this]
def Dd:Nat→Nat→List UInt8
 |0,_=>[]
 |k+1,u=>if u<128 then[UInt8.ofNat u] else UInt8.ofNat (u % 128+128)::Dd k (u / 128)
theorem xa:∀ (k u:Nat),(Dd k u).length≤k
 |0,_=>ab5 _
 | k+1,u=>by
  unfold Dd;split
  · simp
  · have:=xa k (u / 128)
    simp;omega
theorem u8_of {n:Nat} (h:n<256):(UInt8.ofNat n).toNat=n:=by
 simp[UInt8.toNat_ofNat'];omega
theorem bk2 (u:Nat):orI .u8 (((u % 256:Nat)):Int) 128=((u % 128+128:Nat):Int):=by
 have:∀ n:Fin 256,orI .u8 (n.val:Int) 128=((n.val % 128+128:Nat):Int):=by decide +kernel
 have h:=this ⟨u % 256,Nat.mod_lt _ abx⟩;simpa using h
theorem br (b:UInt8):AD b= .int .u8 b.toNat:=rfl
theorem aj4 (l:List UInt8):D.CT (l.map AD)=true:=by
 induction l with
 |nil=>rfl
 |cons b l ih=>simp[D.CT,D.plain,AD,ih]
theorem ap3 (k:IntKind) (l:List Int):D.CT (l.map (D.int k))=true:=by
 induction l with
 |nil=>rfl
 |cons b l ih=>simp[D.CT,D.plain,ih]
attribute [go_sem] aj4 ap3
@[go_sem] theorem aq8 (l:List UInt8):b7 (l.map AD)=some l:=by
 induction l with
 |nil=>rfl
 | cons b l ih=>
  simp only[List.map_cons,br,ald,ih,Option.map_some]
  congr 2
  simp
theorem gz {n:Nat} (h:n<256):AD (UInt8.ofNat n)= .int .u8 (n:Int):=by rw[br,u8_of h]
theorem abf (u:Nat):FA .u64 (u:Int) 7=((u / 128:Nat):Int):=by
 have:=IV .u64 u (n:=7) abx;rw[show((7:Nat):Int)=7 from rfl] at this
 rw[this]
end Go.Ev
namespace Go.Ev
open Go Go.RowKit
def mkD:List D→D
 | [x]=>x
 |xs=> .agg xs
variable {P:Program} {W:World} {H:Type} {enc:TypeId×Value→H} {base:Nat} {spare:Nat→Bool} {held:Bool} {t e:TypeId} {v:Value} {x:DataW H×List MemPlace}
