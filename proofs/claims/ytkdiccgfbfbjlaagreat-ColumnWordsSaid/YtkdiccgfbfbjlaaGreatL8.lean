import Derived.Test.YtkdiccgfbfbjlaaGreatL7
import Derived.OpenShut
namespace Go.Ev
open Go
def callGQ (dst:Option Nat) (own shared:Bool):Ans→Option (List (Loc×V))
 |some (r,_)=>landed dst own shared r
 |none=>none
@[go_sem] theorem callGQ_some (dst:Option Nat) (own shared:Bool) (r:V) (m:List (Cel×V)):callGQ dst own shared (some (r,m))=landed dst own shared r:=rfl
variable {cfg:Cfg} {orc:Orc} {dep:Nat}
@[go_sem] theorem U_callg (s:Get) (k:Nat) (own:Bool) (f:FuncId) (args:List IOpd) (i:Nat):stepU cfg orc dep s ⟨some k,none,.callg own f args i⟩=callG cfg orc s (some k) own f args i:=rfl
@[go_sem] theorem callG_def (s:Get) (dst:Option Nat) (own:Bool) (f:FuncId) (args:List IOpd) (i:Nat):callG cfg orc s dst own f args i=
 (args[i]?).bind fun x=>(val cfg s x).bind fun v=>(givenV s x v).bind fun g=>
  (vals cfg (updG s g.1) (args.set i (.c .nilS))).bind fun vs=>(argsD (updG s g.1) vs).bind fun q=>(callGQ dst own q.2 (orc f 0 ((q.1.map .d).set i g.2) [])).map fun u=>g.1++u:=by
 unfold callG;cases args[i]? with
 |none=>rfl
 | some x=>
  simp only[Option.bind_some];cases val cfg s x with
  |none=>rfl
  | some v=>
   simp only[Option.bind_some];cases givenV s x v with
   |none=>rfl
   | some g=>
    simp only[Option.bind_some];cases vals cfg (updG s g.1) (args.set i (.c .nilS)) with
    |none=>rfl
    | some vs=>
     simp only[Option.bind_some];cases argsD (updG s g.1) vs with
     |none=>rfl
     | some q=>
      simp only[Option.bind_some];cases orc f 0 ((q.1.map .d).set i g.2) [] with
      |none=>rfl
      |some r=>rfl
@[go_sem] theorem updG_get (s:St) (u:List (Loc×V)):updG s.get u=(s.upd u).get:=(d7 u s).symm
@[go_sem] theorem givenV_nil (s:Get) (x:IOpd):givenV s x (.d .nilS)=some ([],.d .nilS):=by cases x<;>rfl
@[go_sem] theorem givenV_sl (s:Get) (x:IOpd) (es:List D):givenV s x (.d (.sl es))=some ([],.d (.sl es)):=by cases x<;>rfl
@[go_sem] theorem givenV_own (s:Get) (k:Nat) (nw:Bool) (z:Nat) (es:List D):givenV s (.t k) (.own nw z es)=some ([(.slot k,.junk)],.own false z es):=rfl
def aei (l:Loc) (off n:Nat):Option V→Option (List (Loc×V)×V)
 |some (.own false z es)=>if off=0∧n≤es.length then some ([(l,.junk)],.own false z (es.take n)) else none
 |_=>none
@[go_sem] theorem givenV_bor (s:Get) (x:IOpd) (l:Loc) (off n:Nat):givenV s x (.bor l off n)=aei l off n (s l):=by
 unfold aei;cases x<;>(simp only[givenV];rfl)
@[go_sem] theorem av9 (l:Loc) (z:Nat) (es:List D):aei l 0 es.length (some (.own false z es))=some ([(l,.junk)],.own false z es):=by simp[aei]
@[go_sem] theorem map_some' {α β:Type} (a:α) (f:α→β):(some a).map f=some (f a):=rfl
attribute [go_sem] List.nil_append List.cons_append
end Go.Ev
namespace Go.Ev
open Go
theorem wrapU_of {k:IntKind} (hk:k.signed=false) {n:Int} (h0:0≤n) (h1:n<2 ^ k.bits):k.wrap n=n:=by
 simp only[IntKind.wrap,hk,Bool.false_and,zf,if_false];exact Int.emod_eq_of_lt h0 h1
theorem o8 {k:IntKind} (hk:k.signed=false) (n:Nat):k.wrap (n:Int)=((n % 2 ^ k.bits:Nat):Int):=by
 simp only[IntKind.wrap,hk,Bool.false_and,zf,if_false];simp
section
variable {k:IntKind} (hk:k.signed=false) {a b:Nat} (ha:a<2 ^ k.bits) (hb:b<2 ^ k.bits)
include hk ha
include hb
theorem xorU:xorI k a b=((a ^^^ b:Nat):Int):=by
 have e:(BitVec.ofInt k.bits (a:Int) ^^^ BitVec.ofInt k.bits (b:Int)).toNat=a ^^^ b:=by
  rw[BitVec.toNat_xor,BitVec.ofInt_natCast,BitVec.ofInt_natCast,BitVec.toNat_ofNat,BitVec.toNat_ofNat,Nat.mod_eq_of_lt ha,Nat.mod_eq_of_lt hb]
 unfold xorI;rw[e,wrapU_of hk yp];have:a ^^^ b<2 ^ k.bits:=Nat.xor_lt_two_pow ha hb;have h2:((2 ^ k.bits:Nat):Int)=2 ^ k.bits:=by simp
 omega
end
theorem shlU {k:IntKind} (hk:k.signed=false) (a:Nat) {n:Nat} (hn:n≤k.bits):shlI k (a:Int) (n:Int)=((a*2 ^ n % 2 ^ k.bits:Nat):Int):=by
 unfold shlI;rw[aa1,Nat.min_eq_left hn];have:((a:Int)*2 ^ n)=((a*2 ^ n:Nat):Int):=by simp
 rw[this,o8 hk]
theorem shrU (k:IntKind) (a:Nat) {n:Nat} (hn:n≤k.bits):shrI k (a:Int) (n:Int)=((a / 2 ^ n:Nat):Int):=by
 rw[ax1 k _ n hn];simp
theorem cv_u8 (n:Nat):IntKind.u8.wrap (n:Int)=((n % 256:Nat):Int):=o8 (k:= .u8) rfl n
theorem cv_u64 (n:Nat):IntKind.u64.wrap (n:Int)=((n % 18446744073709551616:Nat):Int):=o8 (k:= .u64) rfl n
theorem awx {v:Int} (h0: -18446744073709551616≤v) (h1:v<0):IntKind.u64.wrap v=v+18446744073709551616:=by
 simp[IntKind.wrap,IntKind.signed,IntKind.bits];omega
theorem xor_ones {a:Nat} (h:a<18446744073709551616):xorI .u64 a 18446744073709551615=((18446744073709551615-a:Nat):Int):=by
 have:=xorU (k:= .u64) rfl (a:=a) (b:=18446744073709551615) h yu;rw[show((18446744073709551615:Nat):Int)=18446744073709551615 from rfl] at this
 rw[this]
 congr 1
 have e:a ^^^ 18446744073709551615=18446744073709551615-a:=by
  have:=BitVec.xor_allOnes (x:=BitVec.ofNat 64 a);have h2:=congrArg BitVec.toNat this;simp only[BitVec.toNat_xor,BitVec.toNat_ofNat,BitVec.toNat_allOnes,BitVec.toNat_not] at h2;rw[Nat.mod_eq_of_lt h] at h2;omega
 exact e
theorem xor_zero {k:IntKind} {a:Int} (h:k.wrap a=a):xorI k a 0=a:=by
 unfold xorI;have:BitVec.ofInt k.bits (0:Int)=0#k.bits:=by simp
 rw[this,BitVec.xor_zero,BitVec.toNat_ofInt];have h2:((2 ^ k.bits:Nat):Int)≠0:=by have:=Nat.two_pow_pos k.bits;omega
 rw[Int.toNat_of_nonneg (Int.emod_nonneg _ h2)];rw[show((2 ^ k.bits:Nat):Int)=2 ^ k.bits by simp]
 have:k.wrap (a % 2 ^ k.bits)=k.wrap a:=by
  unfold IntKind.wrap;simp
 rw[this,h]
end Go.Ev
namespace Go.Ev
open Go
variable {X:Kx} {K:List Kf} {s:St}
noncomputable def goRU (X:Kx) (e0:List (Nat×V)) (pre:Bool) (acc:List Rec) (un:List (Nat×Nat)) (ops:List IOper) (keep:List Nat) (K:List Kf) (s:St):Ans:=
 match evOpsU X.cfg (evL X.cfg) X.dep e0 pre ops s with
 |some (l,s')=>if unordOk (acc++l) un then go X K (settle X.dep keep s') else none
 |none=>none
theorem go_regionU' (ops:List IOper) (p:Nat×Nat) (un:List (Nat×Nat)) (keep:List Nat):go X (.c (.region ops (p::un) keep)::K) s=goRU X s.env true [] (p::un) ops keep K s:=by
 unfold go goRU;rw[aj,tv];unfold evRegion;simp only[List.nil_append];cases evOpsU X.cfg (evL X.cfg) X.dep s.env true ops s with
 |none=>exact af _ _
 | some r=>
  obtain⟨l,s'⟩:=r;by_cases hu:unordOk l (p::un)=true
  · simp only[hu,if_true]
    rfl
  · simp only[hu,zf,if_false]
    exact af _ _
noncomputable def goRUX (X:Kx) (e0:List (Nat×V)) (pre:Bool) (acc:List Rec) (un:List (Nat×Nat)) (o:IOper) (r:List IOper) (keep:List Nat) (K:List Kf) (s:St) (b:Bool) (u:List (Loc×V)):Ans:=
 goRU X e0 (pre&&u.all fun p=>p.2.calm X.dep) (acc++[(b,u.all (fun p=>p.2.calm X.dep),bx X.dep s.get o,u.map (·.1))]) un r keep K (s.upd u)
noncomputable def goRUD (X:Kx) (e0:List (Nat×V)) (pre:Bool) (acc:List Rec) (un:List (Nat×Nat)) (o:IOper) (r:List IOper) (keep:List Nat) (K:List Kf) (s:St):Option (List (Loc×V))→Option V→Option Nat→Ans
 |some ch,some v,some k=>goRUX X e0 pre acc un o r keep K s true (ch++[(.slot k,v)])
 |_,_,_=>none
noncomputable def goRUM (X:Kx) (e0:List (Nat×V)) (pre:Bool) (acc:List Rec) (un:List (Nat×Nat)) (o:IOper) (r:List IOper) (keep:List Nat) (K:List Kf) (s:St):Option St→Ans
 |some s'=>if(calmE X.dep e0&&pre)=true then goRUD X e0 pre acc un o r keep K s (memDiff (chgOf X.cfg s.get o.op) s.mem s'.mem) (o.dst.bind (lk s'.env)) o.dst else none
 |none=>none
noncomputable def goRUC (X:Kx) (e0:List (Nat×V)) (pre:Bool) (acc:List Rec) (un:List (Nat×Nat)) (o:IOper) (r:List IOper) (keep:List Nat) (K:List Kf) (s:St):Option (List (Loc×V))→Ans
 |some u=>goRUX X e0 pre acc un o r keep K s false u
 |none=>goRUM X e0 pre acc un o r keep K s (stepM X.cfg (evL X.cfg) X.dep s o)
@[go_sem] theorem goRU_step (e0:List (Nat×V)) (pre:Bool) (acc:List Rec) (un:List (Nat×Nat)) (o:IOper) (r:List IOper) (keep:List Nat):goRU X e0 pre acc un (o::r) keep K s=goRUC X e0 pre acc un o r keep K s (stepU X.cfg (evL X.cfg) X.dep s.get o):=by
 have key:∀ b u,stepX X.cfg (evL X.cfg) X.dep e0 pre s o=some (b,u)→goRU X e0 pre acc un (o::r) keep K s=goRUX X e0 pre acc un o r keep K s b u:=by
  intro b u h;unfold goRUX goRU;rw[evOpsU,h];simp only;cases evOpsU X.cfg (evL X.cfg) X.dep e0 (pre&&u.all fun p=>p.2.calm X.dep) r (s.upd u) with
  |none=>rfl
  |some q=>obtain⟨l,s'⟩:=q;simp only[aam,List.singleton_append]
 have no:stepX X.cfg (evL X.cfg) X.dep e0 pre s o=none→goRU X e0 pre acc un (o::r) keep K s=none:=by
  intro h;unfold goRU;rw[evOpsU,h]
 unfold goRUC;cases h1:stepU X.cfg (evL X.cfg) X.dep s.get o with
 | some u=>
  refine key false u ?_;unfold stepX;rw[h1]
 | none=>
  simp only;unfold goRUM;cases h2:stepM X.cfg (evL X.cfg) X.dep s o with
  | none=>
   refine no ?_;unfold stepX;rw[h1,h2];simp
  | some s'=>
   simp only;by_cases h3:(calmE X.dep e0&&pre)=true
   · rw[if_pos h3]
     cases h4:o.dst with
     | none=>
      refine(no ?_).trans (by unfold goRUD;cases memDiff (chgOf X.cfg s.get o.op) s.mem s'.mem<;>rfl)
      unfold stepX;rw[h1];simp only[h3,if_true,h2,h4]
     | some k=>
      simp only[Option.bind_some];cases h5:memDiff (chgOf X.cfg s.get o.op) s.mem s'.mem with
      | none=>
       refine(no ?_).trans (by unfold goRUD;rfl)
       unfold stepX;rw[h1];simp only[h3,if_true,h2,h4,h5]
      | some ch=>
       cases h6:lk s'.env k with
       | none=>
        refine(no ?_).trans (by unfold goRUD;rfl)
        unfold stepX;rw[h1];simp only[h3,if_true,h2,h4,h5,h6]
       | some v=>
        refine(key true (ch++[(.slot k,v)]) ?_).trans (by unfold goRUD;rfl)
        unfold stepX;rw[h1];simp only[h3,if_true,h2,h4,h5,h6]
   · rw[if_neg h3]
     refine no ?_;unfold stepX;rw[h1];simp only[if_neg h3]
section
variable (e0:List (Nat×V)) (pre:Bool) (acc:List Rec) (un:List (Nat×Nat)) (o:IOper) (r:List IOper) (keep:List Nat)
@[go_sem] theorem goRUC_some (u:List (Loc×V)):goRUC X e0 pre acc un o r keep K s (some u)=goRUX X e0 pre acc un o r keep K s false u:=rfl
@[go_sem] theorem goRUC_none:goRUC X e0 pre acc un o r keep K s none=goRUM X e0 pre acc un o r keep K s (stepM X.cfg (evL X.cfg) X.dep s o):=rfl
@[go_sem] theorem goRUX_def (b:Bool) (u:List (Loc×V)):goRUX X e0 pre acc un o r keep K s b u=goRU X e0 (pre&&u.all fun p=>p.2.calm X.dep) (acc++[(b,u.all (fun p=>p.2.calm X.dep),bx X.dep s.get o,u.map (·.1))]) un r keep K (s.upd u):=rfl
@[go_sem] theorem goRUM_some (s':St):goRUM X e0 pre acc un o r keep K s (some s')=if(calmE X.dep e0&&pre)=true then goRUD X e0 pre acc un o r keep K s (memDiff (chgOf X.cfg s.get o.op) s.mem s'.mem) (o.dst.bind (lk s'.env)) o.dst else none:=rfl
@[go_sem] theorem goRUD_some (ch:List (Loc×V)) (v:V) (k:Nat):goRUD X e0 pre acc un o r keep K s (some ch) (some v) (some k)=goRUX X e0 pre acc un o r keep K s true (ch++[(.slot k,v)]):=rfl
end
@[go_sem] theorem goRU_end (e0:List (Nat×V)) (pre:Bool) (acc:List Rec) (un:List (Nat×Nat)) (keep:List Nat) (e:List (Nat×V)) (m:List (Cel×V)) (h:unordOk acc un=true):
  goRU X e0 pre acc un [] keep K ⟨e,m⟩=go X K ⟨settleE X.dep keep e,settleM X.dep m⟩:=by
 unfold goRU;simp only[evOpsU,List.append_nil,h,if_true];rfl
@[go_sem] theorem calm_d (n:Nat) (y:D):V.calm n (.d y)=true:=rfl
@[go_sem] theorem calm_own (n:Nat) (b:Bool) (z:Nat) (es:List D):V.calm n (.own b z es)=true:=rfl
@[go_sem] theorem calm_junk (n:Nat):V.calm n .junk=true:=rfl
@[go_sem] theorem calm_iptr (n:Nat) (e:D) (o:Nat):V.calm n (.iptr e o)=true:=rfl
@[go_sem] theorem calm_ref (n d k o:Nat):V.calm n (.ref d k o)=decide (d<n+1):=rfl
@[go_sem] theorem calm_bor (n k a b:Nat):V.calm n (.bor (.slot k) a b)=true:=rfl
@[go_sem] theorem calm_bref (n k a b:Nat):V.calm n (.bref (.slot k) a b)=true:=rfl
@[go_sem] theorem calm_borC (n:Nat) (c:Cel) (a b:Nat):V.calm n (.bor (.cell c) a b)=false:=rfl
@[go_sem] theorem calm_brefC (n:Nat) (c:Cel) (a b:Nat):V.calm n (.bref (.cell c) a b)=false:=rfl
@[go_sem] theorem calm_rcd (n:Nat) (ys:List V):V.calm n (.rcd ys)=false:=rfl
@[go_sem] theorem calm_clo (n:Nat) (f:FuncId) (a b:List V):V.calm n (.clo f a b)=(V.upTos (n+1) a&&V.upTos (n+1) b):=rfl
@[go_sem] theorem calm_ifc (n:Nat) (t:TypeId) (v:V):V.calm n (.ifc t v)=v.upTo (n+1):=rfl
@[go_sem] theorem calm_vec (n:Nat) (ys:List V):V.calm n (.vec ys)=V.upTos (n+1) ys:=rfl
@[go_sem] theorem calm_vref (n:Nat) (y:V):V.calm n (.vref y)=y.upTo (n+1):=rfl
@[go_sem] theorem calmE_nil (n:Nat):calmE n []=true:=rfl
@[go_sem] theorem calmE_cons (n k:Nat) (v:V) (r:List (Nat×V)):calmE n ((k,v)::r)=(v.calm n&&calmE n r):=rfl
mutual
theorem D.eqb_refl:∀ a:D,D.eqb a a=true
 | .bool a=>by simp[D.eqb]
 | .int k a=>by simp[D.eqb]
 | .str a=>by simp[D.eqb]
 | .nilS| .nilP| .nilI| .nilF| .nilM| .unk| .unkB=>rfl
 | .sl a=>by simp[D.eqb,D.eqbs_refl a]
 | .agg a=>by simp[D.eqb,D.eqbs_refl a]
 | .tup a=>by simp[D.eqb,D.eqbs_refl a]
 | .ptr a=>by simp[D.eqb,D.eqb_refl a]
 | .ifc t a=>by simp[D.eqb,D.eqb_refl a]
 | .fn f=>by simp[D.eqb]
theorem D.eqbs_refl:∀ a:List D,D.eqbs a a=true
 | []=>rfl
 |a::r=>by simp[D.eqbs,D.eqb_refl a,D.eqbs_refl r]
end
mutual
theorem V.eqb_refl':∀ a:V,V.eqb a a=true
 | .d a=>by simp[V.eqb,D.eqb_refl a]
 | .own n z a=>by simp[V.eqb,D.eqbs_refl a]
 | .iptr a o=>by simp[V.eqb,D.eqb_refl a]
 | .ref e k o=>by simp[V.eqb]
 | .clo f a b=>by simp[V.eqb,V.eqbs_refl' a,V.eqbs_refl' b]
 | .ifc t a=>by simp[V.eqb,V.eqb_refl' a]
 | .junk=>rfl
 | .bor l a b=>by simp[V.eqb]
 | .bref l a b=>by simp[V.eqb]
 | .vec a=>by simp[V.eqb,V.eqbs_refl' a]
 | .vref a=>by simp[V.eqb,V.eqb_refl' a]
 | .rcd a=>by simp[V.eqb,V.eqbs_refl' a]
theorem V.eqbs_refl':∀ a:List V,V.eqbs a a=true
 | []=>rfl
 |a::r=>by simp[V.eqbs,V.eqb_refl' a,V.eqbs_refl' r]
end
@[go_sem] theorem eqb_refl (a:V):V.eqb a a=true:=V.eqb_refl' a
@[go_sem] theorem memDiff_nil (cs:Option (List Cel)):memDiff cs [] []=some []:=rfl
@[go_sem] theorem memDiff_all (c c':Cel) (v v':V) (r r':List (Cel×V)):memDiff none ((c,v)::r) ((c',v')::r')=if c=c' then(memDiff none r r').map fun u=>u++[(.cell c,v')] else none:=rfl
@[go_sem] theorem memDiff_some (l:List Cel) (c c':Cel) (v v':V) (r r':List (Cel×V)):memDiff (some l) ((c,v)::r) ((c',v')::r')=if c=c' then(if l.contains c then(memDiff (some l) r r').map fun u=>u++[(.cell c,v')] else if v.eqb v' then(memDiff (some l) r r').map fun u=>u.filter fun p=> !decide (p.1= .cell c) else none) else none:=rfl
@[go_sem] theorem chgCells_nil (vs:List V):chgCells vs []=[]:=rfl
def chgQ (o:Nat) (cs:List Cel):Option V→List Cel
 |some (.ref d k off)=>⟨d,k,off+o⟩::cs
 |_=>cs
@[go_sem] theorem chgCells_cons (vs:List V) (i o:Nat) (r:List (Nat×Nat)):chgCells vs ((i,o)::r)=chgQ o (chgCells vs r) vs[i]? :=by
 rw[chgCells];unfold chgQ;cases vs[i]? with
 |none=>rfl
 |some v=>cases v<;>rfl
@[go_sem] theorem chgQ_ref (o:Nat) (cs:List Cel) (d k off:Nat):chgQ o cs (some (.ref d k off))=⟨d,k,off+o⟩::cs:=rfl
def chgT (cfg:Cfg):Option (Bool×FuncId×List V)→Option (List Cel)
 |some t=>(cfg.chg t.2.1).map (chgCells t.2.2)
 |none=>none
@[go_sem] theorem chgOf_def (cfg:Cfg) (s:Get) (op:IOp):chgOf cfg s op=chgT cfg (target cfg s op):=by
 unfold chgOf chgT;cases target cfg s op with
 |none=>rfl
 |some t=>rfl
@[go_sem] theorem chgT_some (cfg:Cfg) (t:Bool×FuncId×List V):chgT cfg (some t)=(cfg.chg t.2.1).map (chgCells t.2.2):=rfl
@[go_sem] theorem target_call (cfg:Cfg) (s:Get) (own:Bool) (f:FuncId) (args:List IOpd):target cfg s (.call own f args)=(vals cfg s args).map fun vs=>(own,f,vs):=rfl
attribute [go_sem] List.filter_nil List.filter_cons Option.bind_some List.contains_nil List.contains_cons
def behind (n:Nat):Option V→List Loc
 |some (.bor l _ _)=>[l]
 |some (.bref l _ _)=>[l]
 |some (.ref d j off)=>fv d j off n
 |_=>[]
@[go_sem] theorem behind_d (n:Nat) (y:D):behind n (some (.d y))=[]:=rfl
@[go_sem] theorem behind_own (n:Nat) (nw:Bool) (z:Nat) (es:List D):behind n (some (.own nw z es))=[]:=rfl
@[go_sem] theorem behind_bor (n:Nat) (l:Loc) (a b:Nat):behind n (some (.bor l a b))=[l]:=rfl
@[go_sem] theorem behind_bref (n:Nat) (l:Loc) (a b:Nat):behind n (some (.bref l a b))=[l]:=rfl
@[go_sem] theorem behind_iptr (n:Nat) (e:D) (o:Nat):behind n (some (.iptr e o))=[]:=rfl
@[go_sem] theorem behind_junk (n:Nat):behind n (some .junk)=[]:=rfl
@[go_sem] theorem behind_vec (n:Nat) (ys:List V):behind n (some (.vec ys))=[]:=rfl
@[go_sem] theorem behind_vref (n:Nat) (y:V):behind n (some (.vref y))=[]:=rfl
@[go_sem] theorem behind_clo (n:Nat) (f:FuncId) (a b:List V):behind n (some (.clo f a b))=[]:=rfl
@[go_sem] theorem behind_ifc (n:Nat) (t:TypeId) (v:V):behind n (some (.ifc t v))=[]:=rfl
@[go_sem] theorem behind_ref (n d j off:Nat):behind n (some (.ref d j off))=fv d j off n:=rfl
@[go_sem] theorem opdLocs_t (s:Get) (n k:Nat):aa s n (.t k)= .slot k::behind n (s (.slot k)):=by
 unfold behind;simp only[aa];rfl
@[go_sem] theorem opdLocs_c (s:Get) (n:Nat) (d:D):aa s n (.c d)=[]:=rfl
@[go_sem] theorem opdLocs_g (s:Get) (n:Nat) (d:Nat):aa s n (.g d)=[]:=rfl
def madeAt (dep:Nat) (dst:Option Nat):IOp→List Loc
 | .alloc _| .box _ _=>match dst with
  |some k=>[.cell ⟨dep,k,0⟩]
  |none=>[]
 |_=>[]
@[go_sem] theorem readsOf_n (dep:Nat) (s:Get) (dst:Option Nat) (op:IOp):bx dep s ⟨dst,none,op⟩=madeAt dep dst op++op.operands.flatMap (aa s op.span):=by
 cases op<;>cases dst<;>rfl
@[go_sem] theorem readsOf_g (dep:Nat) (s:Get) (dst:Option Nat) (k:Nat) (b:Bool) (op:IOp):bx dep s ⟨dst,some (k,b),op⟩= .slot k::(madeAt dep dst op++op.operands.flatMap (aa s op.span)):=by
 cases op<;>cases dst<;>rfl
@[go_sem] theorem isNil_cons (neg:Bool) (e:D) (es:List D):ll neg (.d (.sl (e::es)))=some (.bool neg):=rfl
@[go_sem] theorem isNil_own (neg nw:Bool) (z:Nat) (es:List D):ll neg (.own nw z es)=some (.bool neg):=rfl
@[go_sem] theorem isNil_bor (neg:Bool) (l:Loc) (a b:Nat):ll neg (.bor l a b)=some (.bool neg):=rfl
attribute [go_sem] madeAt IOp.operands IOp.span List.flatMap_cons List.flatMap_nil fv Option.toList
theorem most_of {n:Nat} (h:n≤1000000000):(n≤bh)=True:=by
 have:(1000000000:Nat)≤bh:=by unfold bh;decide
 simp;omega
def appB (dst:Option Nat) (z:Nat) (l:Loc) (off n:Nat) (ys:List D):Option V→Option (List (Loc×V))
 |some (.own false z' es)=>if off=0∧n≤es.length∧z'=z∧n+ys.length≤bh then some (put1 dst (.own true z (es.take n++ys))++[(l,.junk)]) else none
 |_=>none
def appV (s:Get) (dst:Option Nat) (z:Nat) (x:IOpd) (v:V) (ys:List D):Option (List (Loc×V)):=
 match x,v with
  | _,.d .nilS=>match ys with
   | []=>some (put1 dst (.d .nilS))
   |_=>if ys.length≤bh then some (put1 dst (.own true z ys)) else none
  | _,.d (.sl es)=>match ys with
   | []=>some (put1 dst (.d (.sl es)))
   |_=>none
  | .t k,.own _ z' es=>if z'=z∧es.length+ys.length≤bh then some (put1 dst (.own true z (es++ys))++[(.slot k,.junk)]) else none
  |_,.bor l off n=>appB dst z l off n ys (s l)
  |_,_=>none
@[go_sem] theorem evAppend_def (s:Get) (dst:Option Nat) (z bytes:Nat) (x:IOpd) (v:V) (ys:List D):cx s dst z bytes x v ys=if(allZ z ys&&decide (bytes≤2048))=true then appV s dst z x v ys else none:=rfl
section
variable (g:Get) (dst:Option Nat) (z:Nat) (x:IOpd)
@[go_sem] theorem appV_nil0:appV g dst z x (.d .nilS) []=some (put1 dst (.d .nilS)):=by cases x<;>rfl
@[go_sem] theorem appV_nil (y:D) (ys:List D) (h:(y::ys).length≤1000000000):appV g dst z x (.d .nilS) (y::ys)=some (put1 dst (.own true z (y::ys))):=by
 have:=most_of h;cases x<;>simp[appV,most_of h]<;>simpa using this
theorem appV_nilv {ys:List D} (hn:ys≠[]) (h:ys.length≤1000000000):appV g dst z x (.d .nilS) ys=some (put1 dst (.own true z ys)):=by
 cases ys with
 |nil=>exact absurd rfl hn
 |cons y ys=>exact appV_nil g dst z x y ys h
@[go_sem] theorem appV_sl0 (es:List D):appV g dst z x (.d (.sl es)) []=some (put1 dst (.d (.sl es))):=by cases x<;>rfl
@[go_sem] theorem appV_own (k:Nat) (nw:Bool) (es ys:List D) (h:es.length+ys.length≤1000000000):appV g dst z (.t k) (.own nw z es) ys=some (put1 dst (.own true z (es++ys))++[(.slot k,.junk)]):=by
 simp[appV,most_of h]
@[go_sem] theorem appV_bor (l:Loc) (off n:Nat) (ys:List D):appV g dst z x (.bor l off n) ys=appB dst z l off n ys (g l):=by cases x<;>rfl
@[go_sem] theorem appB_own (l:Loc) (n:Nat) (es ys:List D) (hn:n=es.length) (h:es.length+ys.length≤1000000000):appB dst z l 0 n ys (some (.own false z es))=some (put1 dst (.own true z (es++ys))++[(l,.junk)]):=by
 subst hn;simp[appB,most_of h]
@[go_sem] theorem borQ_own' (l:Loc) (n:Nat) (es:List D) (hn:n=es.length):borQ dst l 0 n (some (.own false z es))=if dst.map Loc.slot=some l then some [(l,.own true z es)] else some (put1 dst (.own true z es)++[(l,.junk)]):=by
 subst hn;exact borQ_own dst l z es
@[go_sem] theorem givenQ_own' (l:Loc) (n:Nat) (es:List D) (hn:n=es.length):aei l 0 n (some (.own false z es))=some ([(l,.junk)],.own false z es):=by
 subst hn;exact av9 l z es
@[go_sem high] theorem argQ_own' (n:Nat) (es:List D) (hn:n=es.length):argQ 0 n (some (.own false z es))=some (.sl es,true):=by
 subst hn;simp[argQ]
@[go_sem high] theorem contQ_own' (n:Nat) (es:List D) (hn:n=es.length):contQ 0 n (some (.own false z es))=some es:=by
 subst hn;simp[contQ]
end
@[go_sem] theorem allZ_nil (z:Nat):allZ z []=true:=rfl
@[go_sem] theorem allZ_cons (z:Nat) (e:D) (r:List D):allZ z (e::r)=(e.cells.length==z&&allZ z r):=rfl
theorem allZ_map {α:Type} {z:Nat} {f:α→D} (h:∀ x,(f x).cells.length=z) (l:List α):allZ z (l.map f)=true:=by
 induction l with
 |nil=>rfl
 |cons b l ih=>simp[allZ,h b,ih]
@[go_sem] theorem allZ_bytes (l:List UInt8):allZ 1 (l.map byteD)=true:=allZ_map (f:=byteD) (fun _=>rfl) l
@[go_sem] theorem allZ_ints (k:IntKind) (l:List Int):allZ 1 (l.map (D.int k))=true:=allZ_map (f:=D.int k) (fun _=>rfl) l
theorem headZ_of {z:Nat} {es:List D} (h:allZ z es=true):headZ z es=true:=by
 cases es with
 |nil=>rfl
 |cons e es=>simp only[allZ,ze] at h;exact h.1
@[go_sem] theorem headZ_nil (z:Nat):headZ z []=true:=rfl
@[go_sem] theorem headZ_cons (z:Nat) (e:D) (r:List D):headZ z (e::r)=(e.cells.length==z):=rfl
@[go_sem] theorem headZ_bytes (l:List UInt8):headZ 1 (l.map byteD)=true:=headZ_of (allZ_bytes l)
@[go_sem] theorem headZ_ints (k:IntKind) (l:List Int):headZ 1 (l.map (D.int k))=true:=headZ_of (allZ_ints k l)
variable {cfg:Cfg}
def slcB (dst:Option Nat) (z:Nat) (loc:Loc) (off l h:Nat):Option V→Option (List (Loc×V))
 |some (.own false z' _)=>if z'=z then some (put1 dst (.bor loc (off+l) (h-l))) else none
 |_=>none
def slcV (s:Get) (dst:Option Nat) (z:Nat) (x:IOpd) (l h:Nat) (v:V):Option (List (Loc×V)):=
 match x,v with
  |_,.d .nilS=>some (put1 dst (.d .nilS))
  |_,.d (.sl es)=>if headZ z es then some (put1 dst (.d (.sl ((es.take h).drop l)))) else none
  | .t k,.own false z' _=>if z'=z then some (put1 dst (.bor (.slot k) l (h-l))) else none
  | .t k,.own true z' es=>if z'=z then some (put1 dst (.own true z ((es.take h).drop l))++[(.slot k,.junk)]) else none
  |_,.bor loc off _=>slcB dst z loc off l h (s loc)
  |_,_=>none
@[go_sem] theorem evSlice_def (s:Get) (dst:Option Nat) (z:Nat) (x:IOpd) (v:V) (lo hi:Option IOpd):fl cfg s dst z x v lo hi none=(cont s v).bind fun es=>(bc cfg s es.length lo hi).bind fun lh=>slcV s dst z x lh.1 lh.2 v:=by
 unfold fl slcV slcB;cases cont s v with
 |none=>rfl
 | some es=>
  simp only[topOf,Option.bind_some];cases bc cfg s es.length lo hi with
  |none=>rfl
  |some lh=>obtain⟨l,h⟩:=lh;simp only[Option.isSome_none,Bool.false_and,zf,if_false,Option.bind_some];rfl
section
variable (g:Get) (dst:Option Nat) (z:Nat) (x:IOpd) (l h:Nat)
@[go_sem] theorem slcV_nil:slcV g dst z x l h (.d .nilS)=some (put1 dst (.d .nilS)):=by cases x<;>rfl
@[go_sem] theorem slcV_sl (es:List D):slcV g dst z x l h (.d (.sl es))=if headZ z es=true then some (put1 dst (.d (.sl ((es.take h).drop l)))) else none:=by cases x<;>rfl
@[go_sem] theorem slcV_ownT (k:Nat) (es:List D):slcV g dst z (.t k) l h (.own true z es)=some (put1 dst (.own true z ((es.take h).drop l))++[(.slot k,.junk)]):=by simp[slcV]
@[go_sem] theorem slcV_bor (loc:Loc) (off n:Nat):slcV g dst z x l h (.bor loc off n)=slcB dst z loc off l h (g loc):=by cases x<;>rfl
@[go_sem] theorem slcB_own (loc:Loc) (off:Nat) (es:List D):slcB dst z loc off l h (some (.own false z es))=some (put1 dst (.bor loc (off+l) (h-l))):=by simp[slcB]
@[go_sem] theorem evClip_nil:evClip dst x (.d .nilS)=some (put1 dst (.d .nilS)):=by cases x<;>rfl
@[go_sem] theorem evClip_sl (es:List D):evClip dst x (.d (.sl es))=some (put1 dst (.d (.sl es))):=by cases x<;>rfl
@[go_sem] theorem evClip_own (nw:Bool) (es:List D):evClip dst x (.own nw z es)=evMv dst x (.own nw z es):=rfl
@[go_sem] theorem evClip_bor (loc:Loc) (a b:Nat):evClip dst x (.bor loc a b)=some (put1 dst (.bor loc a b)):=by cases x<;>rfl
def idxB (dst:Option Nat) (z:Nat) (l:Loc) (i:Nat):Option V→Option (List (Loc×V))
 |some (.own false z' _)=>if z'=z then some (put1 dst (.bref l i 0)) else none
 |_=>none
theorem evIdx_bor (loc:Loc) (off len:Nat) {n:Int} (h0:0≤n) (h1:n<len):evIdx g dst z x (.bor loc off len) n=idxB dst z loc (off+n.toNat) (g loc):=by
 unfold evIdx idxB;rw[if_neg yp];have:n.toNat<len:=yp;cases x<;>simp only[this,true_and]<;>cases g loc<;>rfl
@[go_sem] theorem evIdx_borN (loc:Loc) (off len:Nat) {n:Nat} (h1:n<len):evIdx g dst z x (.bor loc off len) (n:Int)=idxB dst z loc (off+n) (g loc):=by
 rw[evIdx_bor g dst z x loc off len yp yp,aa1]
@[go_sem] theorem idxB_own (loc:Loc) (i:Nat) (es:List D):idxB dst z loc i (some (.own false z es))=some (put1 dst (.bref loc i 0)):=by simp[idxB]
end
@[go_sem high] theorem cells_byteD (c:UInt8):(byteD c).cells=[byteD c]:=rfl
@[go_sem] theorem storable_byteD (c:UInt8):(byteD c).storable=true:=rfl
@[go_sem] theorem canon_byteD (c:UInt8):(byteD c).canon=byteD c:=rfl
@[go_sem] theorem toInt_byteD (c:UInt8):(byteD c).toInt? =some (c.toNat:Int):=rfl
@[go_sem] theorem asD_byteD (c:UInt8):V.asD (.d (byteD c))=some (byteD c):=rfl
end Go.Ev
namespace Go.Ev
open Go
def inI (n:Int):Prop:= -9223372036854775808≤n∧n<9223372036854775808
instance (n:Int):Decidable (inI n):=by unfold inI;infer_instance
theorem tmp {a k:Int} (h:0≤a):a.tmod k=a % k:=Int.tmod_eq_emod_of_nonneg h
def zigN (v:Int):Nat:=if v<0 then(-2*v-1).toNat else(2*v).toNat
theorem aw4 {v:Int} (h:inI v):zigN v<18446744073709551616:=by
 unfold zigN inI at *;split<;>omega
theorem zig_bits {v:Int} (h:inI v):xorI .u64 (shlI .u64 (IntKind.u64.wrap v) 1) (IntKind.u64.wrap (shrI .i64 v 63))=zigN v:=by
 unfold inI at h;have hs:=ax1 .i64 v 63 yu;rw[show((63:Nat):Int)=63 from rfl] at hs
 rw[hs];by_cases c:v<0
 · have e1:v / 2 ^ 63= -1:=yp
   have e2:IntKind.u64.wrap (-1)=18446744073709551615:=yu;have hsl:=shlU (k:= .u64) rfl (v+18446744073709551616).toNat (n:=1) yu;rw[show(((v+18446744073709551616).toNat:Nat):Int)=v+18446744073709551616 by omega,show((1:Nat):Int)=1 from rfl] at hsl
   rw[e1,e2,awx yp c,hsl,xor_ones (by have:=Nat.mod_lt ((v+18446744073709551616).toNat*2 ^ 1) (show 0<2 ^ IntKind.u64.bits by decide);simpa[IntKind.bits] using this)]
   unfold zigN;rw[if_pos c];simp only[IntKind.bits];omega
 · have e1:v / 2 ^ 63=0:=yp
   have hsl:=shlU (k:= .u64) rfl v.toNat (n:=1) yu;rw[show((v.toNat:Nat):Int)=v by omega,show((1:Nat):Int)=1 from rfl] at hsl
   rw[e1,oe yp yp,hsl,oe yp yp,xor_zero]
   · unfold zigN
     rw[if_neg c];simp only[IntKind.bits];omega
   · simp only[IntKind.bits]
     rw[cv_u64];omega
theorem shr_one (u:Nat):shrI .u64 (u:Int) 1=((u / 2:Nat):Int):=by
 have:=shrU .u64 u (n:=1) yu;rw[show((1:Nat):Int)=1 from rfl] at this
 rw[this]
def varB:Nat→Nat→List UInt8
 |0,_=>[]
 |k+1,u=>if u<128 then[UInt8.ofNat u] else UInt8.ofNat (u % 128+128)::varB k (u / 128)
theorem aj0:∀ (k u:Nat),(varB k u).length≤k
 |0,_=>y7 _
 | k+1,u=>by
  unfold varB;split
  · simp
  · have:=aj0 k (u / 128)
    simp;omega
theorem u8_of {n:Nat} (h:n<256):(UInt8.ofNat n).toNat=n:=by
 simp[UInt8.toNat_ofNat'];omega
theorem a2o (u:Nat):orI .u8 (((u % 256:Nat)):Int) 128=((u % 128+128:Nat):Int):=by
 have:∀ n:Fin 256,orI .u8 (n.val:Int) 128=((n.val % 128+128:Nat):Int):=by decide +kernel
 have h:=this ⟨u % 256,Nat.mod_lt _ yu⟩;simpa using h
theorem ce (b:UInt8):byteD b= .int .u8 b.toNat:=rfl
theorem adq (l:List UInt8):D.plains (l.map byteD)=true:=by
 induction l with
 |nil=>rfl
 |cons b l ih=>simp[D.plains,D.plain,byteD,ih]
theorem aii (k:IntKind) (l:List Int):D.plains (l.map (D.int k))=true:=by
 induction l with
 |nil=>rfl
 |cons b l ih=>simp[D.plains,D.plain,ih]
attribute [go_sem] adq aii
@[go_sem] theorem ajj (l:List UInt8):bu (l.map byteD)=some l:=by
 induction l with
 |nil=>rfl
 | cons b l ih=>
  simp only[List.map_cons,ce,ae5,ih,Option.map_some]
  congr 2
  simp
theorem gc {n:Nat} (h:n<256):byteD (UInt8.ofNat n)= .int .u8 (n:Int):=by rw[ce,u8_of h]
theorem x9 (u:Nat):shrI .u64 (u:Int) 7=((u / 128:Nat):Int):=by
 have:=shrU .u64 u (n:=7) yu;rw[show((7:Nat):Int)=7 from rfl] at this
 rw[this]
end Go.Ev
namespace Go.Ev
open Go Go.RowKit
def mkD:List D→D
 | [x]=>x
 |xs=> .agg xs
variable {P:Program} {W:World} {H:Type} {enc:TypeId×Value→H} {base:Nat} {spare:Nat→Bool} {held:Bool} {t e:TypeId} {v:Value} {x:DataW H×List MemPlace}
theorem read_one {G:List D→Prop} {fuel:Nat} (hI:IsF P W fuel t G) (hf:DataW.trod enc P W base spare held fuel t v.cells.toList=some x) (hv:v.cells.toList=[v]) (hG:∀ xs,G xs→∃ d,xs=[d]):∃ d,G [d]∧Rd anyB W v d:=by
 obtain⟨xs,⟨q1,q2,q3⟩,hg⟩:=hI H enc base spare held _ _ hf;obtain⟨d,rfl⟩:=hG xs hg;exact⟨d,hg,q3 0 v d (by rw[hv];rfl) rfl⟩
