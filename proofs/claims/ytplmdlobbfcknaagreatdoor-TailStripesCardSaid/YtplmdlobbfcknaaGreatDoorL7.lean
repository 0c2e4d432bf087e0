import Derived.Test.YtplmdlobbfcknaaGreatDoorL6
import Derived.Attr
import Derived.ChangeArms
import Derived.ChangeOld
import Derived.Below
import Derived.Lib.ItoaNum
import Derived.Lib.Repeat
import Derived.Lib.Bytealg
import Derived.Lib.SlTrimSet
namespace Go.Ev
open Go
inductive Kf where
 |c (c:ICode)
 |b (id:Nat)
abbrev Ans:=Option (V×List (Cel×V))
structure Kx where
 cfg:Cfg
 dep:Nat
 k:Ex→St→Ans
def finR (dep:Nat) (res:List IRes):Ex→St→Ans
 | .normal,s| .ret,s=>(resAll dep s.get res).bind fun v=>leaveR dep v s.mem
 | .exit _,_=>none
abbrev fx (cfg:Cfg) (dep:Nat) (res:List IRes):Kx:=⟨cfg,dep,finR dep res⟩
noncomputable def ak (X:Kx):List Kf→Option (Ex×St)→Ans
 | [],some (e,s)=>X.k e s
 | [],none=>none
 | .c c::K,some (.normal,s)=>ak X K (evC X.cfg X.dep c s)
 | .c _::K,r=>ak X K r
 | .b id::K,some (.exit id',s)=>if id'=id then ak X K (some (.normal,s)) else ak X K (some (.exit id',s))
 | .b _::K,r=>ak X K r
noncomputable def go (X:Kx) (K:List Kf) (s:St):Ans:=ak X K (some (.normal,s))
noncomputable def goX (X:Kx) (id:Nat) (K:List Kf) (s:St):Ans:=ak X K (some (.exit id,s))
theorem af (X:Kx):∀ K,ak X K none=none
 | []=>rfl
 | .c _::K=>by rw[ak];exact af X K;simp
 | .b _::K=>by rw[ak];exact af X K;simp
theorem kv (X:Kx) (s:St):∀ K,ak X K (some (.ret,s))=X.k .ret s
 | []=>rfl
 | .c _::K=>by rw[ak];exact kv X s K;simp
 | .b _::K=>by rw[ak];exact kv X s K;simp
variable {X:Kx} {K:List Kf} {s:St}
theorem go_nil:go X [] s=X.k .normal s:=rfl
theorem goX_nil (id:Nat):goX X id [] s=X.k (.exit id) s:=rfl
theorem go_blk (id:Nat):go X (.b id::K) s=go X K s:=by unfold go;rw[ak];simp
theorem go_ret:go X (.c .ret::K) s=X.k .ret s:=by unfold go;rw[ak,evC_ret,kv]
theorem go_skip:go X (.c .skip::K) s=go X K s:=by unfold go;rw[ak,evC_skip]
theorem go_exit (id:Nat):go X (.c (.exit id)::K) s=goX X id K s:=by unfold go goX;rw[ak,evC_exit]
theorem goX_c (id:Nat) (c:ICode):goX X id (.c c::K) s=goX X id K s:=by unfold goX;rw[ak];simp
theorem goX_b (id id':Nat):goX X id (.b id'::K) s=if id=id' then go X K s else goX X id K s:=by unfold goX go;rw[ak]
theorem go_seq (a b:ICode):go X (.c (.seq a b)::K) s=go X (.c a:: .c b::K) s:=by
 unfold go;rw[ak,ak,evC_seq];cases h:evC X.cfg X.dep a s with
 |none=>rw[af,af]
 | some r=>
  obtain⟨e,s'⟩:=r;cases e with
  |normal=>rw[ak]
  |ret=>rw[ak];simp
  |exit id=>rw[ak];simp
theorem go_loop (b:ICode):go X (.c (.loop b)::K) s=go X (.c b:: .c (.loop b)::K) s:=by
 unfold go;rw[ak,ak,evC_loop];cases h:evC X.cfg X.dep b s with
 |none=>rw[af,af]
 | some r=>
  obtain⟨e,s'⟩:=r;cases e with
  |normal=>rw[ak]
  |ret=>rw[ak];simp
  |exit id=>rw[ak];simp
theorem go_block (id:Nat) (b:ICode):go X (.c (.block id b)::K) s=go X (.c b:: .b id::K) s:=by
 unfold go;rw[ak,ak,a00];cases h:evC X.cfg X.dep b s with
 |none=>rw[af,af]
 | some r=>
  obtain⟨e,s'⟩:=r;cases e with
  |normal=>rw[ak];simp
  |ret=>rw[ak];simp
  |exit id'=>rw[ak];simp only;split<;>rfl
theorem go_demote (ls:List Nat):go X (.c (.demote ls)::K) s=go X K {s with env:=ls.foldl (fun e k=>demoteE k e) s.env}:=by unfold go;rw[ak,arz]
theorem go_free (k:Nat):go X (.c (.free k)::K) s=go X K ⟨freeE X.dep k s.env,freeM X.dep k s.mem⟩:=by unfold go;rw[ak,evC_free]
noncomputable def goEnd (X:Kx) (K:List Kf) (E:List (Nat×V)) (f:List (Cel×V)→Ans):Ex→St→Ans
 | .normal,s=>f (leaveM (X.dep+1) s.mem)
 | .ret,s=>X.k .ret ⟨E,leaveM (X.dep+1) s.mem⟩
 | .exit id,s=>goX X id K ⟨E,leaveM (X.dep+1) s.mem⟩
noncomputable def goRnd (X:Kx) (b:ICode) (K:List Kf) (E:List (Nat×V)) (f:List (Cel×V)→Ans):Ex→St→Ans
 | .normal,s=>go ⟨X.cfg,X.dep+1,goEnd X K E f⟩ [.c b] s
 |_,_=>none
noncomputable def goPut (X:Kx) (a b:ICode) (K:List Kf) (E:List (Nat×V)) (m:List (Cel×V)) (f:List (Cel×V)→Ans):Option (List (Nat×V))→Ans
 |some e=>go ⟨X.cfg,X.dep+1,goRnd X b K E f⟩ [.c a] ⟨e,m⟩
 |none=>none
noncomputable def goE (X:Kx) (ps:List Nat) (a b:ICode) (E:List (Nat×V)) (K:List Kf):List (List D)→List (Cel×V)→Ans
 | [],m=>go X K ⟨E,m⟩
 |x::l,m=>goPut X a b K E m (goE X ps a b E K l) (putPs ps x (roundE E))
noncomputable def goEQ (X:Kx) (ps:List Nat) (a b:ICode) (K:List Kf) (s:St):Option (List (List D))→Ans
 |some l=>goE X ps a b (dropBor X.dep s.env) K l s.mem
 |none=>none
theorem goE_ok (ps:List Nat) (a b:ICode) (E:List (Nat×V)):∀ (l:List (List D)) (m:List (Cel×V)),ak X K (match evEach (evRound (evC X.cfg (X.dep+1) a) (evC X.cfg (X.dep+1) b) X.dep ps E) l m with
  |some (e,m)=>some (e,⟨E,m⟩)
  |none=>none)=goE X ps a b E K l m
 | [],m=>rfl
 | x::l,m=>by
  have ih:=goE_ok ps a b E l;unfold goE evEach evRound;cases hp:putPs ps x (roundE E) with
  |none=>exact af _ _
  | some e1=>
   simp only[goPut];unfold go;rw[ak];cases ha:evC X.cfg (X.dep+1) a ⟨e1,m⟩ with
   |none=>exact af _ _
   | some r=>
    obtain⟨e,s1⟩:=r;cases e with
    | normal=>
     show _=goRnd X b K E (goE X ps a b E K l) .normal s1;simp only[goRnd];unfold go;rw[ak];cases hb:evC X.cfg (X.dep+1) b s1 with
     |none=>exact af _ _
     | some r=>
      obtain⟨e,s2⟩:=r;cases e with
      |normal=>exact ih _
      |ret=>exact kv _ _ _
      |exit id=>rfl
    |ret=>exact af _ _
    |exit id=>exact af _ _
theorem go_each (x:IOpd) (ps:List Nat) (a b:ICode):go X (.c (.each x ps a b)::K) s=goEQ X ps a b K s ((val X.cfg s.get x).bind (itemsOf X.cfg)):=by
 unfold go;rw[ak,evC_each];cases(val X.cfg s.get x).bind (itemsOf X.cfg) with
 |none=>exact af _ _
 |some l=>exact goE_ok ps a b _ l s.mem
noncomputable def goR (X:Kx) (ops:List IOper) (keep:List Nat) (K:List Kf) (s:St):Ans:=
 match evOps X.cfg (evL X.cfg) X.dep ops s with
 |some s'=>go X K (settle X.dep keep s')
 |none=>none
theorem go_region (ops:List IOper) (keep:List Nat):go X (.c (.region ops [] keep)::K) s=goR X ops keep K s:=by
 unfold go goR;rw[ak,uu,evRegion];cases evOps X.cfg (evL X.cfg) X.dep ops s with
 |none=>exact af _ _
 |some s'=>rfl
theorem au {cfg:Cfg} {f:FuncId} {fn:IFunc} (hx:cfg.ext f=none) (hf:cfg.funcs f=some fn) (dep:Nat) (vs:List V) (m:List (Cel×V)) (ha:vs.length=fn.arity) (hp:argsOk vs m=true):
  evL cfg f dep vs m=go (fx cfg dep fn.results) [.c fn.body] ⟨entry 0 vs,m⟩:=by
 rw[evL_fn hx hf];unfold evB;rw[if_pos ⟨ha,hp⟩];unfold go;rw[ak];cases evC cfg dep fn.body ⟨entry 0 vs,m⟩ with
 |none=>rfl
 | some r=>
  obtain⟨e,s⟩:=r;cases e<;>rfl
end Go.Ev
namespace Go.Ev
open Go
variable {X:Kx} {K:List Kf} {s:St} {cfg:Cfg} {orc:Orc} {dep:Nat}
noncomputable def goQ (X:Kx) (a b:ICode) (K:List Kf) (s:St):Option V→Ans
 |some (.d (.bool t))=>if t then go X (.c a::K) s else go X (.c b::K) s
 |some (.d .unkB)=>ak X K (bothWays (evC X.cfg X.dep a s) (evC X.cfg X.dep b s))
 |_=>none
theorem go_condQ (x:IOpd) (a b:ICode):go X (.c (.cond x a b)::K) s=goQ X a b K s (val X.cfg s.get x):=by
 unfold go;rw[ak,evC_cond];generalize val X.cfg s.get x=v;cases v with
 |none=>exact af _ _
 | some v=>
  cases v with
  | d y=>
   cases y with
   |bool t=>cases t<;>(simp only[goQ];unfold go;simp[ak])
   |unkB=>rfl
   |_=>exact af _ _
  |_=>exact af _ _
theorem goQ_t (a b:ICode):goQ X a b K s (some (.d (.bool true)))=go X (.c a::K) s:=rfl
theorem goQ_f (a b:ICode):goQ X a b K s (some (.d (.bool false)))=go X (.c b::K) s:=rfl
noncomputable def goC (X:Kx) (o:IOper) (r:List IOper) (keep:List Nat) (K:List Kf) (s:St):Option (List (Loc×V))→Ans
 |some u=>goR X r keep K (s.upd u)
 | none=>match stepM X.cfg (evL X.cfg) X.dep s o with
  |some s'=>goR X r keep K s'
  |none=>none
theorem goR_step (o:IOper) (r:List IOper) (keep:List Nat):goR X (o::r) keep K s=goC X o r keep K s (stepU X.cfg (evL X.cfg) X.dep s.get o):=by
 unfold goR;rw[evOps];unfold goC evStep;cases stepU X.cfg (evL X.cfg) X.dep s.get o with
 |some u=>rfl
 | none=>
  simp only;cases stepM X.cfg (evL X.cfg) X.dep s o<;>rfl
theorem goC_some (o:IOper) (r:List IOper) (keep:List Nat) (u:List (Loc×V)):goC X o r keep K s (some u)=goR X r keep K (s.upd u):=rfl
theorem goR_end (keep:List Nat) (e:List (Nat×V)) (m:List (Cel×V)):goR X [] keep K ⟨e,m⟩=go X K ⟨settleE X.dep keep e,settleM X.dep m⟩:=rfl
theorem get_slot (e:List (Nat×V)) (m:List (Cel×V)) (k:Nat):St.get ⟨e,m⟩ (.slot k)=lk e k:=rfl
theorem get_cell (e:List (Nat×V)) (m:List (Cel×V)) (c:Cel):St.get ⟨e,m⟩ (.cell c)=lk m c:=rfl
theorem upd_nil:s.upd []=s:=rfl
theorem upd_slot (e:List (Nat×V)) (m:List (Cel×V)) (k:Nat) (v:V) (u:List (Loc×V)):St.upd ⟨e,m⟩ ((.slot k,v)::u)=St.upd ⟨Go.Ev.st e k v,m⟩ u:=rfl
theorem upd_cell (e:List (Nat×V)) (m:List (Cel×V)) (c:Cel) (v:V) (u:List (Loc×V)):St.upd ⟨e,m⟩ ((.cell c,v)::u)=St.upd ⟨e,Go.Ev.st m c v⟩ u:=rfl
theorem azi (k:Nat) (v:V):put1 (some k) v=[(.slot k,v)]:=rfl
theorem val_t (s:Get) (k:Nat):val cfg s (.t k)=s (.slot k):=rfl
theorem val_c (s:Get) (x:D):val cfg s (.c x)=some (.d x):=rfl
theorem vals_nil (s:Get):vals cfg s []=some []:=rfl
theorem asl (s:Get) (x:IOpd) (r:List IOpd):vals cfg s (x::r)=(val cfg s x).bind fun v=>(vals cfg s r).bind fun vs=>some (v::vs):=by
 rw[vals];cases val cfg s x<;>cases vals cfg s r<;>rfl
theorem dats_nil (s:Get):dats cfg s []=some []:=rfl
theorem a05 (s:Get) (x:IOpd) (r:List IOpd):dats cfg s (x::r)=(dat cfg s x).bind fun v=>(dats cfg s r).bind fun vs=>some (v::vs):=by
 rw[dats];cases dat cfg s x<;>cases dats cfg s r<;>rfl
theorem bind_some {α β:Type} (a:α) (f:α→Option β):(some a).bind f=f a:=rfl
theorem U_guard (s:Get) (dst:Option Nat) (k:Nat) (b t:Bool) (op:IOp) (h:s (.slot k)=some (.d (.bool t))):stepU cfg orc dep s ⟨dst,some (k,b),op⟩=if t==b then stepU cfg orc dep s ⟨dst,none,op⟩ else some (put1 dst (.d (.tup []))):=by
 unfold stepU;simp only[guardOk,h];cases t<;>cases b<;>rfl
theorem U_guard0 (s:Get) (dst:Option Nat) (k:Nat) (b:Bool) (op:IOp) (h:s (.slot k)=some (.d (.tup []))):stepU cfg orc dep s ⟨dst,some (k,b),op⟩=some (put1 dst (.d (.tup []))):=by
 unfold stepU;simp only[guardOk,h]
def gU (cfg:Cfg) (orc:Orc) (dep:Nat) (s:Get) (dst:Option Nat) (b:Bool) (op:IOp):Option V→Option (List (Loc×V))
 |some (.d (.bool t))=>if t==b then stepU cfg orc dep s ⟨dst,none,op⟩ else some (put1 dst (.d (.tup [])))
 |some (.d (.tup []))=>some (put1 dst (.d (.tup [])))
 |_=>none
theorem U_g (s:Get) (dst:Option Nat) (k:Nat) (b:Bool) (op:IOp):stepU cfg orc dep s ⟨dst,some (k,b),op⟩=gU cfg orc dep s dst b op (s (.slot k)):=by
 unfold gU;split
 · rename_i t h;exact U_guard s dst k b t op h
 · rename_i h;exact U_guard0 s dst k b op h
 · rename_i h1 h2
   unfold stepU;have:guardOk s (some (k,b))=none:=by
    unfold guardOk;split
    · rename_i e;cases e
    · rename_i e
      cases e;split
      · rename_i t h;exact absurd h (h1 t)
      · rename_i h;exact absurd h h2
      · rfl
   rw[this]
theorem gU_b (s:Get) (dst:Option Nat) (b t:Bool) (op:IOp):gU cfg orc dep s dst b op (some (.d (.bool t)))=if t==b then stepU cfg orc dep s ⟨dst,none,op⟩ else some (put1 dst (.d (.tup []))):=rfl
theorem gU_u (s:Get) (dst:Option Nat) (b:Bool) (op:IOp):gU cfg orc dep s dst b op (some (.d (.tup [])))=some (put1 dst (.d (.tup []))):=rfl
theorem U_mv (s:Get) (k:Nat) (x:IOpd):stepU cfg orc dep s ⟨some k,none,.mv x⟩=(val cfg s x).bind fun v=>evMv (some k) x v:=rfl
theorem U_asg (s:Get) (k:Nat) (x:IOpd):stepU cfg orc dep s ⟨some k,none,.asg x⟩=(val cfg s x).bind fun v=>evAsg s (some k) x v:=rfl
def apv (dst:Option Nat):Option V→Option (List (Loc×V))
 |some (.d x)=>some (put1 dst (.d x))
 |_=>none
def pickU (dst:Option Nat) (f:Bool→Option V):Option V→Option (List (Loc×V))
 |some (.d (.bool t))=>apv dst (f t)
 |_=>none
theorem pickU_b (dst:Option Nat) (f:Bool→Option V) (t:Bool):pickU dst f (some (.d (.bool t)))=apv dst (f t):=rfl
theorem evPick_d (k:Nat) (x:D):apv (some k) (some (.d x))=some [(.slot k,.d x)]:=rfl
theorem U_pick (s:Get) (k:Nat) (c a b:IOpd):stepU cfg orc dep s ⟨some k,none,.pick c a b⟩=pickU (some k) (fun t=>val cfg s (if t then a else b)) (val cfg s c):=by
 show evOp cfg dep s (some k) (.pick c a b)=_;simp only[evOp];generalize val cfg s c=v;cases v with
 |none=>rfl
 | some v=>
  cases v with
  | d y=>
   cases y with
   |bool t=>simp only[pickU,apv];rfl
   |_=>rfl
  |_=>rfl
theorem U_bin (s:Get) (k:Nat) (op:BinOp) (x y:IOpd):stepU cfg orc dep s ⟨some k,none,.bin op x y⟩=match val cfg s x,val cfg s y with
 |some (.d a),some (.d b)=>(D.bin op a b).map fun r=>[(.slot k,.d r)]
 |_,_=>none:=rfl
theorem U_eqn (s:Get) (k:Nat) (n:Bool) (c:ECls) (x y:IOpd):stepU cfg orc dep s ⟨some k,none,.eqn n c x y⟩=match val cfg s x,val cfg s y with
 |some a,some b=>(V.eqn cfg c a b).map fun r=>[(.slot k,.d (.bool (if n then !r else r)))]
 |_,_=>none:=rfl
theorem U_isNil (s:Get) (k:Nat) (n:Bool) (x:IOpd):stepU cfg orc dep s ⟨some k,none,.isNil n x⟩=(val cfg s x).bind fun v=>(l6 n v).map fun r=>[(.slot k,.d r)]:=rfl
theorem U_un (s:Get) (k:Nat) (op:UnOp) (x:IOpd):stepU cfg orc dep s ⟨some k,none,.un op x⟩=match val cfg s x with
 |some (.d a)=>(D.un op a).map fun r=>[(.slot k,.d r)]
 |_=>none:=rfl
theorem U_cvInt (s:Get) (j:Nat) (k:IntKind) (x:IOpd):stepU cfg orc dep s ⟨some j,none,.cvInt k x⟩=match val cfg s x with
 |some (.d (.int _ n))=>some [(.slot j,.d (.int k (k.wrap n)))]
 |_=>none:=rfl
theorem U_b2s (s:Get) (k:Nat) (x:IOpd):stepU cfg orc dep s ⟨some k,none,.b2s x⟩=((val cfg s x).bind (cont s)).bind fun es=>(db es).map fun b=>[(.slot k,.d (.str b))]:=rfl
theorem U_load (s:Get) (k:Nat) (z:Option Nat) (x:IOpd):stepU cfg orc dep s ⟨some k,none,.load z x⟩=(val cfg s x).bind fun v=>fh s (some k) z v:=rfl
def stoV (cfg:Cfg) (s:Get) (n:Nat) (a x:IOpd):Option (List (Loc×V)):=match val cfg s a,val cfg s x with
 |some a,some v=>cy s n a x v
 |_,_=>none
def stoG (cfg:Cfg) (s:Get) (n:Nat) (a x:IOpd):Option V→Option (List (Loc×V))
 |some (.bref _ _ _)=>(stoV cfg (updG s (giveUp s [a,x])) n a x).map (giveUp s [a,x]++ ·)
 |_=>stoV cfg s n a x
theorem U_store (s:Get) (n:Nat) (a x:IOpd):stepU cfg orc dep s ⟨none,none,.store n a x⟩=stoG cfg s n a x (val cfg s a):=by
 show evOpD cfg dep s none (.store n a x)=_;unfold evOpD stoG;cases h:val cfg s a with
 |none=>simp only[gives,h];rfl
 |some v=>cases v<;>(simp only[gives,h];rfl)
theorem ass (s:Get) (n:Nat) (a x:IOpd) (l:Loc) (i o:Nat):stoG cfg s n a x (some (.bref l i o))=(stoV cfg (updG s (giveUp s [a,x])) n a x).map (giveUp s [a,x]++ ·):=rfl
theorem stoG_ref (s:Get) (n:Nat) (a x:IOpd) (d k o:Nat):stoG cfg s n a x (some (.ref d k o))=stoV cfg s n a x:=rfl
theorem stoV_def (s:Get) (n:Nat) (a x:IOpd):stoV cfg s n a x=(val cfg s a).bind fun p=>(val cfg s x).bind fun v=>cy s n p x v:=by
 unfold stoV;cases val cfg s a with
 |none=>rfl
 |some p=>cases val cfg s x<;>rfl
def um (l:Loc) (r:List (Loc×V)):Option V→List (Loc×V)
 |some (.own false _ es)=>(l,.d (.sl es))::r
 |_=>r
def ja (s:Get) (k:Nat) (r:List (Loc×V)):Option V→List (Loc×V)
 |some (.own _ _ es)=>(.slot k,.d (.sl es))::r
 |some (.bor l _ _)=>um l r (s l)
 |_=>r
def ul (k o n:Nat) (r:List (Loc×V)):Option V→List (Loc×V)
 |some (.own false _ es)=>(.slot k,.d (.sl ((es.drop o).take n)))::r
 |_=>r
def i9 (s:Get) (k:Nat) (r:List (Loc×V)):Option V→List (Loc×V)
 |some (.bor l o n)=>ul k o n r (s l)
 |_=>r
theorem arf (s:Get) (l:List IOpd):giveUp s l=giveL s l++giveP s l:=rfl
theorem a0m (s:Get):giveL s []=[]:=rfl
theorem giveL_c (s:Get) (d:D) (r:List IOpd):giveL s (.c d::r)=giveL s r:=rfl
theorem giveL_g (s:Get) (n:Nat) (r:List IOpd):giveL s (.g n::r)=giveL s r:=rfl
theorem a0l (s:Get):giveP s []=[]:=rfl
theorem giveP_c (s:Get) (d:D) (r:List IOpd):giveP s (.c d::r)=giveP s r:=rfl
theorem giveP_g (s:Get) (n:Nat) (r:List IOpd):giveP s (.g n::r)=giveP s r:=rfl
theorem giveL_t (s:Get) (k:Nat) (r:List IOpd):giveL s (.t k::r)=ja s k (giveL s r) (s (.slot k)):=by
 unfold ja um;rw[giveL];cases s (.slot k) with
 |none=>rfl
 |some v=>cases v<;>rfl
theorem giveP_t (s:Get) (k:Nat) (r:List IOpd):giveP s (.t k::r)=i9 s k (giveP s r) (s (.slot k)):=by
 unfold i9 ul;rw[giveP];cases s (.slot k) with
 |none=>rfl
 |some v=>cases v<;>rfl
theorem arq (s:Get) (k:Nat) (r:List (Loc×V)) (nw:Bool) (z:Nat) (es:List D):ja s k r (some (.own nw z es))=(.slot k,.d (.sl es))::r:=rfl
theorem art (s:Get) (k:Nat) (r:List (Loc×V)) (l:Loc) (o n:Nat):ja s k r (some (.bor l o n))=um l r (s l):=rfl
theorem arj (s:Get) (k:Nat) (r:List (Loc×V)) (nw:Bool) (z:Nat) (es:List D):i9 s k r (some (.own nw z es))=r:=rfl
theorem arm (s:Get) (k:Nat) (r:List (Loc×V)) (l:Loc) (o n:Nat):i9 s k r (some (.bor l o n))=ul k o n r (s l):=rfl
theorem aru (l:Loc) (r:List (Loc×V)) (z:Nat) (es:List D):um l r (some (.own false z es))=(l,.d (.sl es))::r:=rfl
theorem arn (k o n:Nat) (r:List (Loc×V)) (z:Nat) (es:List D):ul k o n r (some (.own false z es))=(.slot k,.d (.sl ((es.drop o).take n)))::r:=rfl
theorem giveLB_d (l:Loc) (r:List (Loc×V)) (y:D):um l r (some (.d y))=r:=rfl
theorem givePB_d (k o n:Nat) (r:List (Loc×V)) (y:D):ul k o n r (some (.d y))=r:=rfl
theorem ah4 (l:Loc) (r:List (Loc×V)):um l r none=r:=rfl
theorem ahz (k o n:Nat) (r:List (Loc×V)):ul k o n r none=r:=rfl
theorem giveLQ_d (s:Get) (k:Nat) (r:List (Loc×V)) (y:D):ja s k r (some (.d y))=r:=rfl
theorem ah3 (s:Get) (k:Nat) (r:List (Loc×V)) (l:Loc) (o n:Nat):ja s k r (some (.bref l o n))=r:=rfl
theorem ah2 (s:Get) (k:Nat) (r:List (Loc×V)) (e:D) (o:Nat):ja s k r (some (.iptr e o))=r:=rfl
theorem arp (s:Get) (k:Nat) (r:List (Loc×V)) (d j o:Nat):ja s k r (some (.ref d j o))=r:=rfl
theorem ars (s:Get) (k:Nat) (r:List (Loc×V)) (f:FuncId) (a b:List V):ja s k r (some (.clo f a b))=r:=rfl
theorem arr (s:Get) (k:Nat) (r:List (Loc×V)) (t:TypeId) (v:V):ja s k r (some (.ifc t v))=r:=rfl
theorem aro (s:Get) (k:Nat) (r:List (Loc×V)) (ys:List V):ja s k r (some (.vec ys))=r:=rfl
theorem ah0 (s:Get) (k:Nat) (r:List (Loc×V)) (y:V):ja s k r (some (.vref y))=r:=rfl
theorem arh (s:Get) (k:Nat) (r:List (Loc×V)) (ys:List V):i9 s k r (some (.vec ys))=r:=rfl
theorem ahv (s:Get) (k:Nat) (r:List (Loc×V)) (y:V):i9 s k r (some (.vref y))=r:=rfl
theorem ah1 (s:Get) (k:Nat) (r:List (Loc×V)):ja s k r (some (.junk))=r:=rfl
theorem givePQ_d (s:Get) (k:Nat) (r:List (Loc×V)) (y:D):i9 s k r (some (.d y))=r:=rfl
theorem ahy (s:Get) (k:Nat) (r:List (Loc×V)) (l:Loc) (o n:Nat):i9 s k r (some (.bref l o n))=r:=rfl
theorem ahx (s:Get) (k:Nat) (r:List (Loc×V)) (e:D) (o:Nat):i9 s k r (some (.iptr e o))=r:=rfl
theorem ari (s:Get) (k:Nat) (r:List (Loc×V)) (d j o:Nat):i9 s k r (some (.ref d j o))=r:=rfl
theorem arl (s:Get) (k:Nat) (r:List (Loc×V)) (f:FuncId) (a b:List V):i9 s k r (some (.clo f a b))=r:=rfl
theorem ark (s:Get) (k:Nat) (r:List (Loc×V)) (t:TypeId) (v:V):i9 s k r (some (.ifc t v))=r:=rfl
theorem ahw (s:Get) (k:Nat) (r:List (Loc×V)):i9 s k r (some (.junk))=r:=rfl
theorem U_nilck (s:Get) (k:Nat) (x:IOpd):stepU cfg orc dep s ⟨some k,none,.nilck x⟩=(val cfg s x).bind fun v=>evNil (some k) v:=rfl
theorem U_alloc (s:Get) (k:Nat) (zs:List D):stepU cfg orc dep s ⟨some k,none,.alloc zs⟩=if(s (.cell ⟨dep,k,0⟩)).isSome||zs.isEmpty then none
 else some ((.slot k,.ref dep k 0)::dz dep k 0 (zs.map .d)):=rfl
theorem U_box (s:Get) (k n:Nat) (x:IOpd):stepU cfg orc dep s ⟨some k,none,.box n x⟩=(val cfg s x).bind fun v=>evBox dep s k n v:=by
 show evOp cfg dep s (some k) (.box n x)=_;simp only[evOp];cases val cfg s x<;>rfl
def bldV (cfg:Cfg) (s:Get) (k:Nat) (zs:List D) (ps:List (Nat×Nat×IOpd)):Option (List (Loc×V)):=(dy cfg s ps).bind fun l=>(fillD zs l).map fun cs=>[(.slot k,.d (.agg cs))]
theorem U_build (s:Get) (k:Nat) (zs:List D) (ps:List (Nat×Nat×IOpd)):stepU cfg orc dep s ⟨some k,none,.build zs ps⟩=(bldV cfg (updG s (giveUp s (ps.map fun p=>p.2.2))) k zs ps).map (giveUp s (ps.map fun p=>p.2.2)++ ·):=rfl
theorem bldV_def (s:Get) (k:Nat) (zs:List D) (ps:List (Nat×Nat×IOpd)):bldV cfg s k zs ps=(dy cfg s ps).bind fun l=>(fillD zs l).map fun cs=>[(.slot k,.d (.agg cs))]:=rfl
def litO (cfg:Cfg) (s:Get) (k:Nat) (own:Bool) (z n:Nat) (zd:D) (ps:List (Nat×IOpd)):Option (List (Loc×V)):=(parts2 cfg s ps).bind fun l=>
 if zd.cells.length=z∧n≤1000∧zd.storable then
  (fillE z (List.replicate n zd) l).map fun es=>[(.slot k,if n=0 then .d .nilS else if own then .own true z es else .d (.sl es))] else none
def litV (cfg:Cfg) (s:Get) (k:Nat) (own:Bool) (z n:Nat) (zd:D) (ps:List (Nat×IOpd)):Option (List (Loc×V)):=
 match evVec cfg s (some k) z n ps with
 |some u=>some u
 |none=>litO cfg s k own z n zd ps
def vecV (cfg:Cfg) (s:Get) (k:Nat) (own:Bool) (z n:Nat) (zd:D) (ps:List (Nat×IOpd)):Option (List V)→Option (List (Loc×V))
 |some (y::ys)=>if z=1∧n=(y::ys).length then some [(.slot k,.vec (y::ys))] else litO cfg s k own z n zd ps
 |_=>litO cfg s k own z n zd ps
def litQ (cfg:Cfg) (s:Get) (k:Nat) (own:Bool) (z n:Nat) (zd:D) (ps:List (Nat×IOpd)):Option V→Option (List (Loc×V))
 |some (.ref _ _ _)=>vecV cfg s k own z n zd ps (dx cfg s 0 ps)
 |_=>litO cfg s k own z n zd ps
theorem U_lit (s:Get) (k:Nat) (own:Bool) (z n:Nat) (zd:D) (ps:List (Nat×IOpd)):stepU cfg orc dep s ⟨some k,none,.lit own z n zd ps⟩=(litV cfg (updG s (giveUp s (ps.map fun p=>p.2))) k own z n zd ps).map (giveUp s (ps.map fun p=>p.2)++ ·):=by
 show(evOp cfg dep (updG s (giveUp s (ps.map fun p=>p.2))) (some k) (.lit own z n zd ps)).map (giveUp s (ps.map fun p=>p.2)++ ·)=_
 congr 1
theorem litV_nil (s:Get) (k:Nat) (own:Bool) (z n:Nat) (zd:D):litV cfg s k own z n zd []=litO cfg s k own z n zd []:=rfl
theorem az1 (s:Get) (k:Nat) (own:Bool) (z n:Nat) (zd:D) (j:Nat) (x:IOpd) (r:List (Nat×IOpd)):litV cfg s k own z n zd ((j,x)::r)=litQ cfg s k own z n zd ((j,x)::r) (val cfg s x):=by
 unfold litV litQ evVec;cases hv:val cfg s x with
 |none=>simp only[dx,hv]
 | some v=>
  cases v with
  | ref d j' o=>
   dsimp only;unfold vecV;cases dx cfg s 0 ((j,x)::r) with
   |none=>rfl
   | some l=>cases l with
    |nil=>rfl
    | cons y ys=>
     dsimp only;by_cases h:z=1∧n=(y::ys).length
     · rw[if_pos h,if_pos h];rfl
     · rw[if_neg h,if_neg h]
  |_=>simp only[dx,hv]
theorem litQ_d (s:Get) (k:Nat) (own:Bool) (z n:Nat) (zd:D) (ps:List (Nat×IOpd)) (y:D):litQ cfg s k own z n zd ps (some (.d y))=litO cfg s k own z n zd ps:=rfl
theorem az2 (s:Get) (k:Nat) (own:Bool) (z n:Nat) (zd:D) (ps:List (Nat×IOpd)) (y:D) (o:Nat):litQ cfg s k own z n zd ps (some (.iptr y o))=litO cfg s k own z n zd ps:=rfl
theorem litQ_ref (s:Get) (k:Nat) (own:Bool) (z n:Nat) (zd:D) (ps:List (Nat×IOpd)) (d j o:Nat):litQ cfg s k own z n zd ps (some (.ref d j o))=vecV cfg s k own z n zd ps (dx cfg s 0 ps):=rfl
theorem ask (s:Get) (k:Nat) (own:Bool) (z n:Nat) (zd:D) (ps:List (Nat×IOpd)) (y:V) (ys:List V):vecV cfg s k own z n zd ps (some (y::ys))=if z=1∧n=(y::ys).length then some [(.slot k,.vec (y::ys))] else litO cfg s k own z n zd ps:=rfl
def refsQ (cfg:Cfg) (s:Get) (i j:Nat) (r:List (Nat×IOpd)):Option V→Option (List V)
 |some (.ref d k o)=>if j=i then(dx cfg s (i+1) r).map (.ref d k o:: ·) else none
 |_=>none
theorem aqw (s:Get) (i:Nat):dx cfg s i []=some []:=rfl
theorem afg (s:Get) (i j:Nat) (x:IOpd) (r:List (Nat×IOpd)):dx cfg s i ((j,x)::r)=refsQ cfg s i j r (val cfg s x):=by
 unfold refsQ;rw[dx];rfl
theorem att (s:Get) (i j:Nat) (r:List (Nat×IOpd)) (d k o:Nat):refsQ cfg s i j r (some (.ref d k o))=if j=i then(dx cfg s (i+1) r).map (.ref d k o:: ·) else none:=rfl
theorem litO_def (s:Get) (k:Nat) (own:Bool) (z n:Nat) (zd:D) (ps:List (Nat×IOpd)):litO cfg s k own z n zd ps=(parts2 cfg s ps).bind fun l=>
 if zd.cells.length=z∧n≤1000∧zd.storable then
  (fillE z (List.replicate n zd) l).map fun es=>[(.slot k,if n=0 then .d .nilS else if own then .own true z es else .d (.sl es))] else none:=rfl
theorem U_slice (s:Get) (k z:Nat) (x:IOpd) (lo hi mx:Option IOpd):stepU cfg orc dep s ⟨some k,none,.slice z x lo hi mx⟩=(val cfg s x).bind fun v=>gn cfg s (some k) z x v lo hi mx:=rfl
theorem U_sliceS (s:Get) (k:Nat) (x:IOpd) (lo hi:Option IOpd):stepU cfg orc dep s ⟨some k,none,.sliceS x lo hi⟩=match val cfg s x with
 |some (.d (.str b))=>(bm cfg s b.length lo hi).map fun(l,h)=>[(.slot k,.d (.str ((b.take h).drop l)))]
 |_=>none:=rfl
theorem U_fieldA (s:Get) (k off:Nat) (x:IOpd):stepU cfg orc dep s ⟨some k,none,.fieldA off x⟩=match val cfg s x with
 |some (.ref d j o)=>some [(.slot k,.ref d j (o+off))]
 |some (.bref l i o)=>some [(.slot k,.bref l i (o+off))]
 |some (.iptr e o)=>some [(.slot k,.iptr e (o+off))]
 |some (.d (.ptr e))=>some [(.slot k,.iptr e off)]
 |_=>none:=rfl
theorem U_field (s:Get) (k off:Nat) (z:Option Nat) (x:IOpd):stepU cfg orc dep s ⟨some k,none,.field off z x⟩=match val cfg s x with
 |some (.d (.agg cs))=>(ldD z (.agg cs) off).map fun r=>[(.slot k,.d r)]
 |_=>none:=rfl
def fldV (k off:Nat) (z:Option Nat):V→Option (List (Loc×V))
 | .d (.agg cs)=>(ldD z (.agg cs) off).map fun r=>[(.slot k,.d r)]
 |_=>none
theorem U_fieldV (s:Get) (k off:Nat) (z:Option Nat) (x:IOpd):stepU cfg orc dep s ⟨some k,none,.field off z x⟩=(val cfg s x).bind (fldV k off z):=by
 rw[U_field];cases val cfg s x with
 |none=>rfl
 | some v=>cases v with
  |d y=>cases y<;>rfl
  |_=>rfl
theorem fldV_agg (k off:Nat) (z:Option Nat) (cs:List D):fldV k off z (.d (.agg cs))=(ldD z (.agg cs) off).map fun r=>[(.slot k,.d r)]:=rfl
theorem U_idxA (s:Get) (k z:Nat) (x i:IOpd):stepU cfg orc dep s ⟨some k,none,.idxA z x i⟩=match val cfg s x,(dat cfg s i).bind D.toInt? with
 |some v,some n=>evIdx s (some k) z x v n
 |_,_=>none:=rfl
theorem U_idxS (s:Get) (k:Nat) (x i:IOpd):stepU cfg orc dep s ⟨some k,none,.idxS x i⟩=match val cfg s x,(dat cfg s i).bind D.toInt? with
 |some (.d (.str b)),some n=>if n<0 then none else(b[n.toNat]?).map fun c=>[(.slot k,.d (byteD c))]
 |_,_=>none:=rfl
theorem U_ext (s:Get) (k:Nat) (x:IOpd) (i:Nat):stepU cfg orc dep s ⟨some k,none,.ext x i⟩=match val cfg s x with
 |some (.d (.tup ds))=>(ds[i]?).map fun r=>[(.slot k,.d r)]
 |_=>none:=rfl
theorem U_lenS (s:Get) (k:Nat) (x:IOpd):stepU cfg orc dep s ⟨some k,none,.len true x⟩=match val cfg s x with
 |some (.d (.str b))=>some [(.slot k,.d (.int .i64 b.length))]
 |_=>none:=rfl
def V.len? :V→Option Nat
 | .d .nilS=>some 0
 | .d (.sl es)=>some es.length
 | .own _ _ es=>some es.length
 | .bor _ _ n=>some n
 | .vec ys=>some ys.length
 |_=>none
theorem U_len (s:Get) (k:Nat) (x:IOpd):stepU cfg orc dep s ⟨some k,none,.len false x⟩=((val cfg s x).bind V.len?).map fun n=>[(.slot k,.d (.int .i64 n))]:=by
 show evOp cfg dep s (some k) (.len false x)=_;simp only[evOp];cases val cfg s x with
 |none=>rfl
 | some v=>
  simp only[Option.bind_some];unfold V.len?;split<;>first|rfl| (rename_i h1 h2 h3 h4 h5;split<;>first|rfl|exact absurd rfl h1|exact absurd rfl (h2 _)|exact absurd rfl (h3 _ _ _)|exact absurd rfl (h4 _ _ _)|exact absurd rfl (h5 _))
theorem U_minmax (s:Get) (k:Nat) (mx:Bool) (xs:List IOpd):stepU cfg orc dep s ⟨some k,none,.minmax mx xs⟩=(dats cfg s xs).bind fun l=>(minD mx l).map fun r=>[(.slot k,.d r)]:=rfl
theorem U_append (s:Get) (k z bytes:Nat) (x y:IOpd):stepU cfg orc dep s ⟨some k,none,.append z bytes x y⟩=match val cfg s x,(val cfg s y).bind (cont s) with
 |some v,some ys=>fv s (some k) z bytes x v ys
 |_,_=>none:=rfl
theorem U_call (s:Get) (k:Nat) (own:Bool) (f:FuncId) (args:List IOpd) (hc:clipArg cfg (.call own f args)=none):stepU cfg orc dep s ⟨some k,none,.call own f args⟩=(vals cfg s args).bind fun vs=>callW cfg orc s (some k) own f args vs:=by
 unfold stepU;simp only[guardOk,Option.isNone_some,Bool.false_and,yz,if_false,isCallOp,if_true,hc,target];cases vals cfg s args<;>rfl
theorem po {own:Bool} {f:FuncId} {args:List IOpd} (h:cfg.clip f=false):clipArg cfg (.call own f args)=none:=by
 unfold clipArg;split
 · rename_i e;cases e;rw[h];rfl
 · rfl
theorem U_call' (s:Get) (k:Nat) (own:Bool) (f:FuncId) (args:List IOpd) (hc:cfg.clip f=false):stepU cfg orc dep s ⟨some k,none,.call own f args⟩=(vals cfg s args).bind fun vs=>callW cfg orc s (some k) own f args vs:=
 U_call s k own f args (po hc)
theorem U_clip (s:Get) (k:Nat) (own:Bool) (f:FuncId) (x:IOpd) (hc:cfg.clip f=true):stepU cfg orc dep s ⟨some k,none,.call own f [x]⟩=(val cfg s x).bind fun v=>evClip (some k) x v:=by
 unfold stepU;simp only[guardOk,Option.isNone_some,Bool.false_and,yz,if_false,isCallOp,if_true,clipArg,hc]
end Go.Ev
namespace Go.Ev
open Go
attribute [go_sem] go_nil go_blk go_ret go_skip go_exit goX_c goX_b go_seq go_block go_condQ goQ_t goQ_f go_demote go_free goX_nil go_region goR_step goC_some goR_end get_slot get_cell upd_nil upd_slot upd_cell azi val_t val_c vals_nil asl dats_nil a05 bind_some U_g gU_b gU_u U_mv U_asg U_pick pickU_b evPick_d U_bin U_eqn U_isNil U_un U_cvInt U_b2s U_load U_store U_nilck U_alloc U_box U_build U_lit U_slice U_sliceS U_fieldA U_fieldV fldV_agg U_idxA U_idxS U_ext U_lenS U_len U_minmax U_append ass stoG_ref stoV_def arf a0m giveL_c giveL_g giveL_t a0l giveP_c giveP_g giveP_t arq art arj arm aru arn giveLB_d givePB_d ah4 ahz giveLQ_d ah3 ah2 arp ars arr ah1 givePQ_d ahy ahx ari arl ark ahw bldV_def litV_nil az1 litQ_d az2 litQ_ref ask aqw afg att litO_def aro ah0 arh ahv lk st settleM Option.map_some Option.map_none
section
@[go_sem] theorem can_int (k:IntKind) (n:Int):(D.int k n).can=(D.int k n):=rfl
@[go_sem] theorem can_bool (b:Bool):(D.bool b).can=(D.bool b):=rfl
@[go_sem] theorem can_str (t:List UInt8):(D.str t).can=(D.str t):=rfl
@[go_sem] theorem can_sl (es:List D):(D.sl es).can=(D.sl es):=rfl
@[go_sem] theorem can_nilP:D.nilP.can=D.nilP:=rfl
@[go_sem] theorem can_nilI:D.nilI.can=D.nilI:=rfl
@[go_sem] theorem can_nilF:D.nilF.can=D.nilF:=rfl
@[go_sem] theorem can_nilM:D.nilM.can=D.nilM:=rfl
@[go_sem] theorem can_ptr (e:D):(D.ptr e).can=(D.ptr e):=rfl
@[go_sem] theorem can_ifc (u:TypeId) (e:D):(D.ifc u e).can=(D.ifc u e):=rfl
@[go_sem] theorem can_fn (f:FuncId):(D.fn f).can=(D.fn f):=rfl
@[go_sem] theorem can_unk:D.unk.can=D.unk:=rfl
@[go_sem] theorem can_unkB:D.unkB.can=D.unkB:=rfl
@[go_sem] theorem can_nilS:D.nilS.can=D.sl []:=rfl
@[go_sem] theorem canA_int (k:IntKind) (n:Int):(D.int k n).canA=(D.int k n):=rfl
@[go_sem] theorem canA_bool (b:Bool):(D.bool b).canA=(D.bool b):=rfl
@[go_sem] theorem canA_str (t:List UInt8):(D.str t).canA=(D.str t):=rfl
@[go_sem] theorem canA_sl (es:List D):(D.sl es).canA=(D.sl es):=rfl
@[go_sem] theorem canA_nilP:D.nilP.canA=D.nilP:=rfl
@[go_sem] theorem canA_nilI:D.nilI.canA=D.nilI:=rfl
@[go_sem] theorem canA_nilF:D.nilF.canA=D.nilF:=rfl
@[go_sem] theorem canA_nilM:D.nilM.canA=D.nilM:=rfl
@[go_sem] theorem canA_ptr (e:D):(D.ptr e).canA=(D.ptr e):=rfl
@[go_sem] theorem canA_ifc (u:TypeId) (e:D):(D.ifc u e).canA=(D.ifc u e):=rfl
@[go_sem] theorem canA_fn (f:FuncId):(D.fn f).canA=(D.fn f):=rfl
@[go_sem] theorem canA_unk:D.unk.canA=D.unk:=rfl
@[go_sem] theorem canA_unkB:D.unkB.canA=D.unkB:=rfl
@[go_sem] theorem canA_nilS:D.nilS.canA=D.sl []:=rfl
@[go_sem] theorem canon_int (k:IntKind) (n:Int):(D.int k n).canon=(D.int k n):=rfl
@[go_sem] theorem canon_bool (b:Bool):(D.bool b).canon=(D.bool b):=rfl
@[go_sem] theorem canon_str (t:List UInt8):(D.str t).canon=(D.str t):=rfl
@[go_sem] theorem canon_sl (es:List D):(D.sl es).canon=(D.sl es):=rfl
@[go_sem] theorem canon_nilP:D.nilP.canon=D.nilP:=rfl
@[go_sem] theorem canon_nilI:D.nilI.canon=D.nilI:=rfl
@[go_sem] theorem canon_nilF:D.nilF.canon=D.nilF:=rfl
@[go_sem] theorem canon_nilM:D.nilM.canon=D.nilM:=rfl
@[go_sem] theorem canon_ptr (e:D):(D.ptr e).canon=(D.ptr e):=rfl
@[go_sem] theorem canon_ifc (u:TypeId) (e:D):(D.ifc u e).canon=(D.ifc u e):=rfl
@[go_sem] theorem canon_fn (f:FuncId):(D.fn f).canon=(D.fn f):=rfl
@[go_sem] theorem canon_unk:D.unk.canon=D.unk:=rfl
@[go_sem] theorem canon_unkB:D.unkB.canon=D.unkB:=rfl
@[go_sem] theorem canon_nilS:D.nilS.canon=D.sl []:=rfl
@[go_sem] theorem can_agg (cs:List D):(D.agg cs).can= .agg cs:=rfl
@[go_sem] theorem can_tup (cs:List D):(D.tup cs).can= .tup cs:=rfl
@[go_sem] theorem canA_agg (cs:List D):(D.agg cs).canA= .agg (cs.map D.can):=rfl
@[go_sem] theorem canon_agg (cs:List D):(D.agg cs).canon= .agg (cs.map D.can):=rfl
@[go_sem] theorem canon_tup (cs:List D):(D.tup cs).canon= .tup (cs.map D.canA):=rfl
@[go_sem] theorem cells_agg (cs:List D):(D.agg cs).cells=cs:=rfl
@[go_sem] theorem cells_int (k:IntKind) (n:Int):(D.int k n).cells=[.int k n]:=rfl
@[go_sem] theorem cells_bool (b:Bool):(D.bool b).cells=[.bool b]:=rfl
@[go_sem] theorem cells_str (b:List UInt8):(D.str b).cells=[.str b]:=rfl
@[go_sem] theorem cells_sl (es:List D):(D.sl es).cells=[.sl es]:=rfl
@[go_sem] theorem cells_nilS:D.nilS.cells=[.nilS]:=rfl
@[go_sem] theorem cells_nilP:D.nilP.cells=[.nilP]:=rfl
@[go_sem] theorem cells_nilI:D.nilI.cells=[.nilI]:=rfl
@[go_sem] theorem cells_nilF:D.nilF.cells=[.nilF]:=rfl
@[go_sem] theorem cells_nilM:D.nilM.cells=[.nilM]:=rfl
@[go_sem] theorem cells_ptr (e:D):(D.ptr e).cells=[.ptr e]:=rfl
@[go_sem] theorem cells_ifc (t:TypeId) (e:D):(D.ifc t e).cells=[.ifc t e]:=rfl
@[go_sem] theorem cells_fn (f:FuncId):(D.fn f).cells=[.fn f]:=rfl
@[go_sem] theorem cells_unk:D.unk.cells=[.unk]:=rfl
end
variable {cfg:Cfg} {s:Get} {dep:Nat}
@[go_sem] theorem toInt_int (k:IntKind) (n:Int):(D.int k n).toInt? =some n:=rfl
@[go_sem] theorem len_nilS:V.len? (.d .nilS)=some 0:=rfl
@[go_sem] theorem len_sl (es:List D):V.len? (.d (.sl es))=some es.length:=rfl
@[go_sem] theorem len_own (nw:Bool) (z:Nat) (es:List D):V.len? (.own nw z es)=some es.length:=rfl
@[go_sem] theorem len_vec (ys:List V):V.len? (.vec ys)=some ys.length:=rfl
@[go_sem] theorem len_bor (l:Loc) (o n:Nat):V.len? (.bor l o n)=some n:=rfl
@[go_sem] theorem home_d (y:D):V.home dep (.d y)= .d y:=rfl
@[go_sem] theorem home_own (nw:Bool) (z:Nat) (es:List D):V.home dep (.own nw z es)= .own false z es:=rfl
@[go_sem] theorem home_bor (l:Loc) (o n:Nat):V.home dep (.bor l o n)= .junk:=rfl
@[go_sem] theorem home_bref (l:Loc) (o n:Nat):V.home dep (.bref l o n)= .junk:=rfl
@[go_sem] theorem home_iptr (e:D) (o:Nat):V.home dep (.iptr e o)= .iptr e o:=rfl
@[go_sem] theorem home_junk:V.home dep .junk= .junk:=rfl
@[go_sem] theorem home_ref (d k o:Nat):V.home dep (.ref d k o)=if decide (d<dep+1)=true then .ref d k o else .junk:=rfl
@[go_sem] theorem home_vec (ys:List V):V.home dep (.vec ys)=if V.upTos (dep+1) ys=true then .vec ys else .junk:=rfl
@[go_sem] theorem home_vref (y:V):V.home dep (.vref y)=if V.upTo (dep+1) y=true then .vref y else .junk:=rfl
@[go_sem] theorem home_clo (f:FuncId) (a b:List V):V.home dep (.clo f a b)=if V.upTo (dep+1) (.clo f a b)=true then .clo f a b else .junk:=rfl
@[go_sem] theorem home_ifc (t:TypeId) (v:V):V.home dep (.ifc t v)=if V.upTo (dep+1) v=true then .ifc t v else .junk:=rfl
@[go_sem] theorem settleE_nil (e:List (Nat×V)):settleE dep [] e=[]:=rfl
def setK (dep k:Nat) (r:List Nat) (e:List (Nat×V)):Option V→List (Nat×V)
 |some v=>(k,v.home dep)::settleE dep r e
 |none=>settleE dep r e
@[go_sem] theorem settleE_cons (k:Nat) (r:List Nat) (e:List (Nat×V)):settleE dep (k::r) e=setK dep k r e (lk e k):=by
 unfold setK;rw[settleE];cases lk e k<;>rfl
@[go_sem] theorem setK_some (k:Nat) (r:List Nat) (e:List (Nat×V)) (v:V):setK dep k r e (some v)=(k,v.home dep)::settleE dep r e:=rfl
@[go_sem] theorem setK_none (k:Nat) (r:List Nat) (e:List (Nat×V)):setK dep k r e none=settleE dep r e:=rfl
@[go_sem] theorem upTo_ref (n d k o:Nat):V.upTo n (.ref d k o)=decide (d<n):=rfl
@[go_sem] theorem upTo_d (n:Nat) (x:D):V.upTo n (.d x)=true:=rfl
@[go_sem] theorem upTo_iptr (n:Nat) (x:D) (o:Nat):V.upTo n (.iptr x o)=true:=rfl
@[go_sem] theorem upTo_junk (n:Nat):V.upTo n .junk=true:=rfl
@[go_sem] theorem upTo_bor (n:Nat) (l:Loc) (a b:Nat):V.upTo n (.bor l a b)=false:=rfl
@[go_sem] theorem upTo_bref (n:Nat) (l:Loc) (a b:Nat):V.upTo n (.bref l a b)=false:=rfl
@[go_sem] theorem upTo_ifc (n:Nat) (t:TypeId) (v:V):V.upTo n (.ifc t v)=v.upTo n:=rfl
section
variable (dst:Option Nat) (x:IOpd)
@[go_sem] theorem evMv_d (y:D):evMv dst x (.d y)=some (put1 dst (.d y)):=by cases x<;>rfl
@[go_sem] theorem evMv_ref (d k o:Nat):evMv dst x (.ref d k o)=some (put1 dst (.ref d k o)):=by cases x<;>rfl
@[go_sem] theorem evMv_iptr (e:D) (o:Nat):evMv dst x (.iptr e o)=some (put1 dst (.iptr e o)):=by cases x<;>rfl
@[go_sem] theorem evMv_bref (l:Loc) (i o:Nat):evMv dst x (.bref l i o)=some (put1 dst (.bref l i o)):=by cases x<;>rfl
@[go_sem] theorem evMv_bor (l:Loc) (i o:Nat):evMv dst x (.bor l i o)=some (put1 dst (.bor l i o)):=by cases x<;>rfl
@[go_sem] theorem evMv_ifc (t:TypeId) (v:V):evMv dst x (.ifc t v)=some (put1 dst (.ifc t v)):=by cases x<;>rfl
@[go_sem] theorem evMv_vec (ys:List V):evMv dst x (.vec ys)=some (put1 dst (.vec ys)):=by cases x<;>rfl
@[go_sem] theorem evMv_vref (y:V):evMv dst x (.vref y)=some (put1 dst (.vref y)):=by cases x<;>rfl
@[go_sem] theorem evMv_clo (f:FuncId) (a b:List V):evMv dst x (.clo f a b)=some (put1 dst (.clo f a b)):=by cases x<;>rfl
@[go_sem] theorem evMv_ownF (k z:Nat) (es:List D):evMv dst (.t k) (.own false z es)=some (put1 dst (.bor (.slot k) 0 es.length)):=rfl
@[go_sem] theorem evMv_ownT (k z:Nat) (es:List D):evMv dst (.t k) (.own true z es)=some (put1 dst (.own true z es)++[(.slot k,.junk)]):=rfl
@[go_sem] theorem evAsg_d (y:D):evAsg s dst x (.d y)=some (put1 dst (.d y)):=by cases x<;>rfl
@[go_sem] theorem evAsg_ref (d k o:Nat):evAsg s dst x (.ref d k o)=some (put1 dst (.ref d k o)):=by cases x<;>rfl
@[go_sem] theorem evAsg_iptr (e:D) (o:Nat):evAsg s dst x (.iptr e o)=some (put1 dst (.iptr e o)):=by cases x<;>rfl
@[go_sem] theorem evAsg_ifc (t:TypeId) (v:V):evAsg s dst x (.ifc t v)=some (put1 dst (.ifc t v)):=by cases x<;>rfl
@[go_sem] theorem evAsg_vec (ys:List V):evAsg s dst x (.vec ys)=some (put1 dst (.vec ys)):=by cases x<;>rfl
@[go_sem] theorem evAsg_vref (y:V):evAsg s dst x (.vref y)=some (put1 dst (.vref y)):=by cases x<;>rfl
@[go_sem] theorem evLoad_vref (y:V):fh s dst none (.vref y)=if y.plainV then some (put1 dst y) else none:=rfl
@[go_sem] theorem evAsg_clo (f:FuncId) (a b:List V):evAsg s dst x (.clo f a b)=some (put1 dst (.clo f a b)):=by cases x<;>rfl
@[go_sem] theorem evAsg_own (nw:Bool) (k z:Nat) (es:List D):evAsg s dst (.t k) (.own nw z es)=some (put1 dst (.own true z es)++[(.slot k,.junk)]):=rfl
def borQ (dst:Option Nat) (l:Loc) (off n:Nat):Option V→Option (List (Loc×V))
 |some (.own false z es)=>if off=0∧n=es.length then
  (if dst.map Loc.slot=some l then some [(l,.own true z es)] else some (put1 dst (.own true z es)++[(l,.junk)])) else none
 |_=>none
@[go_sem] theorem evAsg_bor (l:Loc) (off n:Nat):evAsg s dst x (.bor l off n)=borQ dst l off n (s l):=by
 cases x<;>(simp only[evAsg];unfold borQ;rfl)
@[go_sem] theorem borQ_own (l:Loc) (z:Nat) (es:List D):borQ dst l 0 es.length (some (.own false z es))=if dst.map Loc.slot=some l then some [(l,.own true z es)] else some (put1 dst (.own true z es)++[(l,.junk)]):=by
 unfold borQ;simp
@[go_sem] theorem evLoad_iptr (z:Option Nat) (e:D) (off:Nat):fh s dst z (.iptr e off)=(ldD z e off).map fun x=>put1 dst (.d x):=rfl
@[go_sem] theorem evLoad_ptr (z:Option Nat) (e:D):fh s dst z (.d (.ptr e))=(ldD z e 0).map fun x=>put1 dst (.d x):=rfl
def brefQ (dst:Option Nat) (z:Option Nat) (i off:Nat):Option V→Option (List (Loc×V))
 |some (.own false _ es)=>(es[i]?).bind fun e=>(ldD z e off).map fun x=>put1 dst (.d x)
 |_=>none
@[go_sem] theorem evLoad_bref (z:Option Nat) (l:Loc) (i off:Nat):fh s dst z (.bref l i off)=brefQ dst z i off (s l):=by unfold brefQ;simp only[fh];rfl
@[go_sem] theorem brefQ_own (z:Option Nat) (i off z':Nat) (es:List D):brefQ dst z i off (some (.own false z' es))=(es[i]?).bind fun e=>(ldD z e off).map fun x=>put1 dst (.d x):=rfl
def refQ (dst:Option Nat) (d k off:Nat):Option V→Option (List (Loc×V))
 |some (.own false _ es)=>some (put1 dst (.bor (.cell ⟨d,k,off⟩) 0 es.length))
 |some v=>if v.plainV then some (put1 dst v) else none
 |none=>none
@[go_sem] theorem evLoad_ref (d k off:Nat):fh s dst none (.ref d k off)=refQ dst d k off (s (.cell ⟨d,k,off⟩)):=by unfold refQ;simp only[fh];rfl
@[go_sem] theorem refQ_own (d k off z:Nat) (es:List D):refQ dst d k off (some (.own false z es))=some (put1 dst (.bor (.cell ⟨d,k,off⟩) 0 es.length)):=rfl
@[go_sem] theorem refQ_d (d k off:Nat) (y:D):refQ dst d k off (some (.d y))=some (put1 dst (.d y)):=rfl
@[go_sem] theorem refQ_ref (d k off a b c:Nat):refQ dst d k off (some (.ref a b c))=some (put1 dst (.ref a b c)):=rfl
@[go_sem] theorem refQ_iptr (d k off:Nat) (e:D) (o:Nat):refQ dst d k off (some (.iptr e o))=some (put1 dst (.iptr e o)):=rfl
@[go_sem] theorem evLoad_refN (d k off n:Nat):fh s dst (some n) (.ref d k off)=(dt s d k off n).map fun(cs,u)=>u++put1 dst (.d (.agg cs)):=rfl
@[go_sem] theorem ldD_none (e:D) (off:Nat):ldD none e off=e.cells[off]? :=rfl
@[go_sem] theorem ldD_some (z:Nat) (e:D) (off:Nat):ldD (some z) e off=if off+z≤e.cells.length then some (.agg ((e.cells.drop off).take z)) else none:=rfl
end
@[go_sem] theorem dat_def (x:IOpd):dat cfg s x=(val cfg s x).bind V.asD:=rfl
@[go_sem] theorem asD_d (x:D):V.asD (.d x)=some x.canon:=rfl
@[go_sem] theorem asD_iptr (e:D):V.asD (.iptr e 0)=some (.ptr e):=rfl
@[go_sem] theorem cont_nilS:cont s (.d .nilS)=some []:=rfl
@[go_sem] theorem cont_sl (es:List D):cont s (.d (.sl es))=some es:=rfl
@[go_sem] theorem cont_own (nw:Bool) (z:Nat) (es:List D):cont s (.own nw z es)=some es:=rfl
def contQ (off n:Nat):Option V→Option (List D)
 |some (.own false _ es)=>some ((es.drop off).take n)
 |_=>none
@[go_sem] theorem cont_bor (l:Loc) (off n:Nat):cont s (.bor l off n)=contQ off n (s l):=by unfold contQ;simp only[cont];rfl
@[go_sem] theorem contQ_own (off n z:Nat) (es:List D):contQ off n (some (.own false z es))=some ((es.drop off).take n):=rfl
@[go_sem] theorem argsD_nil:argsD s []=some ([],false):=rfl
@[go_sem] theorem argsD_cons (v:V) (r:List V):argsD s (v::r)=(argD s v).bind fun(x,a)=>(argsD s r).bind fun(xs,b)=>some (x::xs,a||b):=by
 rw[argsD];cases argD s v<;>cases argsD s r<;>rfl
@[go_sem] theorem argD_d (x:D):argD s (.d x)=some (x.canon,false):=rfl
@[go_sem] theorem argD_iptr (e:D):argD s (.iptr e 0)=some (.ptr e,false):=rfl
@[go_sem] theorem argD_own (nw:Bool) (z:Nat) (es:List D):argD s (.own nw z es)=some (.sl es,true):=rfl
def argQ (off n:Nat):Option V→Option (D×Bool)
 |some (.own false _ es)=>some (.sl ((es.drop off).take n),true)
 |_=>none
@[go_sem] theorem argD_bor (l:Loc) (off n:Nat):argD s (.bor l off n)=argQ off n (s l):=by unfold argQ;simp only[argD];rfl
@[go_sem] theorem argQ_own (off n z:Nat) (es:List D):argQ off n (some (.own false z es))=some (.sl ((es.drop off).take n),true):=rfl
def callQ (dst:Option Nat) (own shared:Bool):Ans→Option (List (Loc×V))
 | some (r,_)=>match landed dst own shared r with
  |some u=>some u
  |none=>landC dst shared r
 |none=>none
@[go_sem] theorem a1b (orc:Orc) (dst:Option Nat) (own:Bool) (f:FuncId) (vs:List V):callU orc s dst own f vs=(argsD s vs).bind fun(ds,shared)=>callQ dst own shared (orc f 0 (ds.map .d) []):=by
 unfold callU callQ;cases argsD s vs with
 |none=>rfl
 | some p=>
  obtain⟨ds,sh⟩:=p;simp only[Option.bind_some];cases orc f 0 (ds.map .d) [] with
  |none=>rfl
  |some q=>obtain⟨r,m⟩:=q;simp only;cases landed dst own sh r<;>rfl
@[go_sem] theorem callQ_d (dst:Option Nat) (own shared:Bool) (r:D) (m:List (Cel×V)):callQ dst own shared (some (.d r,m))=landed dst own shared (.d r):=by
 simp only[callQ,landC];split<;>simp_all
@[go_sem] theorem a1h (dst:Option Nat) (own shared nw:Bool) (z:Nat) (es:List D) (m:List (Cel×V)):callQ dst own shared (some (.own nw z es,m))=landed dst own shared (.own nw z es):=by
 simp only[callQ,landC];split<;>simp_all
@[go_sem] theorem a1i (dst:Option Nat) (own shared:Bool) (f:FuncId) (b:List V) (m:List (Cel×V)):callQ dst own shared (some (.clo f [] b,m))=if shared||(allD b).isNone then none else some (put1 dst (.clo f [] b)):=rfl
def callX (cfg:Cfg) (orc:Orc) (s:Get) (dst:Option Nat) (own:Bool) (f:FuncId) (args:List IOpd) (shared:Bool) (a:Ans):Option (List (Loc×V)):=
 match callQ dst own shared a with
 |some u=>some u
 |none=>if shared&&a.isSome then callT cfg orc s dst own f args else none
@[go_sem] theorem callW_def (cfg:Cfg) (orc:Orc) (dst:Option Nat) (own:Bool) (f:FuncId) (args:List IOpd) (vs:List V):callW cfg orc s dst own f args vs=(argsD s vs).bind fun(ds,shared)=>callX cfg orc s dst own f args shared (orc f 0 (ds.map .d) []):=by
 unfold callW callX;rw[a1b];unfold callR;cases argsD s vs with
 |none=>rfl
 | some p=>
  obtain⟨ds,sh⟩:=p;simp only[Option.bind_some];cases sh
  · cases callQ dst own false (orc f 0 (ds.map .d) [])<;>rfl
  · dsimp only
    generalize orc f 0 (ds.map .d) []=A;cases callQ dst own true A<;>cases A<;>rfl
theorem a1f (cfg:Cfg) (orc:Orc) (dst:Option Nat) (own:Bool) (f:FuncId) (args:List IOpd):callT cfg orc s dst own f args=(vals cfg (updG s (giveUp s args)) args).bind fun vs=>(callU orc (updG s (giveUp s args)) dst own f vs).map (giveUp s args++ ·):=rfl
attribute [go_sem] a1f
@[go_sem] theorem callX_d (cfg:Cfg) (orc:Orc) (dst:Option Nat) (own shared:Bool) (f:FuncId) (args:List IOpd) (r:D) (m:List (Cel×V)):callX cfg orc s dst own f args shared (some (.d r,m))=if shared&& !r.plain then callT cfg orc s dst own f args else some (put1 dst (.d (if own then r else r.canon))):=by
 unfold callX;rw[callQ_d];simp only[landed,Option.isSome_some,Bool.and_true];cases h:(shared&& !r.plain)
 · simp
 · simp only[if_true]
   have:shared=true:=by cases shared<;>simp_all
   simp[this]
@[go_sem] theorem callX_own (cfg:Cfg) (orc:Orc) (dst:Option Nat) (own shared:Bool) (f:FuncId) (args:List IOpd) (nw:Bool) (z:Nat) (es:List D) (m:List (Cel×V)):callX cfg orc s dst own f args shared (some (.own nw z es,m))=if shared&& !D.plains es then callT cfg orc s dst own f args else some (put1 dst (if own then .own true z es else .d (.sl es))):=by
 unfold callX;rw[a1h];simp only[landed,Option.isSome_some,Bool.and_true];cases h:(shared&& !D.plains es)
 · simp
 · simp only[if_true]
   have:shared=true:=by cases shared<;>simp_all
   simp[this]
@[go_sem] theorem callX_clo (cfg:Cfg) (orc:Orc) (dst:Option Nat) (own shared:Bool) (f f':FuncId) (args:List IOpd) (b:List V) (m:List (Cel×V)):callX cfg orc s dst own f args shared (some (.clo f' [] b,m))=if shared then callT cfg orc s dst own f args else if(allD b).isNone then none else some (put1 dst (.clo f' [] b)):=by
 unfold callX;rw[a1i];cases shared
 · simp only[Bool.false_or,Bool.false_and,yz,if_false]
   cases allD b<;>simp
 · simp
@[go_sem] theorem allD_nil:allD []=some []:=rfl
@[go_sem] theorem allD_cons (x:D) (r:List V):allD (.d x::r)=(allD r).map (x:: ·):=rfl
@[go_sem] theorem landed_d (dst:Option Nat) (own shared:Bool) (r:D):landed dst own shared (.d r)=if shared&& !r.plain then none else some (put1 dst (.d (if own then r else r.canon))):=rfl
@[go_sem] theorem landed_own (dst:Option Nat) (own shared nw:Bool) (z:Nat) (es:List D):landed dst own shared (.own nw z es)=if shared&& !D.plains es then none else some (put1 dst (if own then .own true z es else .d (.sl es))):=rfl
attribute [go_sem] D.plain D.plains
@[go_sem] theorem finR_n (res:List IRes) (t:St):finR dep res .normal t=(resAll dep t.get res).bind fun v=>leaveR dep v t.mem:=rfl
@[go_sem] theorem finR_r (res:List IRes) (t:St):finR dep res .ret t=(resAll dep t.get res).bind fun v=>leaveR dep v t.mem:=rfl
@[go_sem] theorem finR_x (res:List IRes) (id:Nat) (t:St):finR dep res (.exit id) t=none:=rfl
@[go_sem] theorem resAll_one (r:IRes):resAll dep s [r]=resV dep s r:=rfl
@[go_sem] theorem resAll_two (p q:IRes) (r:List IRes):resAll dep s (p::q::r)=(resD dep s (p::q::r)).map fun ds=> .d (.tup ds):=rfl
@[go_sem] theorem resAll_nil:resAll dep s []=some (.d (.tup [])):=rfl
@[go_sem] theorem resD_nil:resD dep s []=some []:=rfl
@[go_sem] theorem resD_cons (r:IRes) (rs:List IRes):resD dep s (r::rs)=((resV dep s r).bind resCell).bind fun d=>(resD dep s rs).bind fun ds=>some (d::ds):=by
 rw[resD];cases(resV dep s r).bind resCell<;>cases resD dep s rs<;>rfl
def resQ:Option V→Option V
 |some (.own _ z es)=>some (.own false z es)
 |some v=>if v.plainV then some v else none
 |none=>none
@[go_sem] theorem resV_t (k:Nat):resV dep s (.t k)=resQ (s (.slot k)):=by
 simp only[resV];unfold resQ;rfl
@[go_sem] theorem resQ_d (x:D):resQ (some (.d x))=some (.d x):=rfl
@[go_sem] theorem resQ_own (nw:Bool) (z:Nat) (es:List D):resQ (some (.own nw z es))=some (.own false z es):=rfl
@[go_sem] theorem resQ_iptr (e:D) (o:Nat):resQ (some (.iptr e o))=some (.iptr e o):=rfl
@[go_sem] theorem resCell_d (x:D):resCell (.d x)=some x.canon:=rfl
@[go_sem] theorem resCell_own (nw:Bool) (z:Nat) (es:List D):resCell (.own nw z es)=some (.sl es):=rfl
@[go_sem] theorem resCell_iptr (e:D):resCell (.iptr e 0)=some (.ptr e):=rfl
@[go_sem] theorem leaveR_def (v:V) (m:List (Cel×V)):leaveR dep v m=if v.upTo dep then some (v,leaveM dep m) else none:=rfl
@[go_sem] theorem upTo_own (n:Nat) (nw:Bool) (z:Nat) (es:List D):V.upTo n (.own nw z es)=true:=rfl
attribute [go_sem] leaveM entry
@[go_sem] theorem bin_ii (op:BinOp) (k k':IntKind) (a b:Int):D.bin op (.int k a) (.int k' b)=bk op k a k' b:=rfl
@[go_sem] theorem bin_ss (op:BinOp) (a b:List UInt8):D.bin op (.str a) (.str b)=gw op a b:=rfl
section
variable (k:IntKind) (a b:Int)
@[go_sem] theorem ib_add:bk .add k a k b=some (.int k (k.wrap (a+b))):=by simp[bk]
@[go_sem] theorem ib_sub:bk .sub k a k b=some (.int k (k.wrap (a-b))):=by simp[bk]
@[go_sem] theorem ib_mul:bk .mul k a k b=some (.int k (k.wrap (a*b))):=by simp[bk]
@[go_sem] theorem ib_eql:bk .eql k a k b=some (.bool (a==b)):=by simp[bk]
@[go_sem] theorem ib_neq:bk .neq k a k b=some (.bool (a !=b)):=by simp[bk]
@[go_sem] theorem ib_lss:bk .lss k a k b=some (.bool (decide (a<b))):=by simp[bk]
@[go_sem] theorem ib_leq:bk .leq k a k b=some (.bool (decide (a≤b))):=by simp[bk]
@[go_sem] theorem ib_gtr:bk .gtr k a k b=some (.bool (decide (a>b))):=by simp[bk]
@[go_sem] theorem ib_geq:bk .geq k a k b=some (.bool (decide (a≥b))):=by simp[bk]
end
def andI (k:IntKind) (a b:Int):Int:=k.wrap (BitVec.ofInt k.bits a &&& BitVec.ofInt k.bits b).toNat
def orI (k:IntKind) (a b:Int):Int:=k.wrap (BitVec.ofInt k.bits a ||| BitVec.ofInt k.bits b).toNat
def shlI (k:IntKind) (a b:Int):Int:=k.wrap (a*2 ^ (min b.toNat k.bits))
def shrI (k:IntKind) (a b:Int):Int:=a.fdiv (2 ^ (min b.toNat k.bits))
theorem pi (k k':IntKind) (a:Int) {b:Int} (h:0≤b):bk .shl k a k' b=some (.int k (shlI k a b)):=by simp[bk,shlI];omega
theorem gm (k k':IntKind) (a:Int) {b:Int} (h:0≤b):bk .shr k a k' b=some (.int k (shrI k a b)):=by simp[bk,shrI];omega
@[go_sem] theorem ib_and (k:IntKind) (a b:Int):bk .and k a k b=some (.int k (andI k a b)):=by simp[bk,andI]
@[go_sem] theorem ib_or (k:IntKind) (a b:Int):bk .or k a k b=some (.int k (orI k a b)):=by simp[bk,orI]
@[go_sem] theorem un_not (b:Bool):D.un .not (.bool b)=some (.bool !b):=rfl
@[go_sem] theorem un_neg (k:IntKind) (n:Int):D.un .neg (.int k n)=some (.int k (k.wrap (0-n))):=rfl
section
variable (a b:List UInt8)
@[go_sem] theorem sb_eql:gw .eql a b=some (.bool (a==b)):=rfl
@[go_sem] theorem sb_neq:gw .neq a b=some (.bool !(a==b)):=rfl
@[go_sem] theorem sb_lss:gw .lss a b=some (.bool (Go.Op.bytesLess a b)):=rfl
@[go_sem] theorem sb_geq:gw .geq a b=some (.bool !(Go.Op.bytesLess a b)):=rfl
end
theorem wrap_i64 {n:Int} (h1: -9223372036854775808≤n) (h2:n<9223372036854775808):IntKind.i64.wrap n=n:=by
 simp[IntKind.wrap,IntKind.signed,IntKind.bits,BitVec.toInt_ofInt,Int.bmod_def];omega
theorem wrap_u64 {n:Int} (h1:0≤n) (h2:n<18446744073709551616):IntKind.u64.wrap n=n:=by
 simp[IntKind.wrap,IntKind.signed,IntKind.bits];omega
theorem shrI_eq (k:IntKind) (a:Int) (n:Nat) (h:n≤k.bits):shrI k a n=a / 2 ^ n:=by
 unfold shrI;rw[aak,Nat.min_eq_left h,Int.fdiv_eq_ediv_of_nonneg _ (Int.le_of_lt (Int.pow_pos ym))]
theorem p8 (dst:Option Nat) (z:Nat) (x:IOpd) (es:List D) {n:Int} (h:0≤n):evIdx s dst z x (.d (.sl es)) n=(es[n.toNat]?).bind fun e=>if e.cells.length=z then some (put1 dst (.iptr e 0)) else none:=by
 unfold evIdx;rw[if_neg yj]
@[go_sem] theorem evIdx_slN (dst:Option Nat) (z:Nat) (x:IOpd) (es:List D) (i:Nat):evIdx s dst z x (.d (.sl es)) (i:Int)=(es[i]?).bind fun e=>if e.cells.length=z then some (put1 dst (.iptr e 0)) else none:=by
 rw[p8 _ _ _ _ yj];simp
attribute [go_sem] yw List.map_cons List.map_nil List.length_cons List.length_nil y9 List.getElem?_cons_zero List.getElem?_cons_succ
end Go.Ev
namespace Go.Ev
open Go Go.RowKit
abbrev anyB:Nat→Prop:=fun _=>True
def Rds (w:World) (cs:List Value) (xs:List D):Prop:=
 cs.length=xs.length∧(∀ c∈xs,c.isCell=true)∧∀ (i:Nat) v c,cs[i]? =some v→xs[i]? =some c→Rd anyB w v c
def IsF (P:Program) (w:World) (n:Nat) (t:TypeId) (G:List D→Prop):Prop:=
 ∀ (H:Type) (enc:TypeId×Value→H) (base:Nat) (spare:Nat→Bool) (held:Bool) (cs:List Value) (x:DataW H×List MemPlace),DataW.trod enc P w base spare held n t cs=some x→∃ xs,Rds w cs xs∧G xs
variable {P:Program} {w:World} {n:Nat} {t:TypeId}
theorem Rds.one {v:Value} {d:D} (h:Rd anyB w v d) (hc:d.isCell=true):Rds w [v] [d]:=
 ⟨rfl,by simpa using hc,fun i v' c h1 h2=>by
  cases i with
  |zero=>simp at h1 h2;subst h1;subst h2;exact h
  |succ i=>simp at h1⟩
theorem IsF.bool (ht:P.underlying t=some .bool):IsF P w n t fun xs=>∃ b,xs=[.bool b]:=by
 intro H enc base spare held cs x h;obtain⟨b,rfl,_⟩:=DataW.trod_bool ht h;exact⟨_,Rds.one (.bool b) rfl,b,rfl⟩
theorem IsF.int {k:IntKind} (ht:P.underlying t=some (.int k)):IsF P w n t fun xs=>∃ m,xs=[.int k m]∧(Lit.int k m).wf=true:=by
 intro H enc base spare held cs x h;obtain⟨m,rfl,_,hw⟩:=DataW.trod_int ht h;exact⟨_,Rds.one (.int k m) rfl,m,rfl,hw⟩
theorem IsF.str (ht:P.underlying t=some .string):IsF P w n t fun xs=>∃ s:List UInt8,xs=[.str s]∧s.length≤maxLen:=by
 intro H enc base spare held cs x h;obtain⟨s,rfl,_,hw⟩:=DataW.trod_string ht h;have e:(⟨s.data.toList.toArray⟩:ByteArray)=s:=by cases s;rfl
 have hl:s.data.toList.length=s.size:=by rw[ByteArray.size,Array.length_toList]
 refine⟨[.str s.data.toList],Rds.one ?_ rfl,_,rfl,by rw[hl];exact hw⟩
 have:=Rd.str (F:=anyB) (w:=w) s.data.toList
 rwa [e] at this
theorem azw {α β:Type} {f:α→Option β}:∀ {l:List α} {r:List β},l.mapM f=some r→l.length=r.length∧∀ (i:Nat) x y,l[i]? =some x→r[i]? =some y→f x=some y
 | [],r,h=>by cases h;simp
 | a::l,r,h=>by
  rw[List.mapM_cons] at h;cases hf:f a with
  |none=>rw[hf] at h;cases h
  | some b=>
   cases hl:l.mapM f with
   |none=>rw[hf,hl] at h;cases h
   | some bs=>
    rw[hf,hl] at h;cases h;obtain⟨g1,g2⟩:=azw hl;refine⟨by simp[g1],fun i x y h1 h2=> ?_⟩
    cases i with
    |zero=>simp at h1 h2;subst h1;subst h2;exact hf
    |succ i=>exact g2 i x y (by simpa using h1) (by simpa using h2)
theorem cells_at {base:Nat} {a:Addr} {m:Nat} {cs:List Value} (h:w.cells? base a m=some cs):cs.length=m∧∀ (j:Nat) v,cs[j]? =some v→w.cell? (a.add j)=some v:=by
 unfold World.cells? at h;split at h
 · obtain⟨g1,g2⟩:=azw h
   refine⟨by simpa using g1.symm,fun j v hj=> ?_⟩
   have hlt:j<(List.range m).length:=by rw[g1];exact(yo.1 hj).1
   exact g2 j j v (by rw[yp hlt];simp) hj
 · cases h
theorem IsF.slice {e:TypeId} {G:List D→Prop} (ht:P.underlying t=some (.slice e)) (hz:P.cellsOf e≠0) (he:∀ m,m<n→IsF P w m e G) (mk:List D→D) (hmk:∀ xs,G xs→xs.length=P.cellsOf e→(mk xs).cells=xs):
   IsF P w n t fun xs=>∃ es:List D,xs=[.sl es]∧es.length≤maxLen∧∀ d∈es,∃ ys,G ys∧ys.length=P.cellsOf e∧d=mk ys:=by
 intro H enc base spare held cs x h;rcases DataW.trod_slice ht h with⟨rfl,_⟩|⟨a,len,cap,elems,rest,m,rfl,rfl,_,_,hl,hm,hlen,hel,_,_⟩
 · exact⟨_,Rds.one (.slA _ _) rfl,[],rfl,by simp,by simp⟩
 · have key:∀ i,i<len→∃ cs',∃ xs:List D,(cs'.length=P.cellsOf e∧∀ (j:Nat) v,cs'[j]? =some v→w.cell? ((a.add (i*P.cellsOf e)).add j)=some v)∧Rds w cs' xs∧G xs:=fun i hi=>by
     have h1:=hel i hi;rw[yp yj,yr] at h1;obtain⟨cs',h2,h3⟩:=h1;obtain⟨xs,h4,h5⟩:=he m (Nat.lt_succ_self m) H enc base spare held cs' _ h3;exact⟨cs',xs,cells_at h2,h4,h5⟩
   by_cases h0:len=0
   · subst h0
     exact⟨_,Rds.one (.slA _ cap) rfl,[],rfl,by simp,by simp⟩
   · obtain⟨b,o,rfl⟩:∃ b o,a=ad3 b o:=by
       obtain⟨cs',xs,⟨h1,h2⟩,h3,h4⟩:=key 0 yj;have hlt:0<cs'.length:=yj;have:=h2 0 _ (yp hlt);rw[Nat.zero_mul] at this;have:=World.cell?_spot this;obtain⟨b,o,sp⟩:=a;cases sp with
       |none=>exact⟨b,o,rfl⟩
       |some s=>simp[Addr.add] at this
     have hch:∀ i,∃ xs:List D,i<len→G xs∧xs.length=P.cellsOf e∧(∀ c∈xs,c.isCell=true)∧∀ (j:Nat) c,xs[j]? =some c→∃ v,w.cell? (ad3 b (o+i*P.cellsOf e+j))=some v∧Rd anyB w v c:=fun i=>by
       by_cases hi:i<len
       · obtain⟨cs',xs,⟨h1,h2⟩,⟨h3,h4,h5⟩,h6⟩:=key i hi
         refine⟨xs,fun _=>⟨h6,by omega,h4,fun j c hj=> ?_⟩⟩
         have hlt:j<cs'.length:=by rw[h3];exact(yo.1 hj).1
         refine⟨cs'[j],?_,h5 j _ c (yp hlt) hj⟩;have:=h2 j _ (yp hlt);rw[df,df] at this;exact this
       · exact⟨[],fun h=>absurd h hi⟩
     let es:List D:=(List.range len).map fun i=>mk (hch i).choose
     have hes:∀ (i:Nat) d,es[i]? =some d→i<len∧d=mk (hch i).choose:=fun i d hd=>by
       simp only[es,yw,yn] at hd;obtain⟨j,h1,h2⟩:=hd;have hlt:=(yo.1 h1).1;rw[yp hlt] at h1;simp at h1 hlt;subst h1;exact⟨hlt,h2.symm⟩
     have hcell:∀ i,i<len→(mk (hch i).choose).cells=(hch i).choose:=fun i hi=>hmk _ ((hch i).choose_spec hi).1 ((hch i).choose_spec hi).2.1
     refine⟨[.sl es],Rds.one ?_ rfl,es,rfl,by simp[es];omega,fun d hd=> ?_⟩
     · have:=Rd.sl_of (F:=anyB) (w:=w) (b:=b) (o:=o) (cap:=cap) (z:=P.cellsOf e) (es:=es) (by simp[es];omega) (fun d hd=> ?_) (fun i d hi=> ?_)
       · simpa[es] using this
       · obtain⟨i,hi⟩:=zj hd
         obtain⟨h1,rfl⟩:=hes i d hi;rw[hcell i h1];exact((hch i).choose_spec h1).2.1
       · obtain⟨h1,rfl⟩:=hes i d hi
         have hs:=(hch i).choose_spec h1;refine⟨by rw[hcell i h1];exact hs.2.2.1,fun j c hj=> ?_⟩
         rw[hcell i h1] at hj;obtain⟨v,q1,q2⟩:=hs.2.2.2 j c hj;exact⟨v,trivial,q1,q2⟩
     · obtain⟨i,hi⟩:=zj hd
       obtain⟨h1,rfl⟩:=hes i d hi;exact⟨_,((hch i).choose_spec h1).1,((hch i).choose_spec h1).2.1,rfl⟩
end Go.Ev
namespace Go.Ev
open Go Go.RowKit
variable {P:Program} {cfg:Cfg}
def Cx.none:Cx:=⟨fun _=>Option.none,fun _ _=>0,0⟩
theorem aic {ds:List D} {args:Array Value} {w:World} (hsz:args.size=ds.length) (hrd:∀ (i:Nat) v d,args[i]? =some v→ds[i]? =some d→Rd anyB w v d)
   (hg:∀ n e,cfg.glob n=some e→PtrAt anyB w n 0 e) (hgo:∀ n ob,cfg.gobj n=some ob→HoldsG w n ob):Enters cfg Cx.none (ds.map .d) [] args w:=by
 have hF:freeB Cx.none=anyB:=by funext b;simp[freeB,Cx.none]
 refine⟨⟨rfl,.nil rfl,fun b h=>absurd rfl h,fun l v h=> ?_,fun k v h=>(by cases h),fun c v h=>(by cases h),fun n e h=>by rw[hF];exact hg n e h,fun b h=> ?_,fun n ob h=>⟨rfl,hgo n ob h⟩⟩,by simpa using hsz,fun i v y h1 h2=> ?_⟩
 · cases l<;>cases h
 · rcases h with h|⟨_,h⟩<;>cases h
 · rw[yw] at h2
   cases hd:ds[i]? with
   |none=>rw[hd] at h2;cases h2
   |some d=>rw[hd] at h2;cases h2;exact RdV.d _ _ _ (by rw[hF];exact hrd i v d h1 hd)
theorem aen (hm:P.follows .mixedOrders=true) (hC:CfgOk P cfg) (hF:si P cfg) (hX:ExtOk P cfg) {f:FuncId} {F:Func} {c:Code} (hf:P.funcs[f]? =some F) (hname:(F.name=="runtime.NumGoroutine")=false) (hb:F.body=some c)
   {ds:List D} {y:D} (h:evL cfg f 0 (ds.map .d) []=some (.d y,[])) {args:Array Value} {w:World} (hsz:args.size=ds.length) (hrd:∀ (i:Nat) v d,args[i]? =some v→ds[i]? =some d→Rd anyB w v d)
   (hg:∀ n e,cfg.glob n=some e→PtrAt anyB w n 0 e) (hgo:∀ n ob,cfg.gobj n=some ob→HoldsG w n ob):Calls P f args w fun e w'=>∃ v,e= .returned v∧Rd anyB w' v y∧Below w.heap.size w w':=by
 have hd:=evL_ok hm hC hF hX f 0 _ [] _ _ h Cx.none w args (aic hsz hrd hg hgo);rcases hd with⟨v,w',h1,_⟩|⟨_,h2⟩
 · rw[run_enter hf hname hb] at h1
   cases h1
 · refine h2.mono fun e w' he=> ?_
   cases e with
   | returned v=>
    obtain⟨x',L⟩:=he;have hr:Rd (freeB x') w' v y:=RdV.d_inv L.res;exact⟨v,rfl,hr.mono fun b o u _ h=>⟨trivial,h⟩,L.fr.io.1,L.fr.io.2.1,L.fr.io.2.2,L.fr.size,fun k hk=>(L.fr.same k hk (.inl rfl)).1⟩
   |panicked c=>exact he.elim
   |outgrown=>exact he.elim
theorem ar4 (hm:P.follows .mixedOrders=true) (hC:CfgOk P cfg) (hF:si P cfg) (hX:ExtOk P cfg) {f:FuncId} {F:Func} {c:Code} (hf:P.funcs[f]? =some F) (hname:(F.name=="runtime.NumGoroutine")=false) (hb:F.body=some c)
  {ds:List D} (h:evL cfg f 0 (ds.map .d) []=some (.d (.bool true),[])) {args:Array Value} {w:World} (hsz:args.size=ds.length) (hrd:∀ (i:Nat) v d,args[i]? =some v→ds[i]? =some d→Rd anyB w v d)
  (hg:∀ n e,cfg.glob n=some e→PtrAt anyB w n 0 e) (hgo:∀ n ob,cfg.gobj n=some ob→HoldsG w n ob):Calls P f args w fun e w'=>e= .returned (.bool true)∧Below w.heap.size w w':=
 (aen hm hC hF hX hf hname hb h hsz hrd hg hgo).mono fun e w' ⟨v,h1,h2,h3⟩=>⟨by rw[h1,h2.bool_inv],h3⟩
theorem ap {n:Nat} {f:FuncId} {d:Nat} {vs:List V} {m:List (Cel×V)} {r} (h:evFn cfg n f d vs m=some r):evL cfg f d vs m=some r:=jl.2 ⟨n,h⟩
def Entry (P:Program) (p:FuncId×IFunc):Prop:=∃ F ad c,P.funcs[p.1]? =some F∧(F.name=="runtime.NumGoroutine")=false∧F.body=some c∧cFunc P ad F=some p.2
def Entries (P:Program) (l:List (FuncId×IFunc)):Prop:=∀ p∈l,Entry P p
theorem Entries.nil:Entries P []:=fun _ h=>by cases h
theorem Entries.cons {p:FuncId×IFunc} {l:List (FuncId×IFunc)} (h:Entry P p) (hl:Entries P l):Entries P (p::l):=fun q hq=>by
 rcases zb.1 hq with rfl|hq
 · exact h
 · exact hl q hq
theorem Entry.mk' {F:Func} {f:FuncId} {fn:IFunc} {ad:Advice} {c:Code} (hf:P.funcs[f]? =some F) (hb:F.body=some c) (hn:(F.name=="runtime.NumGoroutine")=false) (hk:cFunc P ad F=some fn):Entry P (f,fn):=⟨F,ad,c,hf,hn,hb,hk⟩
theorem ar6 {F:Func} {fn:IFunc} {ad:Advice} (hk:cFunc P ad F=some fn):∃ c,F.body=some c:=by
 unfold cFunc at hk;split at hk
 · exact⟨_,‹_›⟩
 · cases hk
theorem Entry.of {F:Func} {f:FuncId} {fn:IFunc} {ad:Advice} (hf:P.funcs[f]? =some F) (hn:(F.name=="runtime.NumGoroutine")=false) (hk:cFunc P ad F=some fn):Entry P (f,fn):=by
 obtain⟨c,hb⟩:=ar6 hk;exact .mk' hf hb hn hk
end Go.Ev
namespace Go.Ev
open Go
def decF:Nat→Nat→List UInt8
 |0,_=>[]
 |n+1,u=>if u<10 then[UInt8.ofNat (48+u)] else decF n (u / 10)++[UInt8.ofNat (48+u % 10)]
def itoaF (n:Int):List UInt8:=if n<0 then 45::decF 20 n.natAbs else decF 20 n.toNat
def xItoa:List D→Option V
 | [.int .i64 n]=>if -9223372036854775808≤n∧n≤9223372036854775807 then some (.d (.str (itoaF n))) else none
 |_=>none
def Gives (P:Program) (cfg:Cfg) (f:FuncId) (g:List D→Option V):Prop:=
 ∀ ds r,g ds=some r→∀ (F:Nat→Prop) (args:Array Value) (w:World),args.size=ds.length→(∀ (i:Nat) v d,args[i]? =some v→ds[i]? =some d→Rd F w v d)→(∀ n e,cfg.glob n=some e→PtrAt F w n 0 e)→(∀ n ob,cfg.gobj n=some ob→HoldsG w n ob)→
  Does P f args w fun v w'=>w.heap.size≤w'.heap.size∧(∀ b,b<w.heap.size→w'.heap[b]? =w.heap[b]?)∧SameIO w w'∧
   match r with
   | .own _ z es=>∃ b o cap,v= .slice (some (ad3 b o)) es.length cap∧w.heap.size≤b∧b<w'.heap.size∧es.length≤cap∧NoFz w' b∧Arr (fun b'=>(F b'∧b'<w.heap.size)∨(w.heap.size≤b'∧b'≠b)) w' b o cap z es
   | .d y=>Rd (fun b'=>F b'∨w.heap.size≤b') w' v y
   | .clo g [] ys=>∃ (vb:List Value) (es:List D),ys=es.map .d∧v= .func (.func g) #[] vb.toArray∧vb.length=es.length∧∀ (i:Nat) u e,vb[i]? =some u→es[i]? =some e→Rd (fun b'=>F b'∨w.heap.size≤b') w' u e
   |_=>False
theorem extOk_of {P:Program} {cfg:Cfg} (h:∀ f g,cfg.ext f=some g→Gives P cfg f g):ExtOk P cfg:=fun f g hf ds r hr F args w h1 h2 h3 h4=>h f g hf ds r hr F args w h1 h2 h3 h4
open Go.RowKit in
theorem gives_of_calls {P:Program} {cfg:Cfg} {f:FuncId} {fn:Func} {c:Code} (hf:P.funcs[f]? =some fn) (hname:(fn.name=="runtime.NumGoroutine")=false) (hb:fn.body=some c) {g:List D→Option V}
  (h:∀ ds r,g ds=some r→∃ y,r= .d y∧y.plain=true∧∀ (F:Nat→Prop) (args:Array Value) (w:World),args.size=ds.length→(∀ (i:Nat) v d,args[i]? =some v→ds[i]? =some d→Rd F w v d)→(∀ n ob,cfg.gobj n=some ob→HoldsG w n ob)→
   Calls P f args w fun e w'=>∃ v,e= .returned v∧Rd F w' v y∧Below w.heap.size w w'):Gives P cfg f g:=by
 intro ds r hr F args w h1 h2 _ h4;obtain⟨y,rfl,hy,hc⟩:=h ds r hr;refine .inr ⟨run_enter hf hname hb args w,(hc F args w h1 h2 h4).mono fun e w' ⟨v,e1,e2,e3⟩=> ?_⟩
 subst e1;exact⟨e3.size,fun b hb=>e3.block b hb,⟨e3.os,e3.tape,e3.output⟩,e2.plain hy⟩
theorem ap9 {F:Nat→Prop} {w:World} {args:Array Value} {d:D} (h1:args.size=[d].length) (h2:∀ (i:Nat) v d',args[i]? =some v→[d][i]? =some d'→Rd F w v d'):∃ v,args= #[v]∧Rd F w v d:=by
 obtain⟨l⟩:=args
 match l,h1 with
 | [v],_=>exact⟨v,rfl,h2 0 v d rfl rfl⟩
end Go.Ev
namespace Go.Ev
open Go
variable (cfg:Cfg)
@[go_sem] theorem eqn_dd (c:ECls) (a b:D):V.eqn cfg c (.d a) (.d b)=a.eqn cfg c b:=by cases c<;>rfl
@[go_sem] theorem eqn_bool (a b:Bool):D.eqn cfg .bool (.bool a) (.bool b)=some (a==b):=rfl
@[go_sem] theorem eqn_refn (d k o:Nat):V.eqn cfg .ptr (.ref d k o) (.d .nilP)=some false:=rfl
@[go_sem] theorem eqn_iptrn (e:D) (o:Nat):V.eqn cfg .ptr (.iptr e o) (.d .nilP)=some false:=rfl
@[go_sem] theorem eqn_brefn (l:Loc) (i o:Nat):V.eqn cfg .ptr (.bref l i o) (.d .nilP)=some false:=rfl
@[go_sem] theorem eqn_clon (f:FuncId) (a b:List V):V.eqn cfg .func (.clo f a b) (.d .nilF)=some false:=rfl
@[go_sem] theorem eqn_ifcn (t:TypeId) (v:V):V.eqn cfg .iface (.ifc t v) (.d .nilI)=some false:=rfl
@[go_sem] theorem deqn_pp:D.eqn cfg .ptr .nilP .nilP=some true:=rfl
@[go_sem] theorem deqn_pn (e:D):D.eqn cfg .ptr (.ptr e) .nilP=some false:=rfl
@[go_sem] theorem deqn_np (e:D):D.eqn cfg .ptr .nilP (.ptr e)=some false:=rfl
@[go_sem] theorem deqn_ff:D.eqn cfg .func .nilF .nilF=some true:=rfl
@[go_sem] theorem deqn_ln (x:D):D.eqn cfg .ifnil .nilI x=some true:=rfl
@[go_sem] theorem deqn_li (t:TypeId) (y x:D):D.eqn cfg .ifnil (.ifc t y) x=some false:=rfl
@[go_sem] theorem deqn_in (t:TypeId) (x:D):D.eqn cfg .iface (.ifc t x) .nilI=some false:=rfl
@[go_sem] theorem deqn_ni (t:TypeId) (x:D):D.eqn cfg .iface .nilI (.ifc t x)=some false:=rfl
end Go.Ev
namespace Go.Ev
open Go
variable (cfg:Cfg) (s:Get)
@[go_sem] theorem parts2_nil:parts2 cfg s []=some []:=rfl
@[go_sem] theorem parts2_cons (i:Nat) (x:IOpd) (r:List (Nat×IOpd)):parts2 cfg s ((i,x)::r)=(dat cfg s x).bind fun d=>(parts2 cfg s r).map fun ds=>(i,d)::ds:=by
 rw[parts2];cases dat cfg s x<;>cases parts2 cfg s r<;>rfl
@[go_sem] theorem parts3_nil:dy cfg s []=some []:=rfl
@[go_sem] theorem parts3_cons (o n:Nat) (x:IOpd) (r:List (Nat×Nat×IOpd)):dy cfg s ((o,n,x)::r)=(dat cfg s x).bind fun d=>(dy cfg s r).map fun ds=>(o,n,d)::ds:=by
 rw[dy];cases dat cfg s x<;>cases dy cfg s r<;>rfl
@[go_sem] theorem fillE_nil (z:Nat) (es:List D):fillE z es []=some es:=rfl
@[go_sem] theorem fillE_cons (z i:Nat) (es:List D) (x:D) (r:List (Nat×D)):fillE z es ((i,x)::r)=if x.cells.length=z∧i<es.length∧x.storable=true then fillE z (es.set i x) r else none:=rfl
@[go_sem] theorem fillD_nil (cs:List D):fillD cs []=some cs:=rfl
@[go_sem] theorem fillD_cons (off size:Nat) (cs:List D) (x:D) (r:List (Nat×Nat×D)):fillD cs ((off,size,x)::r)=if x.cells.length=size∧off+size≤cs.length∧x.storable=true then fillD (setCells cs off x.cells) r else none:=rfl
@[go_sem] theorem xr (k:IntKind) (n:Int):(D.int k n).storable=true:=rfl
@[go_sem] theorem vz (b:Bool):(D.bool b).storable=true:=rfl
@[go_sem] theorem xq (b:List UInt8):(D.str b).storable=true:=rfl
attribute [go_sem] List.length_replicate List.replicate_succ List.replicate_zero List.set_cons_zero List.set_cons_succ List.length_nil
@[go_sem] theorem bytesOf_nil:db []=some []:=rfl
@[go_sem] theorem aes (n:Int) (r:List D):db (.int .u8 n::r)=(db r).map fun b=>UInt8.ofNat n.toNat::b:=by
 rw[db];cases db r<;>rfl
def sbH (len:Nat):Option Int→Option (Nat×Nat)
 |some n=>if 0≤n∧n≤len then some (0,n.toNat) else none
 |none=>none
def sbL (len:Nat):Option Int→Option (Nat×Nat)
 |some n=>if 0≤n∧n≤len then some (n.toNat,len) else none
 |none=>none
def sbB (len:Nat):Option Int→Option Int→Option (Nat×Nat)
 |some m,some n=>if 0≤n∧n≤len∧0≤m∧m≤n then some (m.toNat,n.toNat) else none
 |_,_=>none
@[go_sem] theorem sb_none (len:Nat):bm cfg s len none none=some (0,len):=rfl
@[go_sem] theorem sb_hi (len:Nat) (x:IOpd):bm cfg s len none (some x)=sbH len ((dat cfg s x).bind D.toInt?):=by
 unfold bm sbH;simp only;cases(dat cfg s x).bind D.toInt? with
 |none=>rfl
 |some n=>simp only;by_cases h:0≤n∧n≤(len:Int)<;>simp[h]
@[go_sem] theorem sb_lo (len:Nat) (x:IOpd):bm cfg s len (some x) none=sbL len ((dat cfg s x).bind D.toInt?):=by
 unfold bm sbL;simp only;cases(dat cfg s x).bind D.toInt? <;>rfl
@[go_sem] theorem sb_both (len:Nat) (x y:IOpd):bm cfg s len (some x) (some y)=sbB len ((dat cfg s x).bind D.toInt?) ((dat cfg s y).bind D.toInt?):=by
 unfold bm sbB;simp only;cases(dat cfg s y).bind D.toInt? with
 |none=>cases(dat cfg s x).bind D.toInt? <;>rfl
 | some n=>
  simp only;cases(dat cfg s x).bind D.toInt? with
  |none=>by_cases h:0≤n∧n≤(len:Int)<;>simp[h]
  | some m=>
   simp only;by_cases h:0≤n∧n≤(len:Int)
   · by_cases k:0≤m∧m≤n
     · have e:max n 0=n:=yj
       simp[h,k,e]
     · have e:max n 0=n:=yj
       simp[h,e]
   · simp only[if_neg h]
     rw[if_neg (fun c=>h ⟨c.1,c.2.1⟩)]
@[go_sem] theorem sbH_ok {len:Nat} {n:Int} (h0:0≤n) (h1:n≤len):sbH len (some n)=some (0,n.toNat):=if_pos ⟨h0,h1⟩
@[go_sem] theorem sbL_ok {len:Nat} {n:Int} (h0:0≤n) (h1:n≤len):sbL len (some n)=some (n.toNat,len):=if_pos ⟨h0,h1⟩
@[go_sem] theorem sbB_ok {len:Nat} {m n:Int} (h0:0≤n) (h1:n≤len) (h2:0≤m) (h3:m≤n):sbB len (some m) (some n)=some (m.toNat,n.toNat):=if_pos ⟨h0,h1,h2,h3⟩
@[go_sem] theorem sB_eql (a b:List UInt8):gw .eql a b=some (.bool (a==b)):=rfl
@[go_sem] theorem sB_neq (a b:List UInt8):gw .neq a b=some (.bool !(a==b)):=rfl
@[go_sem] theorem sB_lss (a b:List UInt8):gw .lss a b=some (.bool (Go.Op.bytesLess a b)):=rfl
@[go_sem] theorem sB_leq (a b:List UInt8):gw .leq a b=some (.bool (Go.Op.bytesLess a b||a==b)):=rfl
@[go_sem] theorem sB_gtr (a b:List UInt8):gw .gtr a b=some (.bool !(Go.Op.bytesLess a b||a==b)):=rfl
@[go_sem] theorem sB_geq (a b:List UInt8):gw .geq a b=some (.bool !(Go.Op.bytesLess a b)):=rfl
theorem wrap_u8 {n:Int} (h1:0≤n) (h2:n<256):IntKind.u8.wrap n=n:=by
 simp[IntKind.wrap,IntKind.signed,IntKind.bits];omega
end Go.Ev
namespace Go.Ev
open Go
open Go.RowKit
variable {P:Program} {cfg:Cfg} {f:FuncId} {fn:Func} {c:Code} (hf:P.funcs[f]? =some fn) (hname:(fn.name=="runtime.NumGoroutine")=false) (hb:fn.body=some c)
include hf hname hb
omit hb in
theorem aq {c:Code} (hb:fn.body=some c) (h:∀ ad len cap w,len≤cap→Calls P f #[.slice ad len cap] w fun e w'=>e= .returned (.slice ad len len)∧w'=w):
  ∀ ad len cap w,len≤cap→Does P f #[.slice ad len cap] w fun v w'=>v= .slice ad len len∧w'=w:=fun ad len cap w hl=>by
 refine .inr ⟨run_enter hf hname hb _ w,(h ad len cap w hl).mono fun e w' ⟨e1,e2⟩=> ?_⟩
 subst e1;exact⟨rfl,e2⟩
end Go.Ev
namespace Go.Ev
open Go
def callGQ (dst:Option Nat) (own shared:Bool):Ans→Option (List (Loc×V))
 |some (r,_)=>landed dst own shared r
 |none=>none
@[go_sem] theorem callGQ_some (dst:Option Nat) (own shared:Bool) (r:V) (m:List (Cel×V)):callGQ dst own shared (some (r,m))=landed dst own shared r:=rfl
variable {cfg:Cfg} {orc:Orc} {dep:Nat}
@[go_sem] theorem U_callg (s:Get) (k:Nat) (own:Bool) (f:FuncId) (args:List IOpd) (i:Nat):stepU cfg orc dep s ⟨some k,none,.callg own f args i⟩=callG cfg orc s (some k) own f args i:=rfl
@[go_sem] theorem callG_def (s:Get) (dst:Option Nat) (own:Bool) (f:FuncId) (args:List IOpd) (i:Nat):callG cfg orc s dst own f args i=
 (args[i]?).bind fun x=>(val cfg s x).bind fun v=>(givenV s x v).bind fun g=>
  (vals cfg (updG s g.1) (args.set i (.c .nilS))).bind fun vs=>(argsD (updG s g.1) vs).bind fun q=>(callGQ dst own q.2 (orc f 0 ((q.1.map .d).set i g.2) [])).map fun u=>g.1++u:=by
 unfold callG;cases args[i]? with
 |none=>rfl
 | some x=>
  simp only[Option.bind_some];cases val cfg s x with
  |none=>rfl
  | some v=>
   simp only[Option.bind_some];cases givenV s x v with
   |none=>rfl
   | some g=>
    simp only[Option.bind_some];cases vals cfg (updG s g.1) (args.set i (.c .nilS)) with
    |none=>rfl
    | some vs=>
     simp only[Option.bind_some];cases argsD (updG s g.1) vs with
     |none=>rfl
     | some q=>
      simp only[Option.bind_some];cases orc f 0 ((q.1.map .d).set i g.2) [] with
      |none=>rfl
      |some r=>rfl
@[go_sem] theorem updG_get (s:St) (u:List (Loc×V)):updG s.get u=(s.upd u).get:=(fo u s).symm
@[go_sem] theorem givenV_nil (s:Get) (x:IOpd):givenV s x (.d .nilS)=some ([],.d .nilS):=by cases x<;>rfl
@[go_sem] theorem givenV_sl (s:Get) (x:IOpd) (es:List D):givenV s x (.d (.sl es))=some ([],.d (.sl es)):=by cases x<;>rfl
@[go_sem] theorem givenV_own (s:Get) (k:Nat) (nw:Bool) (z:Nat) (es:List D):givenV s (.t k) (.own nw z es)=some ([(.slot k,.junk)],.own false z es):=rfl
def ad4 (l:Loc) (off n:Nat):Option V→Option (List (Loc×V)×V)
 |some (.own false z es)=>if off=0∧n≤es.length then some ([(l,.junk)],.own false z (es.take n)) else none
 |_=>none
@[go_sem] theorem givenV_bor (s:Get) (x:IOpd) (l:Loc) (off n:Nat):givenV s x (.bor l off n)=ad4 l off n (s l):=by
 unfold ad4;cases x<;>(simp only[givenV];rfl)
@[go_sem] theorem arc (l:Loc) (z:Nat) (es:List D):ad4 l 0 es.length (some (.own false z es))=some ([(l,.junk)],.own false z es):=by simp[ad4]
@[go_sem] theorem map_some' {α β:Type} (a:α) (f:α→β):(some a).map f=some (f a):=rfl
attribute [go_sem] List.nil_append List.cons_append
end Go.Ev
namespace Go.Ev
open Go
def w7 (k:IntKind) (a b:Int):Int:=k.wrap (BitVec.ofInt k.bits a &&& ~~~ BitVec.ofInt k.bits b).toNat
@[go_sem] theorem ib_andNot (k:IntKind) (a b:Int):bk .andNot k a k b=some (.int k (w7 k a b)):=by simp[bk,w7]
theorem aip {k:IntKind} (hk:k.signed=false) {n:Int} (h0:0≤n) (h1:n<2 ^ k.bits):k.wrap n=n:=by
 simp only[IntKind.wrap,hk,Bool.false_and,yz,if_false];exact Int.emod_eq_of_lt h0 h1
theorem qb {k:IntKind} (hk:k.signed=false) (n:Nat):k.wrap (n:Int)=((n % 2 ^ k.bits:Nat):Int):=by
 simp only[IntKind.wrap,hk,Bool.false_and,yz,if_false];simp
section
variable {k:IntKind} (hk:k.signed=false) {a b:Nat} (ha:a<2 ^ k.bits) (hb:b<2 ^ k.bits)
include hk ha
theorem andU:andI k a b=((a &&& b:Nat):Int):=by
 have e:(BitVec.ofInt k.bits (a:Int) &&& BitVec.ofInt k.bits (b:Int)).toNat=a &&& (b % 2 ^ k.bits):=by
  rw[BitVec.toNat_and,BitVec.ofInt_natCast,BitVec.ofInt_natCast,BitVec.toNat_ofNat,BitVec.toNat_ofNat,aaf ha]
 have e2:a &&& (b % 2 ^ k.bits)=a &&& b:=by
  apply Nat.eq_of_testBit_eq;intro i;rw[Nat.testBit_and,Nat.testBit_and,Nat.testBit_mod_two_pow];by_cases h:i<k.bits
  · simp[h]
  · have:a.testBit i=false:=Nat.testBit_lt_two_pow (y8 ha (aaq ym yj))
    simp[this]
 unfold andI;rw[e,e2,aip hk yj];have:a &&& b≤a:=Nat.and_le_left;have h2:((2 ^ k.bits:Nat):Int)=2 ^ k.bits:=by simp
 omega
include hb
theorem orU:orI k a b=((a ||| b:Nat):Int):=by
 have e:(BitVec.ofInt k.bits (a:Int) ||| BitVec.ofInt k.bits (b:Int)).toNat=a ||| b:=by
  rw[BitVec.toNat_or,BitVec.ofInt_natCast,BitVec.ofInt_natCast,BitVec.toNat_ofNat,BitVec.toNat_ofNat,aaf ha,aaf hb]
 unfold orI;rw[e,aip hk yj];have:a ||| b<2 ^ k.bits:=Nat.or_lt_two_pow ha hb;have h2:((2 ^ k.bits:Nat):Int)=2 ^ k.bits:=by simp
 omega
end
theorem shlU {k:IntKind} (hk:k.signed=false) (a:Nat) {n:Nat} (hn:n≤k.bits):shlI k (a:Int) (n:Int)=((a*2 ^ n % 2 ^ k.bits:Nat):Int):=by
 unfold shlI;rw[aak,Nat.min_eq_left hn];have:((a:Int)*2 ^ n)=((a*2 ^ n:Nat):Int):=by simp
 rw[this,qb hk]
theorem shrU (k:IntKind) (a:Nat) {n:Nat} (hn:n≤k.bits):shrI k (a:Int) (n:Int)=((a / 2 ^ n:Nat):Int):=by
 rw[shrI_eq k _ n hn];simp
theorem apg {a b n:Nat} (h:a<2 ^ n):a ||| b*2 ^ n=a+b*2 ^ n:=by
 rw[Nat.or_comm,Nat.mul_comm b,Nat.two_pow_add_eq_or_of_lt h b |>.symm];omega
theorem aqb (a n:Nat):a &&& (2 ^ n-1)=a % 2 ^ n:=Nat.and_two_pow_sub_one_eq_mod a n
theorem cv_u8 (n:Nat):IntKind.u8.wrap (n:Int)=((n % 256:Nat):Int):=qb (k:= .u8) rfl n
theorem a06 (n:Nat):IntKind.u64.wrap (n:Int)=((n % 18446744073709551616:Nat):Int):=qb (k:= .u64) rfl n
end Go.Ev
namespace Go.Ev
open Go
variable {X:Kx} {K:List Kf} {s:St}
noncomputable def goRU (X:Kx) (e0:List (Nat×V)) (pre:Bool) (acc:List Rec) (un:List (Nat×Nat)) (ops:List IOper) (keep:List Nat) (K:List Kf) (s:St):Ans:=
 match evOpsU X.cfg (evL X.cfg) X.dep e0 pre ops s with
 |some (l,s')=>if unordOk (acc++l) un then go X K (settle X.dep keep s') else none
 |none=>none
theorem go_regionU' (ops:List IOper) (p:Nat×Nat) (un:List (Nat×Nat)) (keep:List Nat):go X (.c (.region ops (p::un) keep)::K) s=goRU X s.env true [] (p::un) ops keep K s:=by
 unfold go goRU;rw[ak,uu];unfold evRegion;simp only[List.nil_append];cases evOpsU X.cfg (evL X.cfg) X.dep s.env true ops s with
 |none=>exact af _ _
 | some r=>
  obtain⟨l,s'⟩:=r;by_cases hu:unordOk l (p::un)=true
  · simp only[hu,if_true]
    rfl
  · simp only[hu,yz,if_false]
    exact af _ _
noncomputable def goRUX (X:Kx) (e0:List (Nat×V)) (pre:Bool) (acc:List Rec) (un:List (Nat×Nat)) (o:IOper) (r:List IOper) (keep:List Nat) (K:List Kf) (s:St) (b:Bool) (u:List (Loc×V)):Ans:=
 goRU X e0 (pre&&u.all fun p=>p.2.calm X.dep) (acc++[(b,u.all (fun p=>p.2.calm X.dep),cm X.dep s.get o,u.map (·.1))]) un r keep K (s.upd u)
noncomputable def goRUD (X:Kx) (e0:List (Nat×V)) (pre:Bool) (acc:List Rec) (un:List (Nat×Nat)) (o:IOper) (r:List IOper) (keep:List Nat) (K:List Kf) (s:St):Option (List (Loc×V))→Option V→Option Nat→Ans
 |some ch,some v,some k=>goRUX X e0 pre acc un o r keep K s true (ch++[(.slot k,v)])
 |_,_,_=>none
noncomputable def goRUM (X:Kx) (e0:List (Nat×V)) (pre:Bool) (acc:List Rec) (un:List (Nat×Nat)) (o:IOper) (r:List IOper) (keep:List Nat) (K:List Kf) (s:St):Option St→Ans
 |some s'=>if(calmE X.dep e0&&pre)=true then goRUD X e0 pre acc un o r keep K s (memDiff (chgOf X.cfg s.get o.op) s.mem s'.mem) (o.dst.bind (lk s'.env)) o.dst else none
 |none=>none
noncomputable def goRUC (X:Kx) (e0:List (Nat×V)) (pre:Bool) (acc:List Rec) (un:List (Nat×Nat)) (o:IOper) (r:List IOper) (keep:List Nat) (K:List Kf) (s:St):Option (List (Loc×V))→Ans
 |some u=>goRUX X e0 pre acc un o r keep K s false u
 |none=>goRUM X e0 pre acc un o r keep K s (stepM X.cfg (evL X.cfg) X.dep s o)
@[go_sem] theorem goRU_step (e0:List (Nat×V)) (pre:Bool) (acc:List Rec) (un:List (Nat×Nat)) (o:IOper) (r:List IOper) (keep:List Nat):goRU X e0 pre acc un (o::r) keep K s=goRUC X e0 pre acc un o r keep K s (stepU X.cfg (evL X.cfg) X.dep s.get o):=by
 have key:∀ b u,stepX X.cfg (evL X.cfg) X.dep e0 pre s o=some (b,u)→goRU X e0 pre acc un (o::r) keep K s=goRUX X e0 pre acc un o r keep K s b u:=by
  intro b u h;unfold goRUX goRU;rw[evOpsU,h];simp only;cases evOpsU X.cfg (evL X.cfg) X.dep e0 (pre&&u.all fun p=>p.2.calm X.dep) r (s.upd u) with
  |none=>rfl
  |some q=>obtain⟨l,s'⟩:=q;simp only[zm,List.singleton_append]
 have no:stepX X.cfg (evL X.cfg) X.dep e0 pre s o=none→goRU X e0 pre acc un (o::r) keep K s=none:=by
  intro h;unfold goRU;rw[evOpsU,h]
 unfold goRUC;cases h1:stepU X.cfg (evL X.cfg) X.dep s.get o with
 | some u=>
  refine key false u ?_;unfold stepX;rw[h1]
 | none=>
  simp only;unfold goRUM;cases h2:stepM X.cfg (evL X.cfg) X.dep s o with
  | none=>
   refine no ?_;unfold stepX;rw[h1,h2];simp
  | some s'=>
   simp only;by_cases h3:(calmE X.dep e0&&pre)=true
   · rw[if_pos h3]
     cases h4:o.dst with
     | none=>
      refine(no ?_).trans (by unfold goRUD;cases memDiff (chgOf X.cfg s.get o.op) s.mem s'.mem<;>rfl)
      unfold stepX;rw[h1];simp only[h3,if_true,h2,h4]
     | some k=>
      simp only[Option.bind_some];cases h5:memDiff (chgOf X.cfg s.get o.op) s.mem s'.mem with
      | none=>
       refine(no ?_).trans (by unfold goRUD;rfl)
       unfold stepX;rw[h1];simp only[h3,if_true,h2,h4,h5]
      | some ch=>
       cases h6:lk s'.env k with
       | none=>
        refine(no ?_).trans (by unfold goRUD;rfl)
        unfold stepX;rw[h1];simp only[h3,if_true,h2,h4,h5,h6]
       | some v=>
        refine(key true (ch++[(.slot k,v)]) ?_).trans (by unfold goRUD;rfl)
        unfold stepX;rw[h1];simp only[h3,if_true,h2,h4,h5,h6]
   · rw[if_neg h3]
     refine no ?_;unfold stepX;rw[h1];simp only[if_neg h3]
section
variable (e0:List (Nat×V)) (pre:Bool) (acc:List Rec) (un:List (Nat×Nat)) (o:IOper) (r:List IOper) (keep:List Nat)
@[go_sem] theorem goRUC_some (u:List (Loc×V)):goRUC X e0 pre acc un o r keep K s (some u)=goRUX X e0 pre acc un o r keep K s false u:=rfl
@[go_sem] theorem goRUC_none:goRUC X e0 pre acc un o r keep K s none=goRUM X e0 pre acc un o r keep K s (stepM X.cfg (evL X.cfg) X.dep s o):=rfl
@[go_sem] theorem goRUX_def (b:Bool) (u:List (Loc×V)):goRUX X e0 pre acc un o r keep K s b u=goRU X e0 (pre&&u.all fun p=>p.2.calm X.dep) (acc++[(b,u.all (fun p=>p.2.calm X.dep),cm X.dep s.get o,u.map (·.1))]) un r keep K (s.upd u):=rfl
@[go_sem] theorem goRUM_some (s':St):goRUM X e0 pre acc un o r keep K s (some s')=if(calmE X.dep e0&&pre)=true then goRUD X e0 pre acc un o r keep K s (memDiff (chgOf X.cfg s.get o.op) s.mem s'.mem) (o.dst.bind (lk s'.env)) o.dst else none:=rfl
@[go_sem] theorem goRUD_some (ch:List (Loc×V)) (v:V) (k:Nat):goRUD X e0 pre acc un o r keep K s (some ch) (some v) (some k)=goRUX X e0 pre acc un o r keep K s true (ch++[(.slot k,v)]):=rfl
end
@[go_sem] theorem goRU_end (e0:List (Nat×V)) (pre:Bool) (acc:List Rec) (un:List (Nat×Nat)) (keep:List Nat) (e:List (Nat×V)) (m:List (Cel×V)) (h:unordOk acc un=true):
  goRU X e0 pre acc un [] keep K ⟨e,m⟩=go X K ⟨settleE X.dep keep e,settleM X.dep m⟩:=by
 unfold goRU;simp only[evOpsU,List.append_nil,h,if_true];rfl
@[go_sem] theorem calm_d (n:Nat) (y:D):V.calm n (.d y)=true:=rfl
@[go_sem] theorem calm_own (n:Nat) (b:Bool) (z:Nat) (es:List D):V.calm n (.own b z es)=true:=rfl
@[go_sem] theorem calm_junk (n:Nat):V.calm n .junk=true:=rfl
@[go_sem] theorem calm_iptr (n:Nat) (e:D) (o:Nat):V.calm n (.iptr e o)=true:=rfl
@[go_sem] theorem calm_ref (n d k o:Nat):V.calm n (.ref d k o)=decide (d<n+1):=rfl
@[go_sem] theorem calm_bor (n k a b:Nat):V.calm n (.bor (.slot k) a b)=true:=rfl
@[go_sem] theorem calm_bref (n k a b:Nat):V.calm n (.bref (.slot k) a b)=true:=rfl
@[go_sem] theorem calm_borC (n:Nat) (c:Cel) (a b:Nat):V.calm n (.bor (.cell c) a b)=false:=rfl
@[go_sem] theorem calm_brefC (n:Nat) (c:Cel) (a b:Nat):V.calm n (.bref (.cell c) a b)=false:=rfl
@[go_sem] theorem calm_rcd (n:Nat) (ys:List V):V.calm n (.rcd ys)=false:=rfl
@[go_sem] theorem calm_clo (n:Nat) (f:FuncId) (a b:List V):V.calm n (.clo f a b)=(V.upTos (n+1) a&&V.upTos (n+1) b):=rfl
@[go_sem] theorem calm_ifc (n:Nat) (t:TypeId) (v:V):V.calm n (.ifc t v)=v.upTo (n+1):=rfl
@[go_sem] theorem calm_vec (n:Nat) (ys:List V):V.calm n (.vec ys)=V.upTos (n+1) ys:=rfl
@[go_sem] theorem calm_vref (n:Nat) (y:V):V.calm n (.vref y)=y.upTo (n+1):=rfl
@[go_sem] theorem calmE_nil (n:Nat):calmE n []=true:=rfl
@[go_sem] theorem calmE_cons (n k:Nat) (v:V) (r:List (Nat×V)):calmE n ((k,v)::r)=(v.calm n&&calmE n r):=rfl
mutual
theorem D.eqb_refl:∀ a:D,D.eqb a a=true
 | .bool a=>by simp[D.eqb]
 | .int k a=>by simp[D.eqb]
 | .str a=>by simp[D.eqb]
 | .nilS| .nilP| .nilI| .nilF| .nilM| .unk| .unkB=>rfl
 | .sl a=>by simp[D.eqb,D.eqbs_refl a]
 | .agg a=>by simp[D.eqb,D.eqbs_refl a]
 | .tup a=>by simp[D.eqb,D.eqbs_refl a]
 | .ptr a=>by simp[D.eqb,D.eqb_refl a]
 | .ifc t a=>by simp[D.eqb,D.eqb_refl a]
 | .fn f=>by simp[D.eqb]
theorem D.eqbs_refl:∀ a:List D,D.eqbs a a=true
 | []=>rfl
 |a::r=>by simp[D.eqbs,D.eqb_refl a,D.eqbs_refl r]
end
mutual
theorem V.eqb_refl':∀ a:V,V.eqb a a=true
 | .d a=>by simp[V.eqb,D.eqb_refl a]
 | .own n z a=>by simp[V.eqb,D.eqbs_refl a]
 | .iptr a o=>by simp[V.eqb,D.eqb_refl a]
 | .ref e k o=>by simp[V.eqb]
 | .clo f a b=>by simp[V.eqb,V.eqbs_refl' a,V.eqbs_refl' b]
 | .ifc t a=>by simp[V.eqb,V.eqb_refl' a]
 | .junk=>rfl
 | .bor l a b=>by simp[V.eqb]
 | .bref l a b=>by simp[V.eqb]
 | .vec a=>by simp[V.eqb,V.eqbs_refl' a]
 | .vref a=>by simp[V.eqb,V.eqb_refl' a]
 | .rcd a=>by simp[V.eqb,V.eqbs_refl' a]
theorem V.eqbs_refl':∀ a:List V,V.eqbs a a=true
 | []=>rfl
 |a::r=>by simp[V.eqbs,V.eqb_refl' a,V.eqbs_refl' r]
end
@[go_sem] theorem eqb_refl (a:V):V.eqb a a=true:=V.eqb_refl' a
@[go_sem] theorem memDiff_nil (cs:Option (List Cel)):memDiff cs [] []=some []:=rfl
@[go_sem] theorem memDiff_all (c c':Cel) (v v':V) (r r':List (Cel×V)):memDiff none ((c,v)::r) ((c',v')::r')=if c=c' then(memDiff none r r').map fun u=>u++[(.cell c,v')] else none:=rfl
@[go_sem] theorem memDiff_some (l:List Cel) (c c':Cel) (v v':V) (r r':List (Cel×V)):memDiff (some l) ((c,v)::r) ((c',v')::r')=if c=c' then(if l.contains c then(memDiff (some l) r r').map fun u=>u++[(.cell c,v')] else if v.eqb v' then(memDiff (some l) r r').map fun u=>u.filter fun p=> !decide (p.1= .cell c) else none) else none:=rfl
@[go_sem] theorem chgCells_nil (vs:List V):chgCells vs []=[]:=rfl
def chgQ (o:Nat) (cs:List Cel):Option V→List Cel
 |some (.ref d k off)=>⟨d,k,off+o⟩::cs
 |_=>cs
@[go_sem] theorem chgCells_cons (vs:List V) (i o:Nat) (r:List (Nat×Nat)):chgCells vs ((i,o)::r)=chgQ o (chgCells vs r) vs[i]? :=by
 rw[chgCells];unfold chgQ;cases vs[i]? with
 |none=>rfl
 |some v=>cases v<;>rfl
@[go_sem] theorem chgQ_ref (o:Nat) (cs:List Cel) (d k off:Nat):chgQ o cs (some (.ref d k off))=⟨d,k,off+o⟩::cs:=rfl
def chgT (cfg:Cfg):Option (Bool×FuncId×List V)→Option (List Cel)
 |some t=>(cfg.chg t.2.1).map (chgCells t.2.2)
 |none=>none
@[go_sem] theorem chgOf_def (cfg:Cfg) (s:Get) (op:IOp):chgOf cfg s op=chgT cfg (target cfg s op):=by
 unfold chgOf chgT;cases target cfg s op with
 |none=>rfl
 |some t=>rfl
@[go_sem] theorem chgT_some (cfg:Cfg) (t:Bool×FuncId×List V):chgT cfg (some t)=(cfg.chg t.2.1).map (chgCells t.2.2):=rfl
@[go_sem] theorem target_call (cfg:Cfg) (s:Get) (own:Bool) (f:FuncId) (args:List IOpd):target cfg s (.call own f args)=(vals cfg s args).map fun vs=>(own,f,vs):=rfl
attribute [go_sem] List.filter_nil List.filter_cons Option.bind_some List.contains_nil List.contains_cons
def behind (n:Nat):Option V→List Loc
 |some (.bor l _ _)=>[l]
 |some (.bref l _ _)=>[l]
 |some (.ref d j off)=>gx d j off n
 |_=>[]
@[go_sem] theorem behind_d (n:Nat) (y:D):behind n (some (.d y))=[]:=rfl
@[go_sem] theorem behind_own (n:Nat) (nw:Bool) (z:Nat) (es:List D):behind n (some (.own nw z es))=[]:=rfl
@[go_sem] theorem behind_bor (n:Nat) (l:Loc) (a b:Nat):behind n (some (.bor l a b))=[l]:=rfl
@[go_sem] theorem behind_bref (n:Nat) (l:Loc) (a b:Nat):behind n (some (.bref l a b))=[l]:=rfl
@[go_sem] theorem behind_iptr (n:Nat) (e:D) (o:Nat):behind n (some (.iptr e o))=[]:=rfl
@[go_sem] theorem behind_junk (n:Nat):behind n (some .junk)=[]:=rfl
@[go_sem] theorem behind_vec (n:Nat) (ys:List V):behind n (some (.vec ys))=[]:=rfl
@[go_sem] theorem behind_vref (n:Nat) (y:V):behind n (some (.vref y))=[]:=rfl
@[go_sem] theorem behind_clo (n:Nat) (f:FuncId) (a b:List V):behind n (some (.clo f a b))=[]:=rfl
@[go_sem] theorem behind_ifc (n:Nat) (t:TypeId) (v:V):behind n (some (.ifc t v))=[]:=rfl
@[go_sem] theorem behind_ref (n d j off:Nat):behind n (some (.ref d j off))=gx d j off n:=rfl
@[go_sem] theorem opdLocs_t (s:Get) (n k:Nat):aa s n (.t k)= .slot k::behind n (s (.slot k)):=by
 unfold behind;simp only[aa];rfl
@[go_sem] theorem opdLocs_c (s:Get) (n:Nat) (d:D):aa s n (.c d)=[]:=rfl
@[go_sem] theorem opdLocs_g (s:Get) (n:Nat) (d:Nat):aa s n (.g d)=[]:=rfl
def madeAt (dep:Nat) (dst:Option Nat):IOp→List Loc
 | .alloc _| .box _ _=>match dst with
  |some k=>[.cell ⟨dep,k,0⟩]
  |none=>[]
 |_=>[]
@[go_sem] theorem readsOf_n (dep:Nat) (s:Get) (dst:Option Nat) (op:IOp):cm dep s ⟨dst,none,op⟩=madeAt dep dst op++op.operands.flatMap (aa s op.span):=by
 cases op<;>cases dst<;>rfl
@[go_sem] theorem readsOf_g (dep:Nat) (s:Get) (dst:Option Nat) (k:Nat) (b:Bool) (op:IOp):cm dep s ⟨dst,some (k,b),op⟩= .slot k::(madeAt dep dst op++op.operands.flatMap (aa s op.span)):=by
 cases op<;>cases dst<;>rfl
@[go_sem] theorem isNil_cons (neg:Bool) (e:D) (es:List D):l6 neg (.d (.sl (e::es)))=some (.bool neg):=rfl
@[go_sem] theorem isNil_own (neg nw:Bool) (z:Nat) (es:List D):l6 neg (.own nw z es)=some (.bool neg):=rfl
@[go_sem] theorem isNil_bor (neg:Bool) (l:Loc) (a b:Nat):l6 neg (.bor l a b)=some (.bool neg):=rfl
attribute [go_sem] madeAt IOp.operands IOp.span List.flatMap_cons List.flatMap_nil gx Option.toList
theorem most_of {n:Nat} (h:n≤1000000000):(n≤co)=True:=by
 have:(1000000000:Nat)≤co:=by unfold co;decide
 simp;omega
def appB (dst:Option Nat) (z:Nat) (l:Loc) (off n:Nat) (ys:List D):Option V→Option (List (Loc×V))
 |some (.own false z' es)=>if off=0∧n≤es.length∧z'=z∧n+ys.length≤co then some (put1 dst (.own true z (es.take n++ys))++[(l,.junk)]) else none
 |_=>none
def appV (s:Get) (dst:Option Nat) (z:Nat) (x:IOpd) (v:V) (ys:List D):Option (List (Loc×V)):=
 match x,v with
  | _,.d .nilS=>match ys with
   | []=>some (put1 dst (.d .nilS))
   |_=>if ys.length≤co then some (put1 dst (.own true z ys)) else none
  | _,.d (.sl es)=>match ys with
   | []=>some (put1 dst (.d (.sl es)))
   |_=>none
  | .t k,.own _ z' es=>if z'=z∧es.length+ys.length≤co then some (put1 dst (.own true z (es++ys))++[(.slot k,.junk)]) else none
  |_,.bor l off n=>appB dst z l off n ys (s l)
  |_,_=>none
@[go_sem] theorem evAppend_def (s:Get) (dst:Option Nat) (z bytes:Nat) (x:IOpd) (v:V) (ys:List D):fv s dst z bytes x v ys=if(allZ z ys&&decide (bytes≤2048))=true then appV s dst z x v ys else none:=rfl
section
variable (g:Get) (dst:Option Nat) (z:Nat) (x:IOpd)
@[go_sem] theorem appV_nil0:appV g dst z x (.d .nilS) []=some (put1 dst (.d .nilS)):=by cases x<;>rfl
@[go_sem] theorem appV_nil (y:D) (ys:List D) (h:(y::ys).length≤1000000000):appV g dst z x (.d .nilS) (y::ys)=some (put1 dst (.own true z (y::ys))):=by
 have:=most_of h;cases x<;>simp[appV,most_of h]<;>simpa using this
@[go_sem] theorem appV_sl0 (es:List D):appV g dst z x (.d (.sl es)) []=some (put1 dst (.d (.sl es))):=by cases x<;>rfl
@[go_sem] theorem appV_own (k:Nat) (nw:Bool) (es ys:List D) (h:es.length+ys.length≤1000000000):appV g dst z (.t k) (.own nw z es) ys=some (put1 dst (.own true z (es++ys))++[(.slot k,.junk)]):=by
 simp[appV,most_of h]
@[go_sem] theorem appV_bor (l:Loc) (off n:Nat) (ys:List D):appV g dst z x (.bor l off n) ys=appB dst z l off n ys (g l):=by cases x<;>rfl
@[go_sem] theorem appB_own (l:Loc) (n:Nat) (es ys:List D) (hn:n=es.length) (h:es.length+ys.length≤1000000000):appB dst z l 0 n ys (some (.own false z es))=some (put1 dst (.own true z (es++ys))++[(l,.junk)]):=by
 subst hn;simp[appB,most_of h]
@[go_sem] theorem borQ_own' (l:Loc) (n:Nat) (es:List D) (hn:n=es.length):borQ dst l 0 n (some (.own false z es))=if dst.map Loc.slot=some l then some [(l,.own true z es)] else some (put1 dst (.own true z es)++[(l,.junk)]):=by
 subst hn;exact borQ_own dst l z es
@[go_sem] theorem givenQ_own' (l:Loc) (n:Nat) (es:List D) (hn:n=es.length):ad4 l 0 n (some (.own false z es))=some ([(l,.junk)],.own false z es):=by
 subst hn;exact arc l z es
@[go_sem high] theorem argQ_own' (n:Nat) (es:List D) (hn:n=es.length):argQ 0 n (some (.own false z es))=some (.sl es,true):=by
 subst hn;simp[argQ]
end
@[go_sem] theorem allZ_nil (z:Nat):allZ z []=true:=rfl
@[go_sem] theorem allZ_cons (z:Nat) (e:D) (r:List D):allZ z (e::r)=(e.cells.length==z&&allZ z r):=rfl
theorem allZ_map {α:Type} {z:Nat} {f:α→D} (h:∀ x,(f x).cells.length=z) (l:List α):allZ z (l.map f)=true:=by
 induction l with
 |nil=>rfl
 |cons b l ih=>simp[allZ,h b,ih]
@[go_sem] theorem allZ_bytes (l:List UInt8):allZ 1 (l.map byteD)=true:=allZ_map (f:=byteD) (fun _=>rfl) l
theorem headZ_of {z:Nat} {es:List D} (h:allZ z es=true):headZ z es=true:=by
 cases es with
 |nil=>rfl
 |cons e es=>simp only[allZ,yu] at h;exact h.1
@[go_sem] theorem headZ_nil (z:Nat):headZ z []=true:=rfl
@[go_sem] theorem headZ_cons (z:Nat) (e:D) (r:List D):headZ z (e::r)=(e.cells.length==z):=rfl
@[go_sem] theorem headZ_bytes (l:List UInt8):headZ 1 (l.map byteD)=true:=headZ_of (allZ_bytes l)
variable {cfg:Cfg}
def slcB (dst:Option Nat) (z:Nat) (loc:Loc) (off l h:Nat):Option V→Option (List (Loc×V))
 |some (.own false z' _)=>if z'=z then some (put1 dst (.bor loc (off+l) (h-l))) else none
 |_=>none
def slcV (s:Get) (dst:Option Nat) (z:Nat) (x:IOpd) (l h:Nat) (v:V):Option (List (Loc×V)):=
 match x,v with
  |_,.d .nilS=>some (put1 dst (.d .nilS))
  |_,.d (.sl es)=>if headZ z es then some (put1 dst (.d (.sl ((es.take h).drop l)))) else none
  | .t k,.own false z' _=>if z'=z then some (put1 dst (.bor (.slot k) l (h-l))) else none
  | .t k,.own true z' es=>if z'=z then some (put1 dst (.own true z ((es.take h).drop l))++[(.slot k,.junk)]) else none
  |_,.bor loc off _=>slcB dst z loc off l h (s loc)
  |_,_=>none
@[go_sem] theorem evSlice_def (s:Get) (dst:Option Nat) (z:Nat) (x:IOpd) (v:V) (lo hi:Option IOpd):gn cfg s dst z x v lo hi none=(cont s v).bind fun es=>(bm cfg s es.length lo hi).bind fun lh=>slcV s dst z x lh.1 lh.2 v:=by
 unfold gn slcV slcB;cases cont s v with
 |none=>rfl
 | some es=>
  simp only[topOf,Option.bind_some];cases bm cfg s es.length lo hi with
  |none=>rfl
  |some lh=>obtain⟨l,h⟩:=lh;simp only[Option.isSome_none,Bool.false_and,yz,if_false,Option.bind_some];rfl
section
variable (g:Get) (dst:Option Nat) (z:Nat) (x:IOpd) (l h:Nat)
@[go_sem] theorem slcV_nil:slcV g dst z x l h (.d .nilS)=some (put1 dst (.d .nilS)):=by cases x<;>rfl
@[go_sem] theorem slcV_sl (es:List D):slcV g dst z x l h (.d (.sl es))=if headZ z es=true then some (put1 dst (.d (.sl ((es.take h).drop l)))) else none:=by cases x<;>rfl
@[go_sem] theorem slcV_bor (loc:Loc) (off n:Nat):slcV g dst z x l h (.bor loc off n)=slcB dst z loc off l h (g loc):=by cases x<;>rfl
@[go_sem] theorem evClip_nil:evClip dst x (.d .nilS)=some (put1 dst (.d .nilS)):=by cases x<;>rfl
@[go_sem] theorem evClip_sl (es:List D):evClip dst x (.d (.sl es))=some (put1 dst (.d (.sl es))):=by cases x<;>rfl
@[go_sem] theorem evClip_own (nw:Bool) (es:List D):evClip dst x (.own nw z es)=evMv dst x (.own nw z es):=rfl
@[go_sem] theorem evClip_bor (loc:Loc) (a b:Nat):evClip dst x (.bor loc a b)=some (put1 dst (.bor loc a b)):=by cases x<;>rfl
def idxB (dst:Option Nat) (z:Nat) (l:Loc) (i:Nat):Option V→Option (List (Loc×V))
 |some (.own false z' _)=>if z'=z then some (put1 dst (.bref l i 0)) else none
 |_=>none
end
@[go_sem high] theorem cells_byteD (c:UInt8):(byteD c).cells=[byteD c]:=rfl
@[go_sem] theorem storable_byteD (c:UInt8):(byteD c).storable=true:=rfl
@[go_sem] theorem canon_byteD (c:UInt8):(byteD c).canon=byteD c:=rfl
@[go_sem] theorem toInt_byteD (c:UInt8):(byteD c).toInt? =some (c.toNat:Int):=rfl
@[go_sem] theorem asD_byteD (c:UInt8):V.asD (.d (byteD c))=some (byteD c):=rfl
