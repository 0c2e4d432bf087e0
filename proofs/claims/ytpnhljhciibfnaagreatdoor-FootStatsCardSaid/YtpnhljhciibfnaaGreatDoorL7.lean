import Derived.Test.YtpnhljhciibfnaaGreatDoorL6
import Derived.Attr
import Derived.ChangeArms
import Derived.ChangeOld
import Derived.Below
import Derived.Lib.ItoaNum
import Derived.Lib.Repeat
import Derived.Lib.Bytealg
import Derived.Lib.SlTrimSet
namespace Go.Ev
open Go
inductive Kf where
 |c (c:AD)
 |b (id:Nat)
abbrev Ans:=Option (V×List (Cel×V))
structure Kx where
 cfg:Cfg
 dep:Nat
 k:Ex→St→Ans
def BQ (dep:Nat) (res:List Dm):Ex→St→Ans
 | .normal,s| .ret,s=>(Ca dep s.get res).bind fun v=>Cp dep v s.mem
 | .exit _,_=>none
abbrev fx (cfg:Cfg) (dep:Nat) (res:List Dm):Kx:=⟨cfg,dep,BQ dep res⟩
noncomputable def ax (X:Kx):List Kf→Option (Ex×St)→Ans
 | [],some (e,s)=>X.k e s
 | [],none=>none
 | .c c::K,some (.normal,s)=>ax X K (evC X.cfg X.dep c s)
 | .c _::K,r=>ax X K r
 | .b id::K,some (.exit id',s)=>if id'=id then ax X K (some (.normal,s)) else ax X K (some (.exit id',s))
 | .b _::K,r=>ax X K r
noncomputable def go (X:Kx) (K:List Kf) (s:St):Ans:=ax X K (some (.normal,s))
noncomputable def goX (X:Kx) (id:Nat) (K:List Kf) (s:St):Ans:=ax X K (some (.exit id,s))
theorem ak (X:Kx):∀ K,ax X K none=none
 | []=>rfl
 | .c _::K=>by rw[ax];exact ak X K;simp
 | .b _::K=>by rw[ax];exact ak X K;simp
theorem m8 (X:Kx) (s:St):∀ K,ax X K (some (.ret,s))=X.k .ret s
 | []=>rfl
 | .c _::K=>by rw[ax];exact m8 X s K;simp
 | .b _::K=>by rw[ax];exact m8 X s K;simp
variable {X:Kx} {K:List Kf} {s:St}
theorem lN:go X [] s=X.k .normal s:=rfl
theorem lO (id:Nat):go X (.b id::K) s=go X K s:=by unfold go;rw[ax];simp
theorem go_ret:go X (.c .ret::K) s=X.k .ret s:=by unfold go;rw[ax,ZQ,m8]
theorem ZB:go X (.c .skip::K) s=go X K s:=by unfold go;rw[ax,Ws]
theorem ZD (id:Nat):go X (.c (.exit id)::K) s=goX X id K s:=by unfold go goX;rw[ax,Wv]
theorem goX_c (id:Nat) (c:AD):goX X id (.c c::K) s=goX X id K s:=by unfold goX;rw[ax];simp
theorem goX_b (id id':Nat):goX X id (.b id'::K) s=if id=id' then go X K s else goX X id K s:=by unfold goX go;rw[ax]
theorem lM (a b:AD):go X (.c (.seq a b)::K) s=go X (.c a:: .c b::K) s:=by
 unfold go;rw[ax,ax,ZP];cases h:evC X.cfg X.dep a s with
 |none=>rw[ak,ak]
 | some r=>
  obtain⟨e,s'⟩:=r;cases e with
  |normal=>rw[ax]
  |ret=>rw[ax];simp
  |exit id=>rw[ax];simp
theorem go_loop (b:AD):go X (.c (.loop b)::K) s=go X (.c b:: .c (.loop b)::K) s:=by
 unfold go;rw[ax,ax,Wt];cases h:evC X.cfg X.dep b s with
 |none=>rw[ak,ak]
 | some r=>
  obtain⟨e,s'⟩:=r;cases e with
  |normal=>rw[ax]
  |ret=>rw[ax];simp
  |exit id=>rw[ax];simp
theorem WQ (id:Nat) (b:AD):go X (.c (.block id b)::K) s=go X (.c b:: .b id::K) s:=by
 unfold go;rw[ax,ax,bs4];cases h:evC X.cfg X.dep b s with
 |none=>rw[ak,ak]
 | some r=>
  obtain⟨e,s'⟩:=r;cases e with
  |normal=>rw[ax];simp
  |ret=>rw[ax];simp
  |exit id'=>rw[ax];simp only;split<;>rfl
theorem UA (ls:List Nat):go X (.c (.Bw ls)::K) s=go X K {s with env:=ls.foldl (fun e k=>BR k e) s.env}:=by unfold go;rw[ax,bgv]
theorem ZC (k:Nat):go X (.c (.free k)::K) s=go X K ⟨DQ X.dep k s.env,Bq X.dep k s.mem⟩:=by unfold go;rw[ax,Wu]
noncomputable def Sq (X:Kx) (K:List Kf) (E:List (Nat×V)) (f:List (Cel×V)→Ans):Ex→St→Ans
 | .normal,s=>f (Ap (X.dep+1) s.mem)
 | .ret,s=>X.k .ret ⟨E,Ap (X.dep+1) s.mem⟩
 | .exit id,s=>goX X id K ⟨E,Ap (X.dep+1) s.mem⟩
noncomputable def IJ (X:Kx) (b:AD) (K:List Kf) (E:List (Nat×V)) (f:List (Cel×V)→Ans):Ex→St→Ans
 | .normal,s=>go ⟨X.cfg,X.dep+1,Sq X K E f⟩ [.c b] s
 |_,_=>none
noncomputable def Sp (X:Kx) (a b:AD) (K:List Kf) (E:List (Nat×V)) (m:List (Cel×V)) (f:List (Cel×V)→Ans):Option (List (Nat×V))→Ans
 |some e=>go ⟨X.cfg,X.dep+1,IJ X b K E f⟩ [.c a] ⟨e,m⟩
 |none=>none
noncomputable def goE (X:Kx) (ps:List Nat) (a b:AD) (E:List (Nat×V)) (K:List Kf):List (List D)→List (Cel×V)→Ans
 | [],m=>go X K ⟨E,m⟩
 |x::l,m=>Sp X a b K E m (goE X ps a b E K l) (D6 ps x (Bv E))
noncomputable def goEQ (X:Kx) (ps:List Nat) (a b:AD) (K:List Kf) (s:St):Option (List (List D))→Ans
 |some l=>goE X ps a b (Ac X.dep s.env) K l s.mem
 |none=>none
theorem WS (ps:List Nat) (a b:AD) (E:List (Nat×V)):∀ (l:List (List D)) (m:List (Cel×V)),ax X K (match Bg (BU (evC X.cfg (X.dep+1) a) (evC X.cfg (X.dep+1) b) X.dep ps E) l m with
  |some (e,m)=>some (e,⟨E,m⟩)
  |none=>none)=goE X ps a b E K l m
 | [],m=>rfl
 | x::l,m=>by
  have ih:=WS ps a b E l;unfold goE Bg BU;cases hp:D6 ps x (Bv E) with
  |none=>exact ak _ _
  | some e1=>
   simp only[Sp];unfold go;rw[ax];cases ha:evC X.cfg (X.dep+1) a ⟨e1,m⟩ with
   |none=>exact ak _ _
   | some r=>
    obtain⟨e,s1⟩:=r;cases e with
    | normal=>
     show _=IJ X b K E (goE X ps a b E K l) .normal s1;simp only[IJ];unfold go;rw[ax];cases hb:evC X.cfg (X.dep+1) b s1 with
     |none=>exact ak _ _
     | some r=>
      obtain⟨e,s2⟩:=r;cases e with
      |normal=>exact ih _
      |ret=>exact m8 _ _ _
      |exit id=>rfl
    |ret=>exact ak _ _
    |exit id=>exact ak _ _
theorem ZE (x:AE) (ps:List Nat) (a b:AD):go X (.c (.each x ps a b)::K) s=goEQ X ps a b K s ((val X.cfg s.get x).bind (Cy X.cfg)):=by
 unfold go;rw[ax,Ww];cases(val X.cfg s.get x).bind (Cy X.cfg) with
 |none=>exact ak _ _
 |some l=>exact WS ps a b _ l s.mem
noncomputable def goR (X:Kx) (ops:List AV) (Ak:List Nat) (K:List Kf) (s:St):Ans:=
 match CR X.cfg (evL X.cfg) X.dep ops s with
 |some s'=>go X K (settle X.dep Ak s')
 |none=>none
theorem HG (ops:List AV) (Ak:List Nat):go X (.c (.region ops [] Ak)::K) s=goR X ops Ak K s:=by
 unfold go goR;rw[ax,xp,A8];cases CR X.cfg (evL X.cfg) X.dep ops s with
 |none=>exact ak _ _
 |some s'=>rfl
theorem ab {cfg:Cfg} {f:FuncId} {fn:AP} (hx:cfg.ext f=none) (hf:cfg.funcs f=some fn) (dep:Nat) (vs:List V) (m:List (Cel×V)) (ha:vs.length=fn.arity) (hp:Ew vs m=true):
  evL cfg f dep vs m=go (fx cfg dep fn.results) [.c fn.body] ⟨entry 0 vs,m⟩:=by
 rw[Wq hx hf];unfold evB;rw[if_pos ⟨ha,hp⟩];unfold go;rw[ax];cases evC cfg dep fn.body ⟨entry 0 vs,m⟩ with
 |none=>rfl
 | some r=>
  obtain⟨e,s⟩:=r;cases e<;>rfl
end Go.Ev
namespace Go.Ev
open Go
variable {X:Kx} {K:List Kf} {s:St} {cfg:Cfg} {orc:Orc} {dep:Nat}
noncomputable def goQ (X:Kx) (a b:AD) (K:List Kf) (s:St):Option V→Ans
 |some (.d (.bool t))=>if t then go X (.c a::K) s else go X (.c b::K) s
 |some (.d .DY)=>ax X K (DC (evC X.cfg X.dep a s) (evC X.cfg X.dep b s))
 |_=>none
theorem WO (x:AE) (a b:AD):go X (.c (.cond x a b)::K) s=goQ X a b K s (val X.cfg s.get x):=by
 unfold go;rw[ax,Wx];generalize val X.cfg s.get x=v;cases v with
 |none=>exact ak _ _
 | some v=>
  cases v with
  | d y=>
   cases y with
   |bool t=>cases t<;>(simp only[goQ];unfold go;simp[ax])
   |DY=>rfl
   |_=>exact ak _ _
  |_=>exact ak _ _
theorem goQ_t (a b:AD):goQ X a b K s (some (.d (.bool true)))=go X (.c a::K) s:=rfl
theorem goQ_f (a b:AD):goQ X a b K s (some (.d (.bool false)))=go X (.c b::K) s:=rfl
theorem Aq (a b:AD) (t:Bool):goQ X a b K s (some (.d (.bool t)))=if t then go X (.c a::K) s else go X (.c b::K) s:=rfl
noncomputable def goC (X:Kx) (o:AV) (r:List AV) (Ak:List Nat) (K:List Kf) (s:St):Option (List (Loc×V))→Ans
 |some u=>goR X r Ak K (s.upd u)
 | none=>match BL X.cfg (evL X.cfg) X.dep s o with
  |some s'=>goR X r Ak K s'
  |none=>none
theorem WR (o:AV) (r:List AV) (Ak:List Nat):goR X (o::r) Ak K s=goC X o r Ak K s (Ag X.cfg (evL X.cfg) X.dep s.get o):=by
 unfold goR;rw[CR];unfold goC CQ;cases Ag X.cfg (evL X.cfg) X.dep s.get o with
 |some u=>rfl
 | none=>
  simp only;cases BL X.cfg (evL X.cfg) X.dep s o<;>rfl
theorem WU (o:AV) (r:List AV) (Ak:List Nat) (u:List (Loc×V)):goC X o r Ak K s (some u)=goR X r Ak K (s.upd u):=rfl
theorem ZF (Ak:List Nat) (e:List (Nat×V)) (m:List (Cel×V)):goR X [] Ak K ⟨e,m⟩=go X K ⟨Be X.dep Ak e,BI X.dep m⟩:=rfl
theorem Wb (e:List (Nat×V)) (m:List (Cel×V)) (k:Nat):St.get ⟨e,m⟩ (.slot k)=lk e k:=rfl
theorem Wc (e:List (Nat×V)) (m:List (Cel×V)) (c:Cel):St.get ⟨e,m⟩ (.cell c)=lk m c:=rfl
theorem X5:s.upd []=s:=rfl
theorem Ud (e:List (Nat×V)) (m:List (Cel×V)) (k:Nat) (v:V) (u:List (Loc×V)):St.upd ⟨e,m⟩ ((.slot k,v)::u)=St.upd ⟨Go.Ev.st e k v,m⟩ u:=rfl
theorem Ue (e:List (Nat×V)) (m:List (Cel×V)) (c:Cel) (v:V) (u:List (Loc×V)):St.upd ⟨e,m⟩ ((.cell c,v)::u)=St.upd ⟨e,Go.Ev.st m c v⟩ u:=rfl
theorem br2 (k:Nat) (v:V):AO (some k) v=[(.slot k,v)]:=rfl
theorem val_t (s:Get) (k:Nat):val cfg s (.t k)=s (.slot k):=rfl
theorem val_c (s:Get) (x:D):val cfg s (.c x)=some (.d x):=rfl
theorem Ub (s:Get):BK cfg s []=some []:=rfl
theorem bg6 (s:Get) (x:AE) (r:List AE):BK cfg s (x::r)=(val cfg s x).bind fun v=>(BK cfg s r).bind fun vs=>some (v::vs):=by
 rw[BK];cases val cfg s x<;>cases BK cfg s r<;>rfl
theorem W4 (s:Get):Ef cfg s []=some []:=rfl
theorem bta (s:Get) (x:AE) (r:List AE):Ef cfg s (x::r)=(dat cfg s x).bind fun v=>(Ef cfg s r).bind fun vs=>some (v::vs):=by
 rw[Ef];cases dat cfg s x<;>cases Ef cfg s r<;>rfl
theorem bind_some {α β:Type} (a:α) (f:α→Option β):(some a).bind f=f a:=rfl
theorem bW (s:Get) (dst:Option Nat) (k:Nat) (b t:Bool) (op:IOp) (h:s (.slot k)=some (.d (.bool t))):Ag cfg orc dep s ⟨dst,some (k,b),op⟩=if t==b then Ag cfg orc dep s ⟨dst,none,op⟩ else some (AO dst (.d (.tup []))):=by
 unfold Ag;simp only[A5,h];cases t<;>cases b<;>rfl
theorem Xo (s:Get) (dst:Option Nat) (k:Nat) (b:Bool) (op:IOp) (h:s (.slot k)=some (.d (.tup []))):Ag cfg orc dep s ⟨dst,some (k,b),op⟩=some (AO dst (.d (.tup []))):=by
 unfold Ag;simp only[A5,h]
def gU (cfg:Cfg) (orc:Orc) (dep:Nat) (s:Get) (dst:Option Nat) (b:Bool) (op:IOp):Option V→Option (List (Loc×V))
 |some (.d (.bool t))=>if t==b then Ag cfg orc dep s ⟨dst,none,op⟩ else some (AO dst (.d (.tup [])))
 |some (.d (.tup []))=>some (AO dst (.d (.tup [])))
 |_=>none
theorem U_g (s:Get) (dst:Option Nat) (k:Nat) (b:Bool) (op:IOp):Ag cfg orc dep s ⟨dst,some (k,b),op⟩=gU cfg orc dep s dst b op (s (.slot k)):=by
 unfold gU;split
 · rename_i t h;exact bW s dst k b t op h
 · rename_i h;exact Xo s dst k b op h
 · rename_i h1 h2
   unfold Ag;have:A5 s (some (k,b))=none:=by
    unfold A5;split
    · rename_i e;cases e
    · rename_i e
      cases e;split
      · rename_i t h;exact absurd h (h1 t)
      · rename_i h;exact absurd h h2
      · rfl
   rw[this]
theorem gU_b (s:Get) (dst:Option Nat) (b t:Bool) (op:IOp):gU cfg orc dep s dst b op (some (.d (.bool t)))=if t==b then Ag cfg orc dep s ⟨dst,none,op⟩ else some (AO dst (.d (.tup []))):=rfl
theorem gU_u (s:Get) (dst:Option Nat) (b:Bool) (op:IOp):gU cfg orc dep s dst b op (some (.d (.tup [])))=some (AO dst (.d (.tup []))):=rfl
theorem U_mv (s:Get) (k:Nat) (x:AE):Ag cfg orc dep s ⟨some k,none,.mv x⟩=(val cfg s x).bind fun v=>FD (some k) x v:=rfl
theorem U_asg (s:Get) (k:Nat) (x:AE):Ag cfg orc dep s ⟨some k,none,.asg x⟩=(val cfg s x).bind fun v=>Di s (some k) x v:=rfl
def be6 (dst:Option Nat):Option V→Option (List (Loc×V))
 |some (.d x)=>some (AO dst (.d x))
 |_=>none
def Vp (dst:Option Nat) (f:Bool→Option V):Option V→Option (List (Loc×V))
 |some (.d (.bool t))=>be6 dst (f t)
 |_=>none
theorem Yi (dst:Option Nat) (f:Bool→Option V) (t:Bool):Vp dst f (some (.d (.bool t)))=be6 dst (f t):=rfl
theorem Wn (k:Nat) (x:D):be6 (some k) (some (.d x))=some [(.slot k,.d x)]:=rfl
theorem oQ (s:Get) (k:Nat) (c a b:AE):Ag cfg orc dep s ⟨some k,none,.pick c a b⟩=Vp (some k) (fun t=>val cfg s (if t then a else b)) (val cfg s c):=by
 show At cfg dep s (some k) (.pick c a b)=_;simp only[At];generalize val cfg s c=v;cases v with
 |none=>rfl
 | some v=>
  cases v with
  | d y=>
   cases y with
   |bool t=>simp only[Vp,be6];rfl
   |_=>rfl
  |_=>rfl
theorem U_bin (s:Get) (k:Nat) (op:BinOp) (x y:AE):Ag cfg orc dep s ⟨some k,none,.bin op x y⟩=match val cfg s x,val cfg s y with
 |some (.d a),some (.d b)=>(D.bin op a b).map fun r=>[(.slot k,.d r)]
 |_,_=>none:=rfl
theorem U_eqn (s:Get) (k:Nat) (n:Bool) (c:Sc) (x y:AE):Ag cfg orc dep s ⟨some k,none,.eqn n c x y⟩=match val cfg s x,val cfg s y with
 |some a,some b=>(V.eqn cfg c a b).map fun r=>[(.slot k,.d (.bool (if n then !r else r)))]
 |_,_=>none:=rfl
theorem bV (s:Get) (k:Nat) (n:Bool) (x:AE):Ag cfg orc dep s ⟨some k,none,.isNil n x⟩=(val cfg s x).bind fun v=>(ux n v).map fun r=>[(.slot k,.d r)]:=rfl
theorem U_un (s:Get) (k:Nat) (op:UnOp) (x:AE):Ag cfg orc dep s ⟨some k,none,.un op x⟩=match val cfg s x with
 |some (.d a)=>(D.un op a).map fun r=>[(.slot k,.d r)]
 |_=>none:=rfl
theorem bX (s:Get) (j:Nat) (k:IntKind) (x:AE):Ag cfg orc dep s ⟨some j,none,.Aj k x⟩=match val cfg s x with
 |some (.d (.int _ n))=>some [(.slot j,.d (.int k (k.wrap n)))]
 |_=>none:=rfl
theorem U_b2s (s:Get) (k:Nat) (x:AE):Ag cfg orc dep s ⟨some k,none,.b2s x⟩=((val cfg s x).bind (cont s)).bind fun es=>(di es).map fun b=>[(.slot k,.d (.str b))]:=rfl
theorem oR (s:Get) (k:Nat) (z:Option Nat) (x:AE):Ag cfg orc dep s ⟨some k,none,.load z x⟩=(val cfg s x).bind fun v=>j6 s (some k) z v:=rfl
def TA (cfg:Cfg) (s:Get) (n:Nat) (a x:AE):Option (List (Loc×V)):=match val cfg s a,val cfg s x with
 |some a,some v=>dr s n a x v
 |_,_=>none
def YB (cfg:Cfg) (s:Get) (n:Nat) (a x:AE):Option V→Option (List (Loc×V))
 |some (.Az _ _ _)=>(TA cfg (AN s (giveUp s [a,x])) n a x).map (giveUp s [a,x]++ ·)
 |_=>TA cfg s n a x
theorem bS (s:Get) (n:Nat) (a x:AE):Ag cfg orc dep s ⟨none,none,.store n a x⟩=YB cfg s n a x (val cfg s a):=by
 show Ft cfg dep s none (.store n a x)=_;unfold Ft YB;cases h:val cfg s a with
 |none=>simp only[gives,h];rfl
 |some v=>cases v<;>(simp only[gives,h];rfl)
theorem bhe (s:Get) (n:Nat) (a x:AE) (l:Loc) (i o:Nat):YB cfg s n a x (some (.Az l i o))=(TA cfg (AN s (giveUp s [a,x])) n a x).map (giveUp s [a,x]++ ·):=rfl
theorem Um (s:Get) (n:Nat) (a x:AE) (d k o:Nat):YB cfg s n a x (some (.ref d k o))=TA cfg s n a x:=rfl
theorem Ul (s:Get) (n:Nat) (a x:AE):TA cfg s n a x=(val cfg s a).bind fun p=>(val cfg s x).bind fun v=>dr s n p x v:=by
 unfold TA;cases val cfg s a with
 |none=>rfl
 |some p=>cases val cfg s x<;>rfl
def WZ (l:Loc) (r:List (Loc×V)):Option V→List (Loc×V)
 |some (.own false _ es)=>(l,.d (.sl es))::r
 |_=>r
def bez (s:Get) (k:Nat) (r:List (Loc×V)):Option V→List (Loc×V)
 |some (.own _ _ es)=>(.slot k,.d (.sl es))::r
 |some (.bor l _ _)=>WZ l r (s l)
 |_=>r
def WX (k o n:Nat) (r:List (Loc×V)):Option V→List (Loc×V)
 |some (.own false _ es)=>(.slot k,.d (.sl ((es.drop o).take n)))::r
 |_=>r
def bey (s:Get) (k:Nat) (r:List (Loc×V)):Option V→List (Loc×V)
 |some (.bor l o n)=>WX k o n r (s l)
 |_=>r
theorem bgs (s:Get) (l:List AE):giveUp s l=BW s l++CO s l:=rfl
theorem bsr (s:Get):BW s []=[]:=rfl
theorem ZJ (s:Get) (d:D) (r:List AE):BW s (.c d::r)=BW s r:=rfl
theorem bsq (s:Get):CO s []=[]:=rfl
theorem ZH (s:Get) (d:D) (r:List AE):CO s (.c d::r)=CO s r:=rfl
theorem ZI (s:Get) (k:Nat) (r:List AE):BW s (.t k::r)=bez s k (BW s r) (s (.slot k)):=by
 unfold bez WZ;rw[BW];cases s (.slot k) with
 |none=>rfl
 |some v=>cases v<;>rfl
theorem ZG (s:Get) (k:Nat) (r:List AE):CO s (.t k::r)=bey s k (CO s r) (s (.slot k)):=by
 unfold bey WX;rw[CO];cases s (.slot k) with
 |none=>rfl
 |some v=>cases v<;>rfl
theorem WY (s:Get) (k:Nat) (r:List (Loc×V)) (y:D):bez s k r (some (.d y))=r:=rfl
theorem avj (s:Get) (k:Nat) (r:List (Loc×V)) (l:Loc) (o n:Nat):bez s k r (some (.Az l o n))=r:=rfl
theorem WW (s:Get) (k:Nat) (r:List (Loc×V)) (y:D):bey s k r (some (.d y))=r:=rfl
theorem avi (s:Get) (k:Nat) (r:List (Loc×V)) (l:Loc) (o n:Nat):bey s k r (some (.Az l o n))=r:=rfl
theorem bU (s:Get) (k:Nat) (x:AE):Ag cfg orc dep s ⟨some k,none,.GU x⟩=(val cfg s x).bind fun v=>IV (some k) v:=rfl
theorem cA (s:Get) (k:Nat) (zs:List D):Ag cfg orc dep s ⟨some k,none,.alloc zs⟩=if(s (.cell ⟨dep,k,0⟩)).isSome||zs.isEmpty then none
 else some ((.slot k,.ref dep k 0)::fg dep k 0 (zs.map .d)):=rfl
theorem U_box (s:Get) (k n:Nat) (x:AE):Ag cfg orc dep s ⟨some k,none,.box n x⟩=(val cfg s x).bind fun v=>HJ dep s k n v:=by
 show At cfg dep s (some k) (.box n x)=_;simp only[At];cases val cfg s x<;>rfl
def bldV (cfg:Cfg) (s:Get) (k:Nat) (zs:List D) (ps:List (Nat×Nat×AE)):Option (List (Loc×V)):=(fe cfg s ps).bind fun l=>(EK zs l).map fun cs=>[(.slot k,.d (.agg cs))]
theorem bZ (s:Get) (k:Nat) (zs:List D) (ps:List (Nat×Nat×AE)):Ag cfg orc dep s ⟨some k,none,.build zs ps⟩=(bldV cfg (AN s (giveUp s (ps.map fun p=>p.2.2))) k zs ps).map (giveUp s (ps.map fun p=>p.2.2)++ ·):=rfl
theorem Xd (s:Get) (k:Nat) (zs:List D) (ps:List (Nat×Nat×AE)):bldV cfg s k zs ps=(fe cfg s ps).bind fun l=>(EK zs l).map fun cs=>[(.slot k,.d (.agg cs))]:=rfl
def R9 (cfg:Cfg) (s:Get) (k:Nat) (own:Bool) (z n:Nat) (zd:D) (ps:List (Nat×AE)):Option (List (Loc×V)):=(iu cfg s ps).bind fun l=>
 if zd.cells.length=z∧n≤1000∧zd.storable then
  (El z (List.replicate n zd) l).map fun es=>[(.slot k,if n=0 then .d .AB else if own then .own true z es else .d (.sl es))] else none
def Ys (cfg:Cfg) (s:Get) (k:Nat) (own:Bool) (z n:Nat) (zd:D) (ps:List (Nat×AE)):Option (List (Loc×V)):=
 match IU cfg s (some k) z n ps with
 |some u=>some u
 |none=>R9 cfg s k own z n zd ps
def vecV (cfg:Cfg) (s:Get) (k:Nat) (own:Bool) (z n:Nat) (zd:D) (ps:List (Nat×AE)):Option (List V)→Option (List (Loc×V))
 |some (y::ys)=>if z=1∧n=(y::ys).length then some [(.slot k,.vec (y::ys))] else R9 cfg s k own z n zd ps
 |_=>R9 cfg s k own z n zd ps
def gA (cfg:Cfg) (s:Get) (k:Nat) (own:Bool) (z n:Nat) (zd:D) (ps:List (Nat×AE)):Option V→Option (List (Loc×V))
 |some (.ref _ _ _)=>vecV cfg s k own z n zd ps (ku cfg s 0 ps)
 |_=>R9 cfg s k own z n zd ps
theorem U_lit (s:Get) (k:Nat) (own:Bool) (z n:Nat) (zd:D) (ps:List (Nat×AE)):Ag cfg orc dep s ⟨some k,none,.lit own z n zd ps⟩=(Ys cfg (AN s (giveUp s (ps.map fun p=>p.2))) k own z n zd ps).map (giveUp s (ps.map fun p=>p.2)++ ·):=by
 show(At cfg dep (AN s (giveUp s (ps.map fun p=>p.2))) (some k) (.lit own z n zd ps)).map (giveUp s (ps.map fun p=>p.2)++ ·)=_
 congr 1
theorem WC (s:Get) (k:Nat) (own:Bool) (z n:Nat) (zd:D):Ys cfg s k own z n zd []=R9 cfg s k own z n zd []:=rfl
theorem bse (s:Get) (k:Nat) (own:Bool) (z n:Nat) (zd:D) (j:Nat) (x:AE) (r:List (Nat×AE)):Ys cfg s k own z n zd ((j,x)::r)=gA cfg s k own z n zd ((j,x)::r) (val cfg s x):=by
 unfold Ys gA IU;cases hv:val cfg s x with
 |none=>simp only[ku,hv]
 | some v=>
  cases v with
  | ref d j' o=>
   dsimp only;unfold vecV;cases ku cfg s 0 ((j,x)::r) with
   |none=>rfl
   | some l=>cases l with
    |nil=>rfl
    | cons y ys=>
     dsimp only;by_cases h:z=1∧n=(y::ys).length
     · rw[if_pos h,if_pos h];rfl
     · rw[if_neg h,if_neg h]
  |_=>simp only[ku,hv]
theorem fZ (s:Get) (k:Nat) (own:Bool) (z n:Nat) (zd:D) (ps:List (Nat×AE)) (y:D):gA cfg s k own z n zd ps (some (.d y))=R9 cfg s k own z n zd ps:=rfl
theorem WD (s:Get) (k:Nat) (own:Bool) (z n:Nat) (zd:D) (ps:List (Nat×AE)):R9 cfg s k own z n zd ps=(iu cfg s ps).bind fun l=>
 if zd.cells.length=z∧n≤1000∧zd.storable then
  (El z (List.replicate n zd) l).map fun es=>[(.slot k,if n=0 then .d .AB else if own then .own true z es else .d (.sl es))] else none:=rfl
theorem bT (s:Get) (k z:Nat) (x:AE) (lo hi mx:Option AE):Ag cfg orc dep s ⟨some k,none,.slice z x lo hi mx⟩=(val cfg s x).bind fun v=>ki cfg s (some k) z x v lo hi mx:=rfl
theorem Xm (s:Get) (k:Nat) (x:AE) (lo hi:Option AE):Ag cfg orc dep s ⟨some k,none,.CK x lo hi⟩=match val cfg s x with
 |some (.d (.str b))=>(cm cfg s b.length lo hi).map fun(l,h)=>[(.slot k,.d (.str ((b.take h).drop l)))]
 |_=>none:=rfl
theorem Xp (s:Get) (k off:Nat) (x:AE):Ag cfg orc dep s ⟨some k,none,.AH off x⟩=match val cfg s x with
 |some (.ref d j o)=>some [(.slot k,.ref d j (o+off))]
 |some (.Az l i o)=>some [(.slot k,.Az l i (o+off))]
 |some (.Ax e o)=>some [(.slot k,.Ax e (o+off))]
 |some (.d (.ptr e))=>some [(.slot k,.Ax e off)]
 |_=>none:=rfl
theorem oU (s:Get) (k z:Nat) (x i:AE):Ag cfg orc dep s ⟨some k,none,.C6 z x i⟩=match val cfg s x,(dat cfg s i).bind D.toInt? with
 |some v,some n=>C7 s (some k) z x v n
 |_,_=>none:=rfl
theorem oT (s:Get) (k:Nat) (x i:AE):Ag cfg orc dep s ⟨some k,none,.GZ x i⟩=match val cfg s x,(dat cfg s i).bind D.toInt? with
 |some (.d (.str b)),some n=>if n<0 then none else(b[n.toNat]?).map fun c=>[(.slot k,.d (AM c))]
 |_,_=>none:=rfl
theorem U_ext (s:Get) (k:Nat) (x:AE) (i:Nat):Ag cfg orc dep s ⟨some k,none,.ext x i⟩=match val cfg s x with
 |some (.d (.tup ds))=>(ds[i]?).map fun r=>[(.slot k,.d r)]
 |_=>none:=rfl
theorem oS (s:Get) (k:Nat) (x:AE):Ag cfg orc dep s ⟨some k,none,.len true x⟩=match val cfg s x with
 |some (.d (.str b))=>some [(.slot k,.d (.int .i64 b.length))]
 |_=>none:=rfl
def V.len? :V→Option Nat
 | .d .AB=>some 0
 | .d (.sl es)=>some es.length
 | .own _ _ es=>some es.length
 | .bor _ _ n=>some n
 | .vec ys=>some ys.length
 |_=>none
theorem U_len (s:Get) (k:Nat) (x:AE):Ag cfg orc dep s ⟨some k,none,.len false x⟩=((val cfg s x).bind V.len?).map fun n=>[(.slot k,.d (.int .i64 n))]:=by
 show At cfg dep s (some k) (.len false x)=_;simp only[At];cases val cfg s x with
 |none=>rfl
 | some v=>
  simp only[Option.bind_some];unfold V.len?;split<;>first|rfl| (rename_i h1 h2 h3 h4 h5;split<;>first|rfl|exact absurd rfl h1|exact absurd rfl (h2 _)|exact absurd rfl (h3 _ _ _)|exact absurd rfl (h4 _ _ _)|exact absurd rfl (h5 _))
theorem Xn (s:Get) (k:Nat) (mx:Bool) (xs:List AE):Ag cfg orc dep s ⟨some k,none,.DT mx xs⟩=(Ef cfg s xs).bind fun l=>(minD mx l).map fun r=>[(.slot k,.d r)]:=rfl
theorem Xq (s:Get) (k z bytes:Nat) (x y:AE):Ag cfg orc dep s ⟨some k,none,.append z bytes x y⟩=match val cfg s x,(val cfg s y).bind (cont s) with
 |some v,some ys=>g7 s (some k) z bytes x v ys
 |_,_=>none:=rfl
theorem oW (s:Get) (k:Nat) (own:Bool) (f:FuncId) (args:List AE) (hc:B9 cfg (.call own f args)=none):Ag cfg orc dep s ⟨some k,none,.call own f args⟩=(BK cfg s args).bind fun vs=>IW cfg orc s (some k) own f args vs:=by
 unfold Ag;simp only[A5,Option.isNone_some,Bool.false_and,aa8,if_false,BA,if_true,hc,target];cases BK cfg s args<;>rfl
theorem sd {own:Bool} {f:FuncId} {args:List AE} (h:cfg.clip f=false):B9 cfg (.call own f args)=none:=by
 unfold B9;split
 · rename_i e;cases e;rw[h];rfl
 · rfl
theorem bY (s:Get) (k:Nat) (own:Bool) (f:FuncId) (args:List AE) (hc:cfg.clip f=false):Ag cfg orc dep s ⟨some k,none,.call own f args⟩=(BK cfg s args).bind fun vs=>IW cfg orc s (some k) own f args vs:=
 oW s k own f args (sd hc)
theorem oV (s:Get) (k:Nat) (own:Bool) (f:FuncId) (x:AE) (hc:cfg.clip f=true):Ag cfg orc dep s ⟨some k,none,.call own f [x]⟩=(val cfg s x).bind fun v=>Dv (some k) x v:=by
 unfold Ag;simp only[A5,Option.isNone_some,Bool.false_and,aa8,if_false,BA,if_true,B9,hc]
end Go.Ev
namespace Go.Ev
open Go
attribute [go_sem] lN lO go_ret ZB ZD goX_c goX_b lM WQ WO goQ_t goQ_f UA ZC HG WR WU ZF Wb Wc X5 Ud Ue br2 val_t val_c Ub bg6 W4 bta bind_some U_g gU_b gU_u U_mv U_asg oQ Yi Wn U_bin U_eqn bV U_un bX U_b2s oR bS bU cA U_box bZ U_lit bT Xm Xp oU oT U_ext oS U_len Xn Xq bhe Um Ul bgs bsr ZJ ZI bsq ZH ZG WY avj WW avi Xd WC bse fZ WD lk st BI Option.map_some Option.map_none
section
@[go_sem] theorem can_int (k:IntKind) (n:Int):(D.int k n).can=(D.int k n):=rfl
@[go_sem] theorem can_bool (b:Bool):(D.bool b).can=(D.bool b):=rfl
@[go_sem] theorem can_sl (es:List D):(D.sl es).can=(D.sl es):=rfl
@[go_sem] theorem can_nilS:D.AB.can=D.sl []:=rfl
@[go_sem] theorem canA_int (k:IntKind) (n:Int):(D.int k n).Fb=(D.int k n):=rfl
@[go_sem] theorem canA_bool (b:Bool):(D.bool b).Fb=(D.bool b):=rfl
@[go_sem] theorem canA_str (t:List UInt8):(D.str t).Fb=(D.str t):=rfl
@[go_sem] theorem canA_sl (es:List D):(D.sl es).Fb=(D.sl es):=rfl
@[go_sem] theorem canon_int (k:IntKind) (n:Int):(D.int k n).canon=(D.int k n):=rfl
@[go_sem] theorem nQ (b:Bool):(D.bool b).canon=(D.bool b):=rfl
@[go_sem] theorem canon_str (t:List UInt8):(D.str t).canon=(D.str t):=rfl
@[go_sem] theorem canon_sl (es:List D):(D.sl es).canon=(D.sl es):=rfl
@[go_sem] theorem nP:D.AB.canon=D.sl []:=rfl
@[go_sem] theorem canA_agg (cs:List D):(D.agg cs).Fb= .agg (cs.map D.can):=rfl
@[go_sem] theorem canon_agg (cs:List D):(D.agg cs).canon= .agg (cs.map D.can):=rfl
@[go_sem] theorem canon_tup (cs:List D):(D.tup cs).canon= .tup (cs.map D.Fb):=rfl
@[go_sem] theorem cells_agg (cs:List D):(D.agg cs).cells=cs:=rfl
@[go_sem] theorem cells_int (k:IntKind) (n:Int):(D.int k n).cells=[.int k n]:=rfl
@[go_sem] theorem nO (b:Bool):(D.bool b).cells=[.bool b]:=rfl
@[go_sem] theorem cells_str (b:List UInt8):(D.str b).cells=[.str b]:=rfl
@[go_sem] theorem cells_sl (es:List D):(D.sl es).cells=[.sl es]:=rfl
@[go_sem] theorem nN:D.AB.cells=[.AB]:=rfl
end
variable {cfg:Cfg} {s:Get} {dep:Nat}
@[go_sem] theorem toInt_int (k:IntKind) (n:Int):(D.int k n).toInt? =some n:=rfl
@[go_sem] theorem len_nilS:V.len? (.d .AB)=some 0:=rfl
@[go_sem] theorem len_sl (es:List D):V.len? (.d (.sl es))=some es.length:=rfl
@[go_sem] theorem len_bor (l:Loc) (o n:Nat):V.len? (.bor l o n)=some n:=rfl
@[go_sem] theorem home_d (y:D):V.home dep (.d y)= .d y:=rfl
@[go_sem] theorem home_own (nw:Bool) (z:Nat) (es:List D):V.home dep (.own nw z es)= .own false z es:=rfl
@[go_sem] theorem home_ref (d k o:Nat):V.home dep (.ref d k o)=if decide (d<dep+1)=true then .ref d k o else .AY:=rfl
@[go_sem] theorem home_clo (f:FuncId) (a b:List V):V.home dep (.clo f a b)=if V.BP (dep+1) (.clo f a b)=true then .clo f a b else .AY:=rfl
@[go_sem] theorem cL (e:List (Nat×V)):Be dep [] e=[]:=rfl
def eH (dep k:Nat) (r:List Nat) (e:List (Nat×V)):Option V→List (Nat×V)
 |some v=>(k,v.home dep)::Be dep r e
 |none=>Be dep r e
@[go_sem] theorem YS (k:Nat) (r:List Nat) (e:List (Nat×V)):Be dep (k::r) e=eH dep k r e (lk e k):=by
 unfold eH;rw[Be];cases lk e k<;>rfl
@[go_sem] theorem setK_some (k:Nat) (r:List Nat) (e:List (Nat×V)) (v:V):eH dep k r e (some v)=(k,v.home dep)::Be dep r e:=rfl
@[go_sem] theorem upTo_ref (n d k o:Nat):V.BP n (.ref d k o)=decide (d<n):=rfl
@[go_sem] theorem upTo_d (n:Nat) (x:D):V.BP n (.d x)=true:=rfl
section
variable (dst:Option Nat) (x:AE)
@[go_sem] theorem evMv_d (y:D):FD dst x (.d y)=some (AO dst (.d y)):=by cases x<;>rfl
@[go_sem] theorem evMv_ref (d k o:Nat):FD dst x (.ref d k o)=some (AO dst (.ref d k o)):=by cases x<;>rfl
@[go_sem] theorem evMv_clo (f:FuncId) (a b:List V):FD dst x (.clo f a b)=some (AO dst (.clo f a b)):=by cases x<;>rfl
@[go_sem] theorem evMv_ownF (k z:Nat) (es:List D):FD dst (.t k) (.own false z es)=some (AO dst (.bor (.slot k) 0 es.length)):=rfl
@[go_sem] theorem evMv_ownT (k z:Nat) (es:List D):FD dst (.t k) (.own true z es)=some (AO dst (.own true z es)++[(.slot k,.AY)]):=rfl
@[go_sem] theorem evAsg_d (y:D):Di s dst x (.d y)=some (AO dst (.d y)):=by cases x<;>rfl
@[go_sem] theorem evAsg_ref (d k o:Nat):Di s dst x (.ref d k o)=some (AO dst (.ref d k o)):=by cases x<;>rfl
@[go_sem] theorem evAsg_clo (f:FuncId) (a b:List V):Di s dst x (.clo f a b)=some (AO dst (.clo f a b)):=by cases x<;>rfl
@[go_sem] theorem evAsg_own (nw:Bool) (k z:Nat) (es:List D):Di s dst (.t k) (.own nw z es)=some (AO dst (.own true z es)++[(.slot k,.AY)]):=rfl
def XW (dst:Option Nat) (l:Loc) (off n:Nat):Option V→Option (List (Loc×V))
 |some (.own false z es)=>if off=0∧n=es.length then
  (if dst.map Loc.slot=some l then some [(l,.own true z es)] else some (AO dst (.own true z es)++[(l,.AY)])) else none
 |_=>none
@[go_sem] theorem evAsg_bor (l:Loc) (off n:Nat):Di s dst x (.bor l off n)=XW dst l off n (s l):=by
 cases x<;>(simp only[Di];unfold XW;rfl)
@[go_sem] theorem XV (l:Loc) (z:Nat) (es:List D):XW dst l 0 es.length (some (.own false z es))=if dst.map Loc.slot=some l then some [(l,.own true z es)] else some (AO dst (.own true z es)++[(l,.AY)]):=by
 unfold XW;simp
@[go_sem] theorem dG (z:Option Nat) (e:D) (off:Nat):j6 s dst z (.Ax e off)=(ldD z e off).map fun x=>AO dst (.d x):=rfl
def YX (dst:Option Nat) (d k off:Nat):Option V→Option (List (Loc×V))
 |some (.own false _ es)=>some (AO dst (.bor (.cell ⟨d,k,off⟩) 0 es.length))
 |some v=>if v.Ad then some (AO dst v) else none
 |none=>none
@[go_sem] theorem mP (d k off:Nat):j6 s dst none (.ref d k off)=YX dst d k off (s (.cell ⟨d,k,off⟩)):=by unfold YX;simp only[j6];rfl
@[go_sem] theorem refQ_d (d k off:Nat) (y:D):YX dst d k off (some (.d y))=some (AO dst (.d y)):=rfl
@[go_sem] theorem dF (d k off n:Nat):j6 s dst (some n) (.ref d k off)=(ez s d k off n).map fun(cs,u)=>u++AO dst (.d (.agg cs)):=rfl
@[go_sem] theorem ldD_none (e:D) (off:Nat):ldD none e off=e.cells[off]? :=rfl
@[go_sem] theorem ldD_some (z:Nat) (e:D) (off:Nat):ldD (some z) e off=if off+z≤e.cells.length then some (.agg ((e.cells.drop off).take z)) else none:=rfl
end
@[go_sem] theorem dat_def (x:AE):dat cfg s x=(val cfg s x).bind V.asD:=rfl
@[go_sem] theorem asD_d (x:D):V.asD (.d x)=some x.canon:=rfl
@[go_sem] theorem cont_sl (es:List D):cont s (.d (.sl es))=some es:=rfl
def contQ (off n:Nat):Option V→Option (List D)
 |some (.own false _ es)=>some ((es.drop off).take n)
 |_=>none
@[go_sem] theorem argsD_nil:BH s []=some ([],false):=rfl
@[go_sem] theorem oC (v:V) (r:List V):BH s (v::r)=(Dy s v).bind fun(x,a)=>(BH s r).bind fun(xs,b)=>some (x::xs,a||b):=by
 rw[BH];cases Dy s v<;>cases BH s r<;>rfl
@[go_sem] theorem argD_d (x:D):Dy s (.d x)=some (x.canon,false):=rfl
def argQ (off n:Nat):Option V→Option (D×Bool)
 |some (.own false _ es)=>some (.sl ((es.drop off).take n),true)
 |_=>none
def Em (dst:Option Nat) (own shared:Bool):Ans→Option (List (Loc×V))
 | some (r,_)=>match BF dst own shared r with
  |some u=>some u
  |none=>II dst shared r
 |none=>none
@[go_sem] theorem btd (orc:Orc) (dst:Option Nat) (own:Bool) (f:FuncId) (vs:List V):BZ orc s dst own f vs=(BH s vs).bind fun(ds,shared)=>Em dst own shared (orc f 0 (ds.map .d) []):=by
 unfold BZ Em;cases BH s vs with
 |none=>rfl
 | some p=>
  obtain⟨ds,sh⟩:=p;simp only[Option.bind_some];cases orc f 0 (ds.map .d) [] with
  |none=>rfl
  |some q=>obtain⟨r,m⟩:=q;simp only;cases BF dst own sh r<;>rfl
@[go_sem] theorem Zg (dst:Option Nat) (own shared:Bool) (r:D) (m:List (Cel×V)):Em dst own shared (some (.d r,m))=BF dst own shared (.d r):=by
 simp only[Em,II];split<;>simp_all
@[go_sem] theorem bti (dst:Option Nat) (own shared nw:Bool) (z:Nat) (es:List D) (m:List (Cel×V)):Em dst own shared (some (.own nw z es,m))=BF dst own shared (.own nw z es):=by
 simp only[Em,II];split<;>simp_all
@[go_sem] theorem btj (dst:Option Nat) (own shared:Bool) (f:FuncId) (b:List V) (m:List (Cel×V)):Em dst own shared (some (.clo f [] b,m))=if shared||(CC b).isNone then none else some (AO dst (.clo f [] b)):=rfl
def Fv (cfg:Cfg) (orc:Orc) (s:Get) (dst:Option Nat) (own:Bool) (f:FuncId) (args:List AE) (shared:Bool) (a:Ans):Option (List (Loc×V)):=
 match Em dst own shared a with
 |some u=>some u
 |none=>if shared&&a.isSome then CU cfg orc s dst own f args else none
@[go_sem] theorem callW_def (cfg:Cfg) (orc:Orc) (dst:Option Nat) (own:Bool) (f:FuncId) (args:List AE) (vs:List V):IW cfg orc s dst own f args vs=(BH s vs).bind fun(ds,shared)=>Fv cfg orc s dst own f args shared (orc f 0 (ds.map .d) []):=by
 unfold IW Fv;rw[btd];unfold Ck;cases BH s vs with
 |none=>rfl
 | some p=>
  obtain⟨ds,sh⟩:=p;simp only[Option.bind_some];cases sh
  · cases Em dst own false (orc f 0 (ds.map .d) [])<;>rfl
  · dsimp only
    generalize orc f 0 (ds.map .d) []=A;cases Em dst own true A<;>cases A<;>rfl
@[go_sem] theorem callX_d (cfg:Cfg) (orc:Orc) (dst:Option Nat) (own shared:Bool) (f:FuncId) (args:List AE) (r:D) (m:List (Cel×V)):Fv cfg orc s dst own f args shared (some (.d r,m))=if shared&& !r.plain then CU cfg orc s dst own f args else some (AO dst (.d (if own then r else r.canon))):=by
 unfold Fv;rw[Zg];simp only[BF,Option.isSome_some,Bool.and_true];cases h:(shared&& !r.plain)
 · simp
 · simp only[if_true]
   have:shared=true:=by cases shared<;>simp_all
   simp[this]
@[go_sem] theorem callX_own (cfg:Cfg) (orc:Orc) (dst:Option Nat) (own shared:Bool) (f:FuncId) (args:List AE) (nw:Bool) (z:Nat) (es:List D) (m:List (Cel×V)):Fv cfg orc s dst own f args shared (some (.own nw z es,m))=if shared&& !D.Co es then CU cfg orc s dst own f args else some (AO dst (if own then .own true z es else .d (.sl es))):=by
 unfold Fv;rw[bti];simp only[BF,Option.isSome_some,Bool.and_true];cases h:(shared&& !D.Co es)
 · simp
 · simp only[if_true]
   have:shared=true:=by cases shared<;>simp_all
   simp[this]
@[go_sem] theorem callX_clo (cfg:Cfg) (orc:Orc) (dst:Option Nat) (own shared:Bool) (f f':FuncId) (args:List AE) (b:List V) (m:List (Cel×V)):Fv cfg orc s dst own f args shared (some (.clo f' [] b,m))=if shared then CU cfg orc s dst own f args else if(CC b).isNone then none else some (AO dst (.clo f' [] b)):=by
 unfold Fv;rw[btj];cases shared
 · simp only[Bool.false_or,Bool.false_and,aa8,if_false]
   cases CC b<;>simp
 · simp
@[go_sem] theorem allD_nil:CC []=some []:=rfl
@[go_sem] theorem allD_cons (x:D) (r:List V):CC (.d x::r)=(CC r).map (x:: ·):=rfl
@[go_sem] theorem landed_d (dst:Option Nat) (own shared:Bool) (r:D):BF dst own shared (.d r)=if shared&& !r.plain then none else some (AO dst (.d (if own then r else r.canon))):=rfl
@[go_sem] theorem gC (dst:Option Nat) (own shared nw:Bool) (z:Nat) (es:List D):BF dst own shared (.own nw z es)=if shared&& !D.Co es then none else some (AO dst (if own then .own true z es else .d (.sl es))):=rfl
attribute [go_sem] D.plain D.Co
@[go_sem] theorem finR_n (res:List Dm) (t:St):BQ dep res .normal t=(Ca dep t.get res).bind fun v=>Cp dep v t.mem:=rfl
@[go_sem] theorem finR_r (res:List Dm) (t:St):BQ dep res .ret t=(Ca dep t.get res).bind fun v=>Cp dep v t.mem:=rfl
@[go_sem] theorem eP (r:Dm):Ca dep s [r]=FQ dep s r:=rfl
@[go_sem] theorem eO (p q:Dm) (r:List Dm):Ca dep s (p::q::r)=(GN dep s (p::q::r)).map fun ds=> .d (.tup ds):=rfl
@[go_sem] theorem eQ:Ca dep s []=some (.d (.tup [])):=rfl
@[go_sem] theorem resD_nil:GN dep s []=some []:=rfl
@[go_sem] theorem resD_cons (r:Dm) (rs:List Dm):GN dep s (r::rs)=((FQ dep s r).bind Cd).bind fun d=>(GN dep s rs).bind fun ds=>some (d::ds):=by
 rw[GN];cases(FQ dep s r).bind Cd<;>cases GN dep s rs<;>rfl
def YV:Option V→Option V
 |some (.own _ z es)=>some (.own false z es)
 |some v=>if v.Ad then some v else none
 |none=>none
@[go_sem] theorem resV_t (k:Nat):FQ dep s (.t k)=YV (s (.slot k)):=by
 simp only[FQ];unfold YV;rfl
@[go_sem] theorem resQ_d (x:D):YV (some (.d x))=some (.d x):=rfl
@[go_sem] theorem resQ_own (nw:Bool) (z:Nat) (es:List D):YV (some (.own nw z es))=some (.own false z es):=rfl
@[go_sem] theorem resCell_d (x:D):Cd (.d x)=some x.canon:=rfl
@[go_sem] theorem cN (nw:Bool) (z:Nat) (es:List D):Cd (.own nw z es)=some (.sl es):=rfl
@[go_sem] theorem gB (v:V) (m:List (Cel×V)):Cp dep v m=if v.BP dep then some (v,Ap dep m) else none:=rfl
@[go_sem] theorem Uf (n:Nat) (nw:Bool) (z:Nat) (es:List D):V.BP n (.own nw z es)=true:=rfl
attribute [go_sem] Ap entry
@[go_sem] theorem bin_ii (op:BinOp) (k k':IntKind) (a b:Int):D.bin op (.int k a) (.int k' b)=a6 op k a k' b:=rfl
@[go_sem] theorem bin_ss (op:BinOp) (a b:List UInt8):D.bin op (.str a) (.str b)=tg op a b:=rfl
section
variable (k:IntKind) (a b:Int)
@[go_sem] theorem ib_add:a6 .add k a k b=some (.int k (k.wrap (a+b))):=by simp[a6]
@[go_sem] theorem ib_sub:a6 .sub k a k b=some (.int k (k.wrap (a-b))):=by simp[a6]
@[go_sem] theorem ib_mul:a6 .mul k a k b=some (.int k (k.wrap (a*b))):=by simp[a6]
@[go_sem] theorem ib_eql:a6 .eql k a k b=some (.bool (a==b)):=by simp[a6]
@[go_sem] theorem ib_neq:a6 .neq k a k b=some (.bool (a !=b)):=by simp[a6]
@[go_sem] theorem ib_lss:a6 .lss k a k b=some (.bool (decide (a<b))):=by simp[a6]
@[go_sem] theorem ib_leq:a6 .leq k a k b=some (.bool (decide (a≤b))):=by simp[a6]
@[go_sem] theorem ib_gtr:a6 .gtr k a k b=some (.bool (decide (a>b))):=by simp[a6]
@[go_sem] theorem ib_geq:a6 .geq k a k b=some (.bool (decide (a≥b))):=by simp[a6]
end
theorem i6 (k:IntKind) (a:Int) {b:Int} (h:b≠0):a6 .quo k a k b=some (.int k (k.wrap (a.tdiv b))):=by simp[a6,h]
theorem gr (k:IntKind) (a:Int) {b:Int} (h:b≠0):a6 .rem k a k b=some (.int k (a.tmod b)):=by simp[a6,h]
def G5 (k:IntKind) (a b:Int):Int:=k.wrap (BitVec.ofInt k.bits a &&& BitVec.ofInt k.bits b).toNat
def orI (k:IntKind) (a b:Int):Int:=k.wrap (BitVec.ofInt k.bits a ||| BitVec.ofInt k.bits b).toNat
def GD (k:IntKind) (a b:Int):Int:=k.wrap (BitVec.ofInt k.bits a ^^^ BitVec.ofInt k.bits b).toNat
def GJ (k:IntKind) (a b:Int):Int:=k.wrap (a*2 ^ (min b.toNat k.bits))
def GI (k:IntKind) (a b:Int):Int:=a.fdiv (2 ^ (min b.toNat k.bits))
theorem f7 (k k':IntKind) (a:Int) {b:Int} (h:0≤b):a6 .shl k a k' b=some (.int k (GJ k a b)):=by simp[a6,GJ];omega
theorem bg (k k':IntKind) (a:Int) {b:Int} (h:0≤b):a6 .shr k a k' b=some (.int k (GI k a b)):=by simp[a6,GI];omega
@[go_sem] theorem ib_and (k:IntKind) (a b:Int):a6 .and k a k b=some (.int k (G5 k a b)):=by simp[a6,G5]
@[go_sem] theorem ib_or (k:IntKind) (a b:Int):a6 .or k a k b=some (.int k (orI k a b)):=by simp[a6,orI]
@[go_sem] theorem ib_xor (k:IntKind) (a b:Int):a6 .xor k a k b=some (.int k (GD k a b)):=by simp[a6,GD]
@[go_sem] theorem un_not (b:Bool):D.un .not (.bool b)=some (.bool !b):=rfl
@[go_sem] theorem un_neg (k:IntKind) (n:Int):D.un .neg (.int k n)=some (.int k (k.wrap (0-n))):=rfl
section
variable (a b:List UInt8)
@[go_sem] theorem sb_eql:tg .eql a b=some (.bool (a==b)):=rfl
@[go_sem] theorem sb_neq:tg .neq a b=some (.bool !(a==b)):=rfl
end
theorem au {n:Int} (h1: -9223372036854775808≤n) (h2:n<9223372036854775808):IntKind.i64.wrap n=n:=by
 simp[IntKind.wrap,IntKind.signed,IntKind.bits,BitVec.toInt_ofInt,Int.bmod_def];omega
theorem jh {n:Int} (h1:0≤n) (h2:n<18446744073709551616):IntKind.u64.wrap n=n:=by
 simp[IntKind.wrap,IntKind.signed,IntKind.bits];omega
theorem bhu (k:IntKind) (a:Int) (n:Nat) (h:n≤k.bits):GI k a n=a / 2 ^ n:=by
 unfold GI;rw[abt,Nat.min_eq_left h,Int.fdiv_eq_ediv_of_nonneg _ (Int.le_of_lt (Int.pow_pos aa4))]
theorem aq (dst:Option Nat) (z:Nat) (x:AE) (es:List D) {n:Int} (h:0≤n):C7 s dst z x (.d (.sl es)) n=(es[n.toNat]?).bind fun e=>if e.cells.length=z then some (AO dst (.Ax e 0)) else none:=by
 unfold C7;rw[if_neg aa1]
@[go_sem] theorem bs1 (dst:Option Nat) (z:Nat) (x:AE) (es:List D) (i:Nat):C7 s dst z x (.d (.sl es)) (i:Int)=(es[i]?).bind fun e=>if e.cells.length=z then some (AO dst (.Ax e 0)) else none:=by
 rw[aq _ _ _ _ aa1];simp
attribute [go_sem] abu List.map_cons List.map_nil List.length_cons List.length_nil abl List.getElem?_cons_zero List.getElem?_cons_succ
end Go.Ev
namespace Go.Ev
open Go Go.RowKit
abbrev DD:Nat→Prop:=fun _=>True
def Rds (w:World) (cs:List Value) (xs:List D):Prop:=
 cs.length=xs.length∧(∀ c∈xs,c.AW=true)∧∀ (i:Nat) v c,cs[i]? =some v→xs[i]? =some c→Rd DD w v c
def IsF (P:Program) (w:World) (n:Nat) (t:TypeId) (G:List D→Prop):Prop:=
 ∀ (H:Type) (enc:TypeId×Value→H) (base:Nat) (spare:Nat→Bool) (held:Bool) (cs:List Value) (x:DataW H×List MemPlace),DataW.trod enc P w base spare held n t cs=some x→∃ xs,Rds w cs xs∧G xs
variable {P:Program} {w:World} {n:Nat} {t:TypeId}
theorem Rds.one {v:Value} {d:D} (h:Rd DD w v d) (hc:d.AW=true):Rds w [v] [d]:=
 ⟨rfl,by simpa using hc,fun i v' c h1 h2=>by
  cases i with
  |zero=>simp at h1 h2;subst h1;subst h2;exact h
  |succ i=>simp at h1⟩
theorem IsF.bool (ht:P.underlying t=some .bool):IsF P w n t fun xs=>∃ b,xs=[.bool b]:=by
 intro H enc base spare held cs x h;obtain⟨b,rfl,_⟩:=DataW.trod_bool ht h;exact⟨_,Rds.one (.bool b) rfl,b,rfl⟩
theorem IsF.int {k:IntKind} (ht:P.underlying t=some (.int k)):IsF P w n t fun xs=>∃ m,xs=[.int k m]∧(Lit.int k m).wf=true:=by
 intro H enc base spare held cs x h;obtain⟨m,rfl,_,hw⟩:=DataW.trod_int ht h;exact⟨_,Rds.one (.int k m) rfl,m,rfl,hw⟩
theorem IsF.str (ht:P.underlying t=some .string):IsF P w n t fun xs=>∃ s:List UInt8,xs=[.str s]∧s.length≤maxLen:=by
 intro H enc base spare held cs x h;obtain⟨s,rfl,_,hw⟩:=DataW.trod_string ht h;have e:(⟨s.data.toList.toArray⟩:ByteArray)=s:=by cases s;rfl
 have hl:s.data.toList.length=s.size:=by rw[ByteArray.size,Array.length_toList]
 refine⟨[.str s.data.toList],Rds.one ?_ rfl,_,rfl,by rw[hl];exact hw⟩
 have:=Rd.str (F:=DD) (w:=w) s.data.toList
 rwa [e] at this
theorem bsc {α β:Type} {f:α→Option β}:∀ {l:List α} {r:List β},l.mapM f=some r→l.length=r.length∧∀ (i:Nat) x y,l[i]? =some x→r[i]? =some y→f x=some y
 | [],r,h=>by cases h;simp
 | a::l,r,h=>by
  rw[List.mapM_cons] at h;cases hf:f a with
  |none=>rw[hf] at h;cases h
  | some b=>
   cases hl:l.mapM f with
   |none=>rw[hf,hl] at h;cases h
   | some bs=>
    rw[hf,hl] at h;cases h;obtain⟨g1,g2⟩:=bsc hl;refine⟨by simp[g1],fun i x y h1 h2=> ?_⟩
    cases i with
    |zero=>simp at h1 h2;subst h1;subst h2;exact hf
    |succ i=>exact g2 i x y (by simpa using h1) (by simpa using h2)
theorem W9 {base:Nat} {a:Addr} {m:Nat} {cs:List Value} (h:w.cells? base a m=some cs):cs.length=m∧∀ (j:Nat) v,cs[j]? =some v→w.cell? (a.add j)=some v:=by
 unfold World.cells? at h;split at h
 · obtain⟨g1,g2⟩:=bsc h
   refine⟨by simpa using g1.symm,fun j v hj=> ?_⟩
   have hlt:j<(List.range m).length:=by rw[g1];exact(abg.1 hj).1
   exact g2 j j v (by rw[abd hlt];simp) hj
 · cases h
theorem IsF.slice {e:TypeId} {G:List D→Prop} (ht:P.underlying t=some (.slice e)) (hz:P.cellsOf e≠0) (he:∀ m,m<n→IsF P w m e G) (mk:List D→D) (hmk:∀ xs,G xs→xs.length=P.cellsOf e→(mk xs).cells=xs):
   IsF P w n t fun xs=>∃ es:List D,xs=[.sl es]∧es.length≤maxLen∧∀ d∈es,∃ ys,G ys∧ys.length=P.cellsOf e∧d=mk ys:=by
 intro H enc base spare held cs x h;rcases DataW.trod_slice ht h with⟨rfl,_⟩|⟨a,len,cap,elems,rest,m,rfl,rfl,_,_,hl,hm,hlen,hel,_,_⟩
 · exact⟨_,Rds.one (.slA _ _) rfl,[],rfl,by simp,by simp⟩
 · have key:∀ i,i<len→∃ cs',∃ xs:List D,(cs'.length=P.cellsOf e∧∀ (j:Nat) v,cs'[j]? =some v→w.cell? ((a.add (i*P.cellsOf e)).add j)=some v)∧Rds w cs' xs∧G xs:=fun i hi=>by
     have h1:=hel i hi;rw[abd aa1,abj] at h1;obtain⟨cs',h2,h3⟩:=h1;obtain⟨xs,h4,h5⟩:=he m (Nat.lt_succ_self m) H enc base spare held cs' _ h3;exact⟨cs',xs,W9 h2,h4,h5⟩
   by_cases h0:len=0
   · subst h0
     exact⟨_,Rds.one (.slA _ cap) rfl,[],rfl,by simp,by simp⟩
   · obtain⟨b,o,rfl⟩:∃ b o,a=ad3 b o:=by
       obtain⟨cs',xs,⟨h1,h2⟩,h3,h4⟩:=key 0 aa1;have hlt:0<cs'.length:=aa1;have:=h2 0 _ (abd hlt);rw[Nat.zero_mul] at this;have:=World.cell?_spot this;obtain⟨b,o,sp⟩:=a;cases sp with
       |none=>exact⟨b,o,rfl⟩
       |some s=>simp[Addr.add] at this
     have hch:∀ i,∃ xs:List D,i<len→G xs∧xs.length=P.cellsOf e∧(∀ c∈xs,c.AW=true)∧∀ (j:Nat) c,xs[j]? =some c→∃ v,w.cell? (ad3 b (o+i*P.cellsOf e+j))=some v∧Rd DD w v c:=fun i=>by
       by_cases hi:i<len
       · obtain⟨cs',xs,⟨h1,h2⟩,⟨h3,h4,h5⟩,h6⟩:=key i hi
         refine⟨xs,fun _=>⟨h6,by omega,h4,fun j c hj=> ?_⟩⟩
         have hlt:j<cs'.length:=by rw[h3];exact(abg.1 hj).1
         refine⟨cs'[j],?_,h5 j _ c (abd hlt) hj⟩;have:=h2 j _ (abd hlt);rw[ed,ed] at this;exact this
       · exact⟨[],fun h=>absurd h hi⟩
     let es:List D:=(List.range len).map fun i=>mk (hch i).choose
     have hes:∀ (i:Nat) d,es[i]? =some d→i<len∧d=mk (hch i).choose:=fun i d hd=>by
       simp only[es,abu,aa6] at hd;obtain⟨j,h1,h2⟩:=hd;have hlt:=(abg.1 h1).1;rw[abd hlt] at h1;simp at h1 hlt;subst h1;exact⟨hlt,h2.symm⟩
     have hcell:∀ i,i<len→(mk (hch i).choose).cells=(hch i).choose:=fun i hi=>hmk _ ((hch i).choose_spec hi).1 ((hch i).choose_spec hi).2.1
     refine⟨[.sl es],Rds.one ?_ rfl,es,rfl,by simp[es];omega,fun d hd=> ?_⟩
     · have:=Rd.Sg (F:=DD) (w:=w) (b:=b) (o:=o) (cap:=cap) (z:=P.cellsOf e) (es:=es) (by simp[es];omega) (fun d hd=> ?_) (fun i d hi=> ?_)
       · simpa[es] using this
       · obtain⟨i,hi⟩:=ab5 hd
         obtain⟨h1,rfl⟩:=hes i d hi;rw[hcell i h1];exact((hch i).choose_spec h1).2.1
       · obtain⟨h1,rfl⟩:=hes i d hi
         have hs:=(hch i).choose_spec h1;refine⟨by rw[hcell i h1];exact hs.2.2.1,fun j c hj=> ?_⟩
         rw[hcell i h1] at hj;obtain⟨v,q1,q2⟩:=hs.2.2.2 j c hj;exact⟨v,trivial,q1,q2⟩
     · obtain⟨i,hi⟩:=ab5 hd
       obtain⟨h1,rfl⟩:=hes i d hi;exact⟨_,((hch i).choose_spec h1).1,((hch i).choose_spec h1).2.1,rfl⟩
end Go.Ev
namespace Go.Ev
open Go Go.RowKit
variable {P:Program} {cfg:Cfg}
def Cx.none:Cx:=⟨fun _=>Option.none,fun _ _=>0,0⟩
theorem avs {ds:List D} {args:Array Value} {w:World} (hsz:args.size=ds.length) (hrd:∀ (i:Nat) v d,args[i]? =some v→ds[i]? =some d→Rd DD w v d)
   (hg:∀ n e,cfg.IL n=some e→Cw DD w n 0 e) (hgo:∀ n ob,cfg.B1 n=some ob→Bo w n ob):Enters cfg Cx.none (ds.map .d) [] args w:=by
 have hF:AK Cx.none=DD:=by funext b;simp[AK,Cx.none]
 refine⟨⟨rfl,.nil rfl,fun b h=>absurd rfl h,fun l v h=> ?_,fun k v h=>(by cases h),fun c v h=>(by cases h),fun n e h=>by rw[hF];exact hg n e h,fun b h=> ?_,fun n ob h=>⟨rfl,hgo n ob h⟩⟩,by simpa using hsz,fun i v y h1 h2=> ?_⟩
 · cases l<;>cases h
 · rcases h with h|⟨_,h⟩<;>cases h
 · rw[abu] at h2
   cases hd:ds[i]? with
   |none=>rw[hd] at h2;cases h2
   |some d=>rw[hd] at h2;cases h2;exact RdV.d _ _ _ (by rw[hF];exact hrd i v d h1 hd)
theorem apd (hm:P.follows .mixedOrders=true) (hC:CF P cfg) (hF:vu P cfg) (hX:Gt P cfg) {f:FuncId} {F:Func} {c:Code} (hf:P.funcs[f]? =some F) (hname:(F.name=="runtime.NumGoroutine")=false) (hb:F.body=some c)
   {ds:List D} {y:D} (h:evL cfg f 0 (ds.map .d) []=some (.d y,[])) {args:Array Value} {w:World} (hsz:args.size=ds.length) (hrd:∀ (i:Nat) v d,args[i]? =some v→ds[i]? =some d→Rd DD w v d)
   (hg:∀ n e,cfg.IL n=some e→Cw DD w n 0 e) (hgo:∀ n ob,cfg.B1 n=some ob→Bo w n ob):Calls P f args w fun e w'=>∃ v,e= .returned v∧Rd DD w' v y∧Below w.heap.size w w':=by
 have hd:=mQ hm hC hF hX f 0 _ [] _ _ h Cx.none w args (avs hsz hrd hg hgo);rcases hd with⟨v,w',h1,_⟩|⟨_,h2⟩
 · rw[jx hf hname hb] at h1
   cases h1
 · refine h2.mono fun e w' he=> ?_
   cases e with
   | returned v=>
    obtain⟨x',L⟩:=he;have hr:Rd (AK x') w' v y:=RdV.Av L.res;exact⟨v,rfl,hr.mono fun b o u _ h=>⟨trivial,h⟩,L.fr.io.1,L.fr.io.2.1,L.fr.io.2.2,L.fr.size,fun k hk=>(L.fr.same k hk (.inl rfl)).1⟩
   |panicked c=>exact he.elim
   |outgrown=>exact he.elim
theorem bgy (hm:P.follows .mixedOrders=true) (hC:CF P cfg) (hF:vu P cfg) (hX:Gt P cfg) {f:FuncId} {F:Func} {c:Code} (hf:P.funcs[f]? =some F) (hname:(F.name=="runtime.NumGoroutine")=false) (hb:F.body=some c)
  {ds:List D} (h:evL cfg f 0 (ds.map .d) []=some (.d (.bool true),[])) {args:Array Value} {w:World} (hsz:args.size=ds.length) (hrd:∀ (i:Nat) v d,args[i]? =some v→ds[i]? =some d→Rd DD w v d)
  (hg:∀ n e,cfg.IL n=some e→Cw DD w n 0 e) (hgo:∀ n ob,cfg.B1 n=some ob→Bo w n ob):Calls P f args w fun e w'=>e= .returned (.bool true)∧Below w.heap.size w w':=
 (apd hm hC hF hX hf hname hb h hsz hrd hg hgo).mono fun e w' ⟨v,h1,h2,h3⟩=>⟨by rw[h1,h2.Cm],h3⟩
theorem ec {n:Nat} {f:FuncId} {d:Nat} {vs:List V} {m:List (Cel×V)} {r} (h:Bn cfg n f d vs m=some r):evL cfg f d vs m=some r:=jd.2 ⟨n,h⟩
def Entry (P:Program) (p:FuncId×AP):Prop:=∃ F ad c,P.funcs[p.1]? =some F∧(F.name=="runtime.NumGoroutine")=false∧F.body=some c∧AQ P ad F=some p.2
def Entries (P:Program) (l:List (FuncId×AP)):Prop:=∀ p∈l,Entry P p
theorem Entries.nil:Entries P []:=fun _ h=>by cases h
theorem Entries.cons {p:FuncId×AP} {l:List (FuncId×AP)} (h:Entry P p) (hl:Entries P l):Entries P (p::l):=fun q hq=>by
 rcases abr.1 hq with rfl|hq
 · exact h
 · exact hl q hq
theorem Entry.mk' {F:Func} {f:FuncId} {fn:AP} {ad:AG} {c:Code} (hf:P.funcs[f]? =some F) (hb:F.body=some c) (hn:(F.name=="runtime.NumGoroutine")=false) (hk:AQ P ad F=some fn):Entry P (f,fn):=⟨F,ad,c,hf,hn,hb,hk⟩
theorem bg0 {F:Func} {fn:AP} {ad:AG} (hk:AQ P ad F=some fn):∃ c,F.body=some c:=by
 unfold AQ at hk;split at hk
 · exact⟨_,‹_›⟩
 · cases hk
theorem Entry.of {F:Func} {f:FuncId} {fn:AP} {ad:AG} (hf:P.funcs[f]? =some F) (hn:(F.name=="runtime.NumGoroutine")=false) (hk:AQ P ad F=some fn):Entry P (f,fn):=by
 obtain⟨c,hb⟩:=bg0 hk;exact .mk' hf hb hn hk
end Go.Ev
namespace Go.Ev
open Go
def B2:Nat→Nat→List UInt8
 |0,_=>[]
 |n+1,u=>if u<10 then[UInt8.ofNat (48+u)] else B2 n (u / 10)++[UInt8.ofNat (48+u % 10)]
theorem bs8:∀ (n u:Nat),u<10 ^ (n+1)→B2 (n+1) u=Lib.decDigits u
 | 0,u,h=>by
  rw[B2,Lib.decDigits];simp at h;rw[if_pos h,dif_pos h]
 | n+1,u,h=>by
  rw[B2,Lib.decDigits];by_cases h1:u<10
  · rw[if_pos h1,dif_pos h1]
  · rw[if_neg h1,dif_neg h1,bs8 n (u / 10) (by rw[Nat.pow_succ] at h;omega)]
def cS (n:Int):List UInt8:=if n<0 then 45::B2 20 n.natAbs else B2 20 n.toNat
def xItoa:List D→Option V
 | [.int .i64 n]=>if -9223372036854775808≤n∧n≤9223372036854775807 then some (.d (.str (cS n))) else none
 |_=>none
def qj:List D→Option V
 | [.str s,.int .i64 n]=>if 0≤n∧n≤1000∧s.length≤1000 then some (.d (.str (Lib.repeatL s n.toNat))) else none
 |_=>none
def DG (P:Program) (cfg:Cfg) (f:FuncId) (g:List D→Option V):Prop:=
 ∀ ds r,g ds=some r→∀ (F:Nat→Prop) (args:Array Value) (w:World),args.size=ds.length→(∀ (i:Nat) v d,args[i]? =some v→ds[i]? =some d→Rd F w v d)→(∀ n e,cfg.IL n=some e→Cw F w n 0 e)→(∀ n ob,cfg.B1 n=some ob→Bo w n ob)→
  Fk P f args w fun v w'=>w.heap.size≤w'.heap.size∧(∀ b,b<w.heap.size→w'.heap[b]? =w.heap[b]?)∧B3 w w'∧
   match r with
   | .own _ z es=>∃ b o cap,v= .slice (some (ad3 b o)) es.length cap∧w.heap.size≤b∧b<w'.heap.size∧es.length≤cap∧D2 w' b∧Arr (fun b'=>(F b'∧b'<w.heap.size)∨(w.heap.size≤b'∧b'≠b)) w' b o cap z es
   | .d y=>Rd (fun b'=>F b'∨w.heap.size≤b') w' v y
   | .clo g [] ys=>∃ (vb:List Value) (es:List D),ys=es.map .d∧v= .func (.func g) #[] vb.toArray∧vb.length=es.length∧∀ (i:Nat) u e,vb[i]? =some u→es[i]? =some e→Rd (fun b'=>F b'∨w.heap.size≤b') w' u e
   |_=>False
theorem Wl {P:Program} {cfg:Cfg} (h:∀ f g,cfg.ext f=some g→DG P cfg f g):Gt P cfg:=fun f g hf ds r hr F args w h1 h2 h3 h4=>h f g hf ds r hr F args w h1 h2 h3 h4
open Go.RowKit in
theorem da {P:Program} {cfg:Cfg} {f:FuncId} {fn:Func} {c:Code} (hf:P.funcs[f]? =some fn) (hname:(fn.name=="runtime.NumGoroutine")=false) (hb:fn.body=some c) {g:List D→Option V}
  (h:∀ ds r,g ds=some r→∃ y,r= .d y∧y.plain=true∧∀ (F:Nat→Prop) (args:Array Value) (w:World),args.size=ds.length→(∀ (i:Nat) v d,args[i]? =some v→ds[i]? =some d→Rd F w v d)→(∀ n ob,cfg.B1 n=some ob→Bo w n ob)→
   Calls P f args w fun e w'=>∃ v,e= .returned v∧Rd F w' v y∧Below w.heap.size w w'):DG P cfg f g:=by
 intro ds r hr F args w h1 h2 _ h4;obtain⟨y,rfl,hy,hc⟩:=h ds r hr;refine .inr ⟨jx hf hname hb args w,(hc F args w h1 h2 h4).mono fun e w' ⟨v,e1,e2,e3⟩=> ?_⟩
 subst e1;exact⟨e3.size,fun b hb=>e3.block b hb,⟨e3.os,e3.tape,e3.output⟩,e2.plain hy⟩
theorem bfo {F:Nat→Prop} {w:World} {args:Array Value} {d:D} (h1:args.size=[d].length) (h2:∀ (i:Nat) v d',args[i]? =some v→[d][i]? =some d'→Rd F w v d'):∃ v,args= #[v]∧Rd F w v d:=by
 obtain⟨l⟩:=args
 match l,h1 with
 | [v],_=>exact⟨v,rfl,h2 0 v d rfl rfl⟩
theorem qf {F:Nat→Prop} {w:World} {args:Array Value} {d e:D} (h1:args.size=[d,e].length) (h2:∀ (i:Nat) v d',args[i]? =some v→[d,e][i]? =some d'→Rd F w v d'):∃ v u,args= #[v,u]∧Rd F w v d∧Rd F w u e:=by
 obtain⟨l⟩:=args
 match l,h1 with
 | [v,u],_=>exact⟨v,u,rfl,h2 0 v d rfl rfl,h2 1 u e rfl rfl⟩
open Go.RowKit in
theorem aox {P:Program} {cfg:Cfg} {f:FuncId} {fn:Func} {c:Code} (hf:P.funcs[f]? =some fn) (hname:(fn.name=="runtime.NumGoroutine")=false) (hb:fn.body=some c)
   (h:∀ (s:ByteArray) (n:Nat) (w:World),n≤9223372036854775807→s.size*n≤140737488355328→
     Calls P f #[.string s,.int .i64 n] w fun e w'=>e= .returned (.string ⟨(Lib.repeatL s.data.toList n).toArray⟩)∧Below w.heap.size w w'):DG P cfg f qj:=by
 refine da hf hname hb fun ds r hr=> ?_
 unfold qj at hr;split at hr
 · rename_i s n
   split at hr
   · rename_i hn
     cases hr;refine⟨_,rfl,rfl,fun F args w h1 h2 h4=> ?_⟩
     obtain⟨v,u,rfl,hv,hu⟩:=qf h1 h2;cases hv.B7;cases hu.BM;obtain⟨m,rfl⟩:∃ m:Nat,n=m:=⟨n.toNat,by omega⟩
     refine(h ⟨s.toArray⟩ m w aa1 ?_).mono fun e w' ⟨e1,e2⟩=>⟨_,e1,?_,e2⟩
     · have:(ByteArray.mk s.toArray).size=s.length:=by simp[ByteArray.size]
       rw[this];have:s.length*m≤1000*1000:=Nat.mul_le_mul hn.2.2 aa1;omega
     · simpa using Rd.str (F:=F) (w:=w') (Lib.repeatL s m)
   · cases hr
 · cases hr
end Go.Ev
namespace Go.Ev
open Go
variable (cfg:Cfg)
@[go_sem] theorem eqn_dd (c:Sc) (a b:D):V.eqn cfg c (.d a) (.d b)=a.eqn cfg c b:=by cases c<;>rfl
@[go_sem] theorem cg (a b:Bool):D.eqn cfg .bool (.bool a) (.bool b)=some (a==b):=rfl
end Go.Ev
namespace Go.Ev
open Go
variable (cfg:Cfg) (s:Get)
@[go_sem] theorem minD_max (k k':IntKind) (a b:Int):minD true [.int k a,.int k' b]=some (.int k (max a b)):=by
 show some (D.int k (if b>a then b else a))=_
 congr 2
 split<;>omega
@[go_sem] theorem minD_min (k k':IntKind) (a b:Int):minD false [.int k a,.int k' b]=some (.int k (min a b)):=by
 show some (D.int k (if b<a then b else a))=_
 congr 2
 split<;>omega
@[go_sem] theorem fT:iu cfg s []=some []:=rfl
@[go_sem] theorem cP (i:Nat) (x:AE) (r:List (Nat×AE)):iu cfg s ((i,x)::r)=(dat cfg s x).bind fun d=>(iu cfg s r).map fun ds=>(i,d)::ds:=by
 rw[iu];cases dat cfg s x<;>cases iu cfg s r<;>rfl
@[go_sem] theorem fS:fe cfg s []=some []:=rfl
@[go_sem] theorem cO (o n:Nat) (x:AE) (r:List (Nat×Nat×AE)):fe cfg s ((o,n,x)::r)=(dat cfg s x).bind fun d=>(fe cfg s r).map fun ds=>(o,n,d)::ds:=by
 rw[fe];cases dat cfg s x<;>cases fe cfg s r<;>rfl
@[go_sem] theorem fillE_nil (z:Nat) (es:List D):El z es []=some es:=rfl
@[go_sem] theorem mL (z i:Nat) (es:List D) (x:D) (r:List (Nat×D)):El z es ((i,x)::r)=if x.cells.length=z∧i<es.length∧x.storable=true then El z (es.set i x) r else none:=rfl
@[go_sem] theorem fillD_nil (cs:List D):EK cs []=some cs:=rfl
@[go_sem] theorem mM (off size:Nat) (cs:List D) (x:D) (r:List (Nat×Nat×D)):EK cs ((off,size,x)::r)=if x.cells.length=size∧off+size≤cs.length∧x.storable=true then EK (setCells cs off x.cells) r else none:=rfl
@[go_sem] theorem aao (k:IntKind) (n:Int):(D.int k n).storable=true:=rfl
@[go_sem] theorem yd (b:Bool):(D.bool b).storable=true:=rfl
@[go_sem] theorem aan (b:List UInt8):(D.str b).storable=true:=rfl
attribute [go_sem] List.length_replicate List.replicate_succ List.replicate_zero List.set_cons_zero List.set_cons_succ List.length_nil
@[go_sem] theorem dP:di []=some []:=rfl
@[go_sem] theorem apg (n:Int) (r:List D):di (.int .u8 n::r)=(di r).map fun b=>UInt8.ofNat n.toNat::b:=by
 rw[di];cases di r<;>rfl
def sbH (len:Nat):Option Int→Option (Nat×Nat)
 |some n=>if 0≤n∧n≤len then some (0,n.toNat) else none
 |none=>none
def sbL (len:Nat):Option Int→Option (Nat×Nat)
 |some n=>if 0≤n∧n≤len then some (n.toNat,len) else none
 |none=>none
def sbB (len:Nat):Option Int→Option Int→Option (Nat×Nat)
 |some m,some n=>if 0≤n∧n≤len∧0≤m∧m≤n then some (m.toNat,n.toNat) else none
 |_,_=>none
@[go_sem] theorem sb_hi (len:Nat) (x:AE):cm cfg s len none (some x)=sbH len ((dat cfg s x).bind D.toInt?):=by
 unfold cm sbH;simp only;cases(dat cfg s x).bind D.toInt? with
 |none=>rfl
 |some n=>simp only;by_cases h:0≤n∧n≤(len:Int)<;>simp[h]
@[go_sem] theorem sb_lo (len:Nat) (x:AE):cm cfg s len (some x) none=sbL len ((dat cfg s x).bind D.toInt?):=by
 unfold cm sbL;simp only;cases(dat cfg s x).bind D.toInt? <;>rfl
@[go_sem] theorem sb_both (len:Nat) (x y:AE):cm cfg s len (some x) (some y)=sbB len ((dat cfg s x).bind D.toInt?) ((dat cfg s y).bind D.toInt?):=by
 unfold cm sbB;simp only;cases(dat cfg s y).bind D.toInt? with
 |none=>cases(dat cfg s x).bind D.toInt? <;>rfl
 | some n=>
  simp only;cases(dat cfg s x).bind D.toInt? with
  |none=>by_cases h:0≤n∧n≤(len:Int)<;>simp[h]
  | some m=>
   simp only;by_cases h:0≤n∧n≤(len:Int)
   · by_cases k:0≤m∧m≤n
     · have e:max n 0=n:=aa1
       simp[h,k,e]
     · have e:max n 0=n:=aa1
       simp[h,e]
   · simp only[if_neg h]
     rw[if_neg (fun c=>h ⟨c.1,c.2.1⟩)]
@[go_sem] theorem sbH_ok {len:Nat} {n:Int} (h0:0≤n) (h1:n≤len):sbH len (some n)=some (0,n.toNat):=if_pos ⟨h0,h1⟩
@[go_sem] theorem sbL_ok {len:Nat} {n:Int} (h0:0≤n) (h1:n≤len):sbL len (some n)=some (n.toNat,len):=if_pos ⟨h0,h1⟩
@[go_sem] theorem sbB_ok {len:Nat} {m n:Int} (h0:0≤n) (h1:n≤len) (h2:0≤m) (h3:m≤n):sbB len (some m) (some n)=some (m.toNat,n.toNat):=if_pos ⟨h0,h1,h2,h3⟩
@[go_sem] theorem sB_add {a b:List UInt8} (h:a.length+b.length≤1000000):tg .add a b=some (.str (a++b)):=if_pos (abo h aa4)
theorem xz {n:Int} (h1:0≤n) (h2:n<256):IntKind.u8.wrap n=n:=by
 simp[IntKind.wrap,IntKind.signed,IntKind.bits];omega
end Go.Ev
namespace Go.Ev
open Go
def dU (s:List UInt8):Bool:=s.all fun b=>decide (b.toNat<128)
def HA:List D→Option V
 | [.str s,.str c]=>if s.length≤1000000∧c.length≤1000∧dU c=true then some (.d (.str (Lib.trimS s c))) else none
 |_=>none
def s7:List D→Option V
 | [.str s,.str [c]]=>some (.d (.int .i64 (Lib.indexByte s c)))
 |_=>none
def sz:List D→Option V
 | [.int .u64 x,.int .u64 y]=>if 0≤x∧x<18446744073709551616∧0≤y∧y<18446744073709551616 then
  some (.d (.tup [.int .u64 (x*y / 18446744073709551616),.int .u64 (x*y % 18446744073709551616)])) else none
 |_=>none
def HB:List D→Option V
 | [.int .u64 n,.int .i64 b]=>if 0≤n∧n<18446744073709551616∧b=10 then some (.d (.str (B2 20 n.toNat))) else none
 |_=>none
open Go.RowKit
variable {P:Program} {cfg:Cfg} {f:FuncId} {fn:Func} {c:Code} (hf:P.funcs[f]? =some fn) (hname:(fn.name=="runtime.NumGoroutine")=false) (hb:fn.body=some c)
include hf hname hb
theorem bgn (h:∀ (s t:ByteArray) (w:World),s.size≤9223372036854775807→t.size<4294967281→(∀ (j:Nat) b,t.data.toList[j]? =some b→b.toNat<128)→
     Calls P f #[.string s,.string t] w fun e w'=>e= .returned (.string ⟨(Lib.trimS s.data.toList t.data.toList).toArray⟩)∧Below w.heap.size w w'):DG P cfg f HA:=by
 refine da hf hname hb fun ds r hr=> ?_
 unfold HA at hr;split at hr
 · rename_i s t
   split at hr
   · rename_i hn
     cases hr;refine⟨_,rfl,rfl,fun F args w h1 h2 h4=> ?_⟩
     obtain⟨v,u,rfl,hv,hu⟩:=qf h1 h2;cases hv.B7;cases hu.B7;refine(h ⟨s.toArray⟩ ⟨t.toArray⟩ w (by simp[ByteArray.size];omega) (by simp[ByteArray.size];omega) (fun j b hj=> ?_)).mono fun e w' ⟨e1,e2⟩=>⟨_,e1,?_,e2⟩
     · have:=acd.1 hn.2.2 b (List.mem_of_getElem? (by simpa using hj))
       simpa using this
     · simpa using Rd.str (F:=F) (w:=w') (Lib.trimS s t)
   · cases hr
 · cases hr
theorem aoy (h:∀ (s:ByteArray) (c:UInt8) (w:World),Calls P f #[.string s,.string ⟨#[c]⟩] w fun e w'=>e= .returned (.int .i64 (Lib.indexByte s.data.toList c))∧Below w.heap.size w w'):DG P cfg f s7:=by
 refine da hf hname hb fun ds r hr=> ?_
 unfold s7 at hr;split at hr
 · rename_i s t
   cases hr;refine⟨_,rfl,rfl,fun F args w h1 h2 h4=> ?_⟩
   obtain⟨v,u,rfl,hv,hu⟩:=qf h1 h2;cases hv.B7;cases hu.B7;refine(h ⟨s.toArray⟩ t w).mono fun e w' ⟨e1,e2⟩=>⟨_,e1,?_,e2⟩
   exact .int _ _
 · cases hr
theorem avg (h:∀ (x y:Nat) (w:World),x<18446744073709551616→y<18446744073709551616→
     Calls P f #[.int .u64 x,.int .u64 y] w fun e w'=>e= .returned (.tuple #[.int .u64 ((x*y / 18446744073709551616:Nat):Int),.int .u64 ((x*y % 18446744073709551616:Nat):Int)])∧Below w.heap.size w w'):DG P cfg f sz:=by
 refine da hf hname hb fun ds r hr=> ?_
 unfold sz at hr;split at hr
 · rename_i x y
   split at hr
   · rename_i hn
     cases hr;refine⟨_,rfl,rfl,fun F args w h1 h2 h4=> ?_⟩
     obtain⟨v,u,rfl,hv,hu⟩:=qf h1 h2;cases hv.BM;cases hu.BM;obtain⟨m,rfl⟩:∃ m:Nat,x=m:=⟨x.toNat,by omega⟩
     obtain⟨n,rfl⟩:∃ m:Nat,y=m:=⟨y.toNat,by omega⟩
     refine(h m n w aa1 aa1).mono fun e w' ⟨e1,e2⟩=>⟨_,e1,?_,e2⟩
     refine .tup [_,_] _ rfl fun i v d g1 g2=> ?_
     match i,g1,g2 with
     |0,g1,g2=>cases g1;cases g2;exact .int _ _
     |1,g1,g2=>cases g1;cases g2;exact .int _ _
     |i+2,g1,g2=>simp at g1
   · cases hr
 · cases hr
theorem bgo (h:∀ (n:Nat) (w:World),n<18446744073709551616→(∀ n ob,cfg.B1 n=some ob→Bo w n ob)→
     Calls P f #[.int .u64 n,.int .i64 10] w fun e w'=>e= .returned (.string ⟨(Lib.decDigits n).toArray⟩)∧Below w.heap.size w w'):DG P cfg f HB:=by
 refine da hf hname hb fun ds r hr=> ?_
 unfold HB at hr;split at hr
 · rename_i x y
   split at hr
   · rename_i hn
     cases hr;refine⟨_,rfl,rfl,fun F args w h1 h2 h4=> ?_⟩
     obtain⟨v,u,rfl,hv,hu⟩:=qf h1 h2;cases hv.BM;cases hu.BM;obtain⟨m,rfl⟩:∃ m:Nat,x=m:=⟨x.toNat,by omega⟩
     obtain rfl:=hn.2.2;refine(h m w aa1 h4).mono fun e w' ⟨e1,e2⟩=>⟨_,e1,?_,e2⟩
     rw[abt,bs8 19 _ aa1];exact .str _
   · cases hr
 · cases hr
omit hb in
theorem bd {c:Code} (hb:fn.body=some c) (h:∀ ad len cap w,len≤cap→Calls P f #[.slice ad len cap] w fun e w'=>e= .returned (.slice ad len len)∧w'=w):
  ∀ ad len cap w,len≤cap→Fk P f #[.slice ad len cap] w fun v w'=>v= .slice ad len len∧w'=w:=fun ad len cap w hl=>by
 refine .inr ⟨jx hf hname hb _ w,(h ad len cap w hl).mono fun e w' ⟨e1,e2⟩=> ?_⟩
 subst e1;exact⟨rfl,e2⟩
end Go.Ev
namespace Go.Ev
open Go
def XG (dst:Option Nat) (own shared:Bool):Ans→Option (List (Loc×V))
 |some (r,_)=>BF dst own shared r
 |none=>none
@[go_sem] theorem dN (dst:Option Nat) (own shared:Bool) (r:V) (m:List (Cel×V)):XG dst own shared (some (r,m))=BF dst own shared r:=rfl
variable {cfg:Cfg} {orc:Orc} {dep:Nat}
@[go_sem] theorem U_callg (s:Get) (k:Nat) (own:Bool) (f:FuncId) (args:List AE) (i:Nat):Ag cfg orc dep s ⟨some k,none,.A9 own f args i⟩=Cv cfg orc s (some k) own f args i:=rfl
@[go_sem] theorem callG_def (s:Get) (dst:Option Nat) (own:Bool) (f:FuncId) (args:List AE) (i:Nat):Cv cfg orc s dst own f args i=
 (args[i]?).bind fun x=>(val cfg s x).bind fun v=>(CB s x v).bind fun g=>
  (BK cfg (AN s g.1) (args.set i (.c .AB))).bind fun vs=>(BH (AN s g.1) vs).bind fun q=>(XG dst own q.2 (orc f 0 ((q.1.map .d).set i g.2) [])).map fun u=>g.1++u:=by
 unfold Cv;cases args[i]? with
 |none=>rfl
 | some x=>
  simp only[Option.bind_some];cases val cfg s x with
  |none=>rfl
  | some v=>
   simp only[Option.bind_some];cases CB s x v with
   |none=>rfl
   | some g=>
    simp only[Option.bind_some];cases BK cfg (AN s g.1) (args.set i (.c .AB)) with
    |none=>rfl
    | some vs=>
     simp only[Option.bind_some];cases BH (AN s g.1) vs with
     |none=>rfl
     | some q=>
      simp only[Option.bind_some];cases orc f 0 ((q.1.map .d).set i g.2) [] with
      |none=>rfl
      |some r=>rfl
@[go_sem] theorem updG_get (s:St) (u:List (Loc×V)):AN s.get u=(s.upd u).get:=(i7 u s).symm
@[go_sem] theorem lU (s:Get) (x:AE):CB s x (.d .AB)=some ([],.d .AB):=by cases x<;>rfl
@[go_sem] theorem lT (s:Get) (k:Nat) (nw:Bool) (z:Nat) (es:List D):CB s (.t k) (.own nw z es)=some ([(.slot k,.AY)],.own false z es):=rfl
def aoz (l:Loc) (off n:Nat):Option V→Option (List (Loc×V)×V)
 |some (.own false z es)=>if off=0∧n≤es.length then some ([(l,.AY)],.own false z (es.take n)) else none
 |_=>none
@[go_sem] theorem lV (s:Get) (x:AE) (l:Loc) (off n:Nat):CB s x (.bor l off n)=aoz l off n (s l):=by
 unfold aoz;cases x<;>(simp only[CB];rfl)
@[go_sem] theorem bgq (l:Loc) (z:Nat) (es:List D):aoz l 0 es.length (some (.own false z es))=some ([(l,.AY)],.own false z es):=by simp[aoz]
attribute [go_sem] List.nil_append List.cons_append
end Go.Ev
namespace Go.Ev
open Go
def aad (k:IntKind) (a b:Int):Int:=k.wrap (BitVec.ofInt k.bits a &&& ~~~ BitVec.ofInt k.bits b).toNat
@[go_sem] theorem ib_andNot (k:IntKind) (a b:Int):a6 .andNot k a k b=some (.int k (aad k a b)):=by simp[a6,aad]
theorem x6 {k:IntKind} (hk:k.signed=false) {n:Int} (h0:0≤n) (h1:n<2 ^ k.bits):k.wrap n=n:=by
 simp only[IntKind.wrap,hk,Bool.false_and,aa8,if_false];exact Int.emod_eq_of_lt h0 h1
theorem s8 {k:IntKind} (hk:k.signed=false) (n:Nat):k.wrap (n:Int)=((n % 2 ^ k.bits:Nat):Int):=by
 simp only[IntKind.wrap,hk,Bool.false_and,aa8,if_false];simp
section
variable {k:IntKind} (hk:k.signed=false) {a b:Nat} (ha:a<2 ^ k.bits) (hb:b<2 ^ k.bits)
include hk ha
theorem oD:G5 k a b=((a &&& b:Nat):Int):=by
 have e:(BitVec.ofInt k.bits (a:Int) &&& BitVec.ofInt k.bits (b:Int)).toNat=a &&& (b % 2 ^ k.bits):=by
  rw[BitVec.toNat_and,BitVec.ofInt_natCast,BitVec.ofInt_natCast,BitVec.toNat_ofNat,BitVec.toNat_ofNat,acv ha]
 have e2:a &&& (b % 2 ^ k.bits)=a &&& b:=by
  apply Nat.eq_of_testBit_eq;intro i;rw[Nat.testBit_and,Nat.testBit_and,Nat.testBit_mod_two_pow];by_cases h:i<k.bits
  · simp[h]
  · have:a.testBit i=false:=Nat.testBit_lt_two_pow (ab3 ha (acw aa4 aa1))
    simp[this]
 unfold G5;rw[e,e2,x6 hk aa1];have:a &&& b≤a:=Nat.and_le_left;have h2:((2 ^ k.bits:Nat):Int)=2 ^ k.bits:=by simp
 omega
include hb
theorem orU:orI k a b=((a ||| b:Nat):Int):=by
 have e:(BitVec.ofInt k.bits (a:Int) ||| BitVec.ofInt k.bits (b:Int)).toNat=a ||| b:=by
  rw[BitVec.toNat_or,BitVec.ofInt_natCast,BitVec.ofInt_natCast,BitVec.toNat_ofNat,BitVec.toNat_ofNat,acv ha,acv hb]
 unfold orI;rw[e,x6 hk aa1];have:a ||| b<2 ^ k.bits:=Nat.or_lt_two_pow ha hb;have h2:((2 ^ k.bits:Nat):Int)=2 ^ k.bits:=by simp
 omega
theorem xorU:GD k a b=((a ^^^ b:Nat):Int):=by
 have e:(BitVec.ofInt k.bits (a:Int) ^^^ BitVec.ofInt k.bits (b:Int)).toNat=a ^^^ b:=by
  rw[BitVec.toNat_xor,BitVec.ofInt_natCast,BitVec.ofInt_natCast,BitVec.toNat_ofNat,BitVec.toNat_ofNat,acv ha,acv hb]
 unfold GD;rw[e,x6 hk aa1];have:a ^^^ b<2 ^ k.bits:=Nat.xor_lt_two_pow ha hb;have h2:((2 ^ k.bits:Nat):Int)=2 ^ k.bits:=by simp
 omega
end
theorem Hu {k:IntKind} (hk:k.signed=false) (a:Nat) {n:Nat} (hn:n≤k.bits):GJ k (a:Int) (n:Int)=((a*2 ^ n % 2 ^ k.bits:Nat):Int):=by
 unfold GJ;rw[abt,Nat.min_eq_left hn];have:((a:Int)*2 ^ n)=((a*2 ^ n:Nat):Int):=by simp
 rw[this,s8 hk]
theorem eG (k:IntKind) (a:Nat) {n:Nat} (hn:n≤k.bits):GI k (a:Int) (n:Int)=((a / 2 ^ n:Nat):Int):=by
 rw[bhu k _ n hn];simp
theorem wy {a b n:Nat} (h:a<2 ^ n):a ||| b*2 ^ n=a+b*2 ^ n:=by
 rw[Nat.or_comm,Nat.mul_comm b,Nat.two_pow_add_eq_or_of_lt h b |>.symm];omega
theorem bfq (a n:Nat):a &&& (2 ^ n-1)=a % 2 ^ n:=Nat.and_two_pow_sub_one_eq_mod a n
theorem Gf (n:Nat):IntKind.u8.wrap (n:Int)=((n % 256:Nat):Int):=s8 (k:= .u8) rfl n
theorem vc (n:Nat):IntKind.u64.wrap (n:Int)=((n % 18446744073709551616:Nat):Int):=s8 (k:= .u64) rfl n
theorem j7 {v:Int} (h0: -18446744073709551616≤v) (h1:v<0):IntKind.u64.wrap v=v+18446744073709551616:=by
 simp[IntKind.wrap,IntKind.signed,IntKind.bits];omega
theorem re {n:Int} (h0:9223372036854775808≤n) (h1:n<18446744073709551616):IntKind.i64.wrap n=n-18446744073709551616:=by
 simp[IntKind.wrap,IntKind.signed,IntKind.bits,BitVec.toInt_ofInt,Int.bmod_def];omega
theorem UU {a:Nat} (h:a<18446744073709551616):GD .u64 a 18446744073709551615=((18446744073709551615-a:Nat):Int):=by
 have:=xorU (k:= .u64) rfl (a:=a) (b:=18446744073709551615) h aa4;rw[show((18446744073709551615:Nat):Int)=18446744073709551615 from rfl] at this
 rw[this]
 congr 1
 have e:a ^^^ 18446744073709551615=18446744073709551615-a:=by
  have:=BitVec.xor_allOnes (x:=BitVec.ofNat 64 a);have h2:=congrArg BitVec.toNat this;simp only[BitVec.toNat_xor,BitVec.toNat_ofNat,BitVec.toNat_allOnes,BitVec.toNat_not] at h2;rw[acv h] at h2;omega
 exact e
theorem xor_zero {k:IntKind} {a:Int} (h:k.wrap a=a):GD k a 0=a:=by
 unfold GD;have:BitVec.ofInt k.bits (0:Int)=0#k.bits:=by simp
 rw[this,BitVec.xor_zero,BitVec.toNat_ofInt];have h2:((2 ^ k.bits:Nat):Int)≠0:=by have:=Nat.two_pow_pos k.bits;omega
 rw[abs (Int.emod_nonneg _ h2)];rw[show((2 ^ k.bits:Nat):Int)=2 ^ k.bits by simp]
 have:k.wrap (a % 2 ^ k.bits)=k.wrap a:=by
  unfold IntKind.wrap;simp
 rw[this,h]
theorem UW {a:Int} (h0: -9223372036854775808≤a) (h1:a<9223372036854775808):GD .i64 a (-1)= -1-a:=by
 unfold GD;have e:BitVec.ofInt 64 (-1)=BitVec.allOnes 64:=aa4;show IntKind.i64.wrap ((BitVec.ofInt 64 a ^^^ BitVec.ofInt 64 (-1)).toNat:Int)=_;rw[e,BitVec.xor_allOnes,BitVec.toNat_not,BitVec.toNat_ofInt];by_cases h:a<0
 · have:(a % ((2 ^ 64:Nat):Int)).toNat=(a+18446744073709551616).toNat:=aa1
   rw[this,au aa1 aa1];omega
 · have:(a % ((2 ^ 64:Nat):Int)).toNat=a.toNat:=aa1
   rw[this,re aa1 aa1];omega
end Go.Ev
namespace Go.Ev
open Go
variable {X:Kx} {K:List Kf} {s:St}
noncomputable def F6 (X:Kx) (e0:List (Nat×V)) (pre:Bool) (acc:List Rec) (un:List (Nat×Nat)) (ops:List AV) (Ak:List Nat) (K:List Kf) (s:St):Ans:=
 match BX X.cfg (evL X.cfg) X.dep e0 pre ops s with
 |some (l,s')=>if DL (acc++l) un then go X K (settle X.dep Ak s') else none
 |none=>none
theorem Ab (ops:List AV) (p:Nat×Nat) (un:List (Nat×Nat)) (Ak:List Nat):go X (.c (.region ops (p::un) Ak)::K) s=F6 X s.env true [] (p::un) ops Ak K s:=by
 unfold go F6;rw[ax,xp];unfold A8;simp only[List.nil_append];cases BX X.cfg (evL X.cfg) X.dep s.env true ops s with
 |none=>exact ak _ _
 | some r=>
  obtain⟨l,s'⟩:=r;by_cases hu:DL l (p::un)=true
  · simp only[hu,if_true]
    rfl
  · simp only[hu,aa8,if_false]
    exact ak _ _
noncomputable def Gb (X:Kx) (e0:List (Nat×V)) (pre:Bool) (acc:List Rec) (un:List (Nat×Nat)) (o:AV) (r:List AV) (Ak:List Nat) (K:List Kf) (s:St) (b:Bool) (u:List (Loc×V)):Ans:=
 F6 X e0 (pre&&u.all fun p=>p.2.calm X.dep) (acc++[(b,u.all (fun p=>p.2.calm X.dep),dl X.dep s.get o,u.map (·.1))]) un r Ak K (s.upd u)
noncomputable def Fs (X:Kx) (e0:List (Nat×V)) (pre:Bool) (acc:List Rec) (un:List (Nat×Nat)) (o:AV) (r:List AV) (Ak:List Nat) (K:List Kf) (s:St):Option (List (Loc×V))→Option V→Option Nat→Ans
 |some ch,some v,some k=>Gb X e0 pre acc un o r Ak K s true (ch++[(.slot k,v)])
 |_,_,_=>none
noncomputable def IK (X:Kx) (e0:List (Nat×V)) (pre:Bool) (acc:List Rec) (un:List (Nat×Nat)) (o:AV) (r:List AV) (Ak:List Nat) (K:List Kf) (s:St):Option St→Ans
 |some s'=>if(Dk X.dep e0&&pre)=true then Fs X e0 pre acc un o r Ak K s (A2 (EN X.cfg s.get o.op) s.mem s'.mem) (o.dst.bind (lk s'.env)) o.dst else none
 |none=>none
noncomputable def So (X:Kx) (e0:List (Nat×V)) (pre:Bool) (acc:List Rec) (un:List (Nat×Nat)) (o:AV) (r:List AV) (Ak:List Nat) (K:List Kf) (s:St):Option (List (Loc×V))→Ans
 |some u=>Gb X e0 pre acc un o r Ak K s false u
 |none=>IK X e0 pre acc un o r Ak K s (BL X.cfg (evL X.cfg) X.dep s o)
@[go_sem] theorem goRU_step (e0:List (Nat×V)) (pre:Bool) (acc:List Rec) (un:List (Nat×Nat)) (o:AV) (r:List AV) (Ak:List Nat):F6 X e0 pre acc un (o::r) Ak K s=So X e0 pre acc un o r Ak K s (Ag X.cfg (evL X.cfg) X.dep s.get o):=by
 have key:∀ b u,Bt X.cfg (evL X.cfg) X.dep e0 pre s o=some (b,u)→F6 X e0 pre acc un (o::r) Ak K s=Gb X e0 pre acc un o r Ak K s b u:=by
  intro b u h;unfold Gb F6;rw[BX,h];simp only;cases BX X.cfg (evL X.cfg) X.dep e0 (pre&&u.all fun p=>p.2.calm X.dep) r (s.upd u) with
  |none=>rfl
  |some q=>obtain⟨l,s'⟩:=q;simp only[abv,List.singleton_append]
 have no:Bt X.cfg (evL X.cfg) X.dep e0 pre s o=none→F6 X e0 pre acc un (o::r) Ak K s=none:=by
  intro h;unfold F6;rw[BX,h]
 unfold So;cases h1:Ag X.cfg (evL X.cfg) X.dep s.get o with
 | some u=>
  refine key false u ?_;unfold Bt;rw[h1]
 | none=>
  simp only;unfold IK;cases h2:BL X.cfg (evL X.cfg) X.dep s o with
  | none=>
   refine no ?_;unfold Bt;rw[h1,h2];simp
  | some s'=>
   simp only;by_cases h3:(Dk X.dep e0&&pre)=true
   · rw[if_pos h3]
     cases h4:o.dst with
     | none=>
      refine(no ?_).trans (by unfold Fs;cases A2 (EN X.cfg s.get o.op) s.mem s'.mem<;>rfl)
      unfold Bt;rw[h1];simp only[h3,if_true,h2,h4]
     | some k=>
      simp only[Option.bind_some];cases h5:A2 (EN X.cfg s.get o.op) s.mem s'.mem with
      | none=>
       refine(no ?_).trans (by unfold Fs;rfl)
       unfold Bt;rw[h1];simp only[h3,if_true,h2,h4,h5]
      | some ch=>
       cases h6:lk s'.env k with
       | none=>
        refine(no ?_).trans (by unfold Fs;rfl)
        unfold Bt;rw[h1];simp only[h3,if_true,h2,h4,h5,h6]
       | some v=>
        refine(key true (ch++[(.slot k,v)]) ?_).trans (by unfold Fs;rfl)
        unfold Bt;rw[h1];simp only[h3,if_true,h2,h4,h5,h6]
   · rw[if_neg h3]
     refine no ?_;unfold Bt;rw[h1];simp only[if_neg h3]
section
variable (e0:List (Nat×V)) (pre:Bool) (acc:List Rec) (un:List (Nat×Nat)) (o:AV) (r:List AV) (Ak:List Nat)
@[go_sem] theorem lQ (u:List (Loc×V)):So X e0 pre acc un o r Ak K s (some u)=Gb X e0 pre acc un o r Ak K s false u:=rfl
@[go_sem] theorem lR:So X e0 pre acc un o r Ak K s none=IK X e0 pre acc un o r Ak K s (BL X.cfg (evL X.cfg) X.dep s o):=rfl
@[go_sem] theorem goRUX_def (b:Bool) (u:List (Loc×V)):Gb X e0 pre acc un o r Ak K s b u=F6 X e0 (pre&&u.all fun p=>p.2.calm X.dep) (acc++[(b,u.all (fun p=>p.2.calm X.dep),dl X.dep s.get o,u.map (·.1))]) un r Ak K (s.upd u):=rfl
@[go_sem] theorem bgm (s':St):IK X e0 pre acc un o r Ak K s (some s')=if(Dk X.dep e0&&pre)=true then Fs X e0 pre acc un o r Ak K s (A2 (EN X.cfg s.get o.op) s.mem s'.mem) (o.dst.bind (lk s'.env)) o.dst else none:=rfl
@[go_sem] theorem lP (ch:List (Loc×V)) (v:V) (k:Nat):Fs X e0 pre acc un o r Ak K s (some ch) (some v) (some k)=Gb X e0 pre acc un o r Ak K s true (ch++[(.slot k,v)]):=rfl
end
@[go_sem] theorem goRU_end (e0:List (Nat×V)) (pre:Bool) (acc:List Rec) (un:List (Nat×Nat)) (Ak:List Nat) (e:List (Nat×V)) (m:List (Cel×V)) (h:DL acc un=true):
  F6 X e0 pre acc un [] Ak K ⟨e,m⟩=go X K ⟨Be X.dep Ak e,BI X.dep m⟩:=by
 unfold F6;simp only[BX,List.append_nil,h,if_true];rfl
@[go_sem] theorem calm_d (n:Nat) (y:D):V.calm n (.d y)=true:=rfl
@[go_sem] theorem calm_own (n:Nat) (b:Bool) (z:Nat) (es:List D):V.calm n (.own b z es)=true:=rfl
@[go_sem] theorem calm_junk (n:Nat):V.calm n .AY=true:=rfl
@[go_sem] theorem calm_iptr (n:Nat) (e:D) (o:Nat):V.calm n (.Ax e o)=true:=rfl
@[go_sem] theorem calm_ref (n d k o:Nat):V.calm n (.ref d k o)=decide (d<n+1):=rfl
@[go_sem] theorem calm_bor (n k a b:Nat):V.calm n (.bor (.slot k) a b)=true:=rfl
@[go_sem] theorem calm_clo (n:Nat) (f:FuncId) (a b:List V):V.calm n (.clo f a b)=(V.CI (n+1) a&&V.CI (n+1) b):=rfl
@[go_sem] theorem calmE_nil (n:Nat):Dk n []=true:=rfl
@[go_sem] theorem nR (n k:Nat) (v:V) (r:List (Nat×V)):Dk n ((k,v)::r)=(v.calm n&&Dk n r):=rfl
mutual
theorem D.DA:∀ a:D,D.eqb a a=true
 | .bool a=>by simp[D.eqb]
 | .int k a=>by simp[D.eqb]
 | .str a=>by simp[D.eqb]
 | .AB| .Dp| .Ep| .EH| .GV| .unk| .DY=>rfl
 | .sl a=>by simp[D.eqb,D.Dj a]
 | .agg a=>by simp[D.eqb,D.Dj a]
 | .tup a=>by simp[D.eqb,D.Dj a]
 | .ptr a=>by simp[D.eqb,D.DA a]
 | .ifc t a=>by simp[D.eqb,D.DA a]
 | .fn f=>by simp[D.eqb]
theorem D.Dj:∀ a:List D,D.DI a a=true
 | []=>rfl
 |a::r=>by simp[D.DI,D.DA a,D.Dj r]
end
mutual
theorem V.Ed:∀ a:V,V.eqb a a=true
 | .d a=>by simp[V.eqb,D.DA a]
 | .own n z a=>by simp[V.eqb,D.Dj a]
 | .Ax a o=>by simp[V.eqb,D.DA a]
 | .ref e k o=>by simp[V.eqb]
 | .clo f a b=>by simp[V.eqb,V.C9 a,V.C9 b]
 | .ifc t a=>by simp[V.eqb,V.Ed a]
 | .AY=>rfl
 | .bor l a b=>by simp[V.eqb]
 | .Az l a b=>by simp[V.eqb]
 | .vec a=>by simp[V.eqb,V.C9 a]
 | .B4 a=>by simp[V.eqb,V.Ed a]
 | .rcd a=>by simp[V.eqb,V.C9 a]
theorem V.C9:∀ a:List V,V.DI a a=true
 | []=>rfl
 |a::r=>by simp[V.DI,V.Ed a,V.C9 r]
end
@[go_sem] theorem DA (a:V):V.eqb a a=true:=V.Ed a
@[go_sem] theorem cR (cs:Option (List Cel)):A2 cs [] []=some []:=rfl
@[go_sem] theorem Yp (l:List Cel) (c c':Cel) (v v':V) (r r':List (Cel×V)):A2 (some l) ((c,v)::r) ((c',v')::r')=if c=c' then(if l.contains c then(A2 (some l) r r').map fun u=>u++[(.cell c,v')] else if v.eqb v' then(A2 (some l) r r').map fun u=>u.filter fun p=> !decide (p.1= .cell c) else none) else none:=rfl
@[go_sem] theorem Zf (vs:List V):CS vs []=[]:=rfl
def nL (o:Nat) (cs:List Cel):Option V→List Cel
 |some (.ref d k off)=>⟨d,k,off+o⟩::cs
 |_=>cs
@[go_sem] theorem Xz (vs:List V) (i o:Nat) (r:List (Nat×Nat)):CS vs ((i,o)::r)=nL o (CS vs r) vs[i]? :=by
 rw[CS];unfold nL;cases vs[i]? with
 |none=>rfl
 |some v=>cases v<;>rfl
@[go_sem] theorem chgQ_ref (o:Nat) (cs:List Cel) (d k off:Nat):nL o cs (some (.ref d k off))=⟨d,k,off+o⟩::cs:=rfl
def nK (cfg:Cfg):Option (Bool×FuncId×List V)→Option (List Cel)
 |some t=>(cfg.chg t.2.1).map (CS t.2.2)
 |none=>none
@[go_sem] theorem chgOf_def (cfg:Cfg) (s:Get) (op:IOp):EN cfg s op=nK cfg (target cfg s op):=by
 unfold EN nK;cases target cfg s op with
 |none=>rfl
 |some t=>rfl
@[go_sem] theorem chgT_some (cfg:Cfg) (t:Bool×FuncId×List V):nK cfg (some t)=(cfg.chg t.2.1).map (CS t.2.2):=rfl
@[go_sem] theorem cG (cfg:Cfg) (s:Get) (own:Bool) (f:FuncId) (args:List AE):target cfg s (.call own f args)=(BK cfg s args).map fun vs=>(own,f,vs):=rfl
attribute [go_sem] List.filter_nil List.filter_cons Option.bind_some List.contains_nil List.contains_cons
def behind (n:Nat):Option V→List Loc
 |some (.bor l _ _)=>[l]
 |some (.Az l _ _)=>[l]
 |some (.ref d j off)=>jj d j off n
 |_=>[]
@[go_sem] theorem behind_d (n:Nat) (y:D):behind n (some (.d y))=[]:=rfl
@[go_sem] theorem nZ (n:Nat) (nw:Bool) (z:Nat) (es:List D):behind n (some (.own nw z es))=[]:=rfl
@[go_sem] theorem oB (n:Nat) (l:Loc) (a b:Nat):behind n (some (.bor l a b))=[l]:=rfl
@[go_sem] theorem dR (n:Nat) (e:D) (o:Nat):behind n (some (.Ax e o))=[]:=rfl
@[go_sem] theorem oA (n:Nat) (f:FuncId) (a b:List V):behind n (some (.clo f a b))=[]:=rfl
@[go_sem] theorem nY (n d j off:Nat):behind n (some (.ref d j off))=jj d j off n:=rfl
@[go_sem] theorem opdLocs_t (s:Get) (n k:Nat):ac s n (.t k)= .slot k::behind n (s (.slot k)):=by
 unfold behind;simp only[ac];rfl
@[go_sem] theorem opdLocs_c (s:Get) (n:Nat) (d:D):ac s n (.c d)=[]:=rfl
def R8 (dep:Nat) (dst:Option Nat):IOp→List Loc
 | .alloc _| .box _ _=>match dst with
  |some k=>[.cell ⟨dep,k,0⟩]
  |none=>[]
 |_=>[]
@[go_sem] theorem readsOf_n (dep:Nat) (s:Get) (dst:Option Nat) (op:IOp):dl dep s ⟨dst,none,op⟩=R8 dep dst op++op.operands.flatMap (ac s op.span):=by
 cases op<;>cases dst<;>rfl
@[go_sem] theorem readsOf_g (dep:Nat) (s:Get) (dst:Option Nat) (k:Nat) (b:Bool) (op:IOp):dl dep s ⟨dst,some (k,b),op⟩= .slot k::(R8 dep dst op++op.operands.flatMap (ac s op.span)):=by
 cases op<;>cases dst<;>rfl
@[go_sem] theorem gE (neg:Bool) (e:D) (es:List D):ux neg (.d (.sl (e::es)))=some (.bool neg):=rfl
attribute [go_sem] R8 IOp.operands IOp.span List.flatMap_cons List.flatMap_nil jj Option.toList
theorem E7 {n:Nat} (h:n≤1000000000):(n≤d8)=True:=by
 have:(1000000000:Nat)≤d8:=by unfold d8;decide
 simp;omega
def bL (dst:Option Nat) (z:Nat) (l:Loc) (off n:Nat) (ys:List D):Option V→Option (List (Loc×V))
 |some (.own false z' es)=>if off=0∧n≤es.length∧z'=z∧n+ys.length≤d8 then some (AO dst (.own true z (es.take n++ys))++[(l,.AY)]) else none
 |_=>none
def SU (s:Get) (dst:Option Nat) (z:Nat) (x:AE) (v:V) (ys:List D):Option (List (Loc×V)):=
 match x,v with
  | _,.d .AB=>match ys with
   | []=>some (AO dst (.d .AB))
   |_=>if ys.length≤d8 then some (AO dst (.own true z ys)) else none
  | _,.d (.sl es)=>match ys with
   | []=>some (AO dst (.d (.sl es)))
   |_=>none
  | .t k,.own _ z' es=>if z'=z∧es.length+ys.length≤d8 then some (AO dst (.own true z (es++ys))++[(.slot k,.AY)]) else none
  |_,.bor l off n=>bL dst z l off n ys (s l)
  |_,_=>none
@[go_sem] theorem ZR (s:Get) (dst:Option Nat) (z bytes:Nat) (x:AE) (v:V) (ys:List D):g7 s dst z bytes x v ys=if(Dz z ys&&decide (bytes≤2048))=true then SU s dst z x v ys else none:=rfl
section
variable (g:Get) (dst:Option Nat) (z:Nat) (x:AE)
@[go_sem] theorem appV_nil0:SU g dst z x (.d .AB) []=some (AO dst (.d .AB)):=by cases x<;>rfl
@[go_sem] theorem appV_nil (y:D) (ys:List D) (h:(y::ys).length≤1000000000):SU g dst z x (.d .AB) (y::ys)=some (AO dst (.own true z (y::ys))):=by
 have:=E7 h;cases x<;>simp[SU,E7 h]<;>simpa using this
@[go_sem] theorem appV_own (k:Nat) (nw:Bool) (es ys:List D) (h:es.length+ys.length≤1000000000):SU g dst z (.t k) (.own nw z es) ys=some (AO dst (.own true z (es++ys))++[(.slot k,.AY)]):=by
 simp[SU,E7 h]
@[go_sem] theorem appV_bor (l:Loc) (off n:Nat) (ys:List D):SU g dst z x (.bor l off n) ys=bL dst z l off n ys (g l):=by cases x<;>rfl
@[go_sem] theorem appB_own (l:Loc) (n:Nat) (es ys:List D) (hn:n=es.length) (h:es.length+ys.length≤1000000000):bL dst z l 0 n ys (some (.own false z es))=some (AO dst (.own true z (es++ys))++[(l,.AY)]):=by
 subst hn;simp[bL,E7 h]
@[go_sem] theorem borQ_own' (l:Loc) (n:Nat) (es:List D) (hn:n=es.length):XW dst l 0 n (some (.own false z es))=if dst.map Loc.slot=some l then some [(l,.own true z es)] else some (AO dst (.own true z es)++[(l,.AY)]):=by
 subst hn;exact XV dst l z es
@[go_sem] theorem cZ (l:Loc) (n:Nat) (es:List D) (hn:n=es.length):aoz l 0 n (some (.own false z es))=some ([(l,.AY)],.own false z es):=by
 subst hn;exact bgq l z es
end
@[go_sem] theorem allZ_nil (z:Nat):Dz z []=true:=rfl
@[go_sem] theorem allZ_cons (z:Nat) (e:D) (r:List D):Dz z (e::r)=(e.cells.length==z&&Dz z r):=rfl
theorem Ie {α:Type} {z:Nat} {f:α→D} (h:∀ x,(f x).cells.length=z) (l:List α):Dz z (l.map f)=true:=by
 induction l with
 |nil=>rfl
 |cons b l ih=>simp[Dz,h b,ih]
@[go_sem] theorem SV (l:List UInt8):Dz 1 (l.map AM)=true:=Ie (f:=AM) (fun _=>rfl) l
@[go_sem] theorem allZ_strs (l:List (List UInt8)):Dz 1 (l.map D.str)=true:=Ie (f:=D.str) (fun _=>rfl) l
theorem WL {z:Nat} {es:List D} (h:Dz z es=true):Ga z es=true:=by
 cases es with
 |nil=>rfl
 |cons e es=>simp only[Dz,abe] at h;exact h.1
@[go_sem] theorem cX (l:List UInt8):Ga 1 (l.map AM)=true:=WL (SV l)
variable {cfg:Cfg}
def slcB (dst:Option Nat) (z:Nat) (loc:Loc) (off l h:Nat):Option V→Option (List (Loc×V))
 |some (.own false z' _)=>if z'=z then some (AO dst (.bor loc (off+l) (h-l))) else none
 |_=>none
def eD (s:Get) (dst:Option Nat) (z:Nat) (x:AE) (l h:Nat) (v:V):Option (List (Loc×V)):=
 match x,v with
  |_,.d .AB=>some (AO dst (.d .AB))
  |_,.d (.sl es)=>if Ga z es then some (AO dst (.d (.sl ((es.take h).drop l)))) else none
  | .t k,.own false z' _=>if z'=z then some (AO dst (.bor (.slot k) l (h-l))) else none
  | .t k,.own true z' es=>if z'=z then some (AO dst (.own true z ((es.take h).drop l))++[(.slot k,.AY)]) else none
  |_,.bor loc off _=>slcB dst z loc off l h (s loc)
  |_,_=>none
@[go_sem] theorem dE (s:Get) (dst:Option Nat) (z:Nat) (x:AE) (v:V) (lo hi:Option AE):ki cfg s dst z x v lo hi none=(cont s v).bind fun es=>(cm cfg s es.length lo hi).bind fun lh=>eD s dst z x lh.1 lh.2 v:=by
 unfold ki eD slcB;cases cont s v with
 |none=>rfl
 | some es=>
  simp only[E3,Option.bind_some];cases cm cfg s es.length lo hi with
  |none=>rfl
  |some lh=>obtain⟨l,h⟩:=lh;simp only[Option.isSome_none,Bool.false_and,aa8,if_false,Option.bind_some];rfl
section
variable (g:Get) (dst:Option Nat) (z:Nat) (x:AE) (l h:Nat)
@[go_sem] theorem slcV_sl (es:List D):eD g dst z x l h (.d (.sl es))=if Ga z es=true then some (AO dst (.d (.sl ((es.take h).drop l)))) else none:=by cases x<;>rfl
@[go_sem] theorem mW:Dv dst x (.d .AB)=some (AO dst (.d .AB)):=by cases x<;>rfl
@[go_sem] theorem evClip_sl (es:List D):Dv dst x (.d (.sl es))=some (AO dst (.d (.sl es))):=by cases x<;>rfl
@[go_sem] theorem mV (nw:Bool) (es:List D):Dv dst x (.own nw z es)=FD dst x (.own nw z es):=rfl
@[go_sem] theorem mX (loc:Loc) (a b:Nat):Dv dst x (.bor loc a b)=some (AO dst (.bor loc a b)):=by cases x<;>rfl
def G1 (dst:Option Nat) (z:Nat) (l:Loc) (i:Nat):Option V→Option (List (Loc×V))
 |some (.own false z' _)=>if z'=z then some (AO dst (.Az l i 0)) else none
 |_=>none
theorem UB (loc:Loc) (off len:Nat) {n:Int} (h0:0≤n) (h1:n<len):C7 g dst z x (.bor loc off len) n=G1 dst z loc (off+n.toNat) (g loc):=by
 unfold C7 G1;rw[if_neg aa1];have:n.toNat<len:=aa1;cases x<;>simp only[this,true_and]<;>cases g loc<;>rfl
@[go_sem] theorem mU (loc:Loc) (off len:Nat) {n:Nat} (h1:n<len):C7 g dst z x (.bor loc off len) (n:Int)=G1 dst z loc (off+n) (g loc):=by
 rw[UB g dst z x loc off len aa1 aa1,abt]
@[go_sem] theorem idxB_own (loc:Loc) (i:Nat) (es:List D):G1 dst z loc i (some (.own false z es))=some (AO dst (.Az loc i 0)):=by simp[G1]
end
@[go_sem high] theorem dL (c:UInt8):(AM c).cells=[AM c]:=rfl
