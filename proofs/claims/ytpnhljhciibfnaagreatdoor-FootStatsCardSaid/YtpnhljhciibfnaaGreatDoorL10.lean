import Derived.KernelRfl
import Derived.Test.YtpnhljhciibfnaaGreatDoorL9
import Derived.Lib.BytesEntry
import Derived.Lib.MakeNoZero
import Derived.Laws.BytesArg
import Derived.Laws.Externs
import Derived.Lib.Join
import Derived.Sort.Grow
import Derived.Deep.Draws
namespace Go.Ev
open Go
variable {cfg:Cfg} {orc:Orc} {dep:Nat}
def eI (k:Nat) (own:Bool):V→Option (List (Loc×V))
 | .d (.str b)=>if b.length≤d8 then some [(.slot k,if own then .own true 1 (b.map AM) else .d (.sl (b.map AM)))] else none
 |_=>none
@[go_sem] theorem U_s2b (s:Get) (k:Nat) (own:Bool) (x:AE):Ag cfg orc dep s ⟨some k,none,.s2b own x⟩=(val cfg s x).bind (eI k own):=by
 show At cfg dep s (some k) (.s2b own x)=_;simp only[At];cases val cfg s x with
 |none=>rfl
 | some v=>
  cases v with
  |d y=>cases y<;>rfl
  |_=>rfl
@[go_sem] theorem s2bV_f (k:Nat) (b:List UInt8) (h:b.length≤1000000000):eI k false (.d (.str b))=some [(.slot k,.d (.sl (b.map AM)))]:=by
 have:=E7 h;simp[eI,this]
@[go_sem] theorem nlt0 (n:Nat):((n:Int)<0)=False:=by simp
@[go_sem] theorem nc0:((0:Nat):Int)=0:=rfl
@[go_sem] theorem nc1:((1:Nat):Int)=1:=rfl
end Go.Ev
namespace Go.Ev
open Go
variable {cfg:Cfg} {orc:Orc} {dep:Nat} {X:Kx} {K:List Kf}
@[go_sem] theorem gI (k:IntKind) (n:Int):(D.int k n).AW=true:=rfl
@[go_sem] theorem cW (b:Bool):(D.bool b).AW=true:=rfl
@[go_sem] theorem isCell_sl (es:List D):(D.sl es).AW=true:=rfl
@[go_sem] theorem cV:D.AB.AW=true:=rfl
@[go_sem] theorem YA (cs:List D):(D.agg cs).storable=true:=rfl
attribute [go_sem] aao
attribute [go_sem] yd
attribute [go_sem] aan
@[go_sem] theorem cK (es:List D):(D.sl es).storable=true:=rfl
@[go_sem] theorem Xw:D.AB.storable=true:=rfl
@[go_sem] theorem plainV_d (x:D):V.Ad (.d x)=true:=rfl
@[go_sem] theorem fR (d k o:Nat):V.Ad (.ref d k o)=true:=rfl
@[go_sem] theorem bga (f:FuncId) (a b:List V):V.Ad (.clo f a b)=true:=rfl
@[go_sem] theorem upTo_clo (n:Nat) (f:FuncId) (a b:List V):V.BP n (.clo f a b)=(V.CI n a&&V.CI n b):=rfl
@[go_sem] theorem upTos_nil (n:Nat):V.CI n []=true:=rfl
@[go_sem] theorem dY (n:Nat) (v:V) (r:List V):V.CI n (v::r)=(v.BP n&&V.CI n r):=rfl
attribute [go_sem] Uf
attribute [go_sem] ne_eq ab7 fg List.map_cons List.map_nil List.all_cons List.all_nil Option.isSome_some Option.isSome_none Option.isNone_some Option.isNone_none List.isEmpty_nil List.isEmpty_cons
@[go_sem] theorem bind_none {α β:Type} (f:α→Option β):(none:Option α).bind f=none:=rfl
@[go_sem] theorem evBox_d (s:Get) (k n:Nat) (y:D):HJ dep s k n (.d y)=if(s (.cell ⟨dep,k,0⟩)).isSome then none else if y.cells.length=n∧n≠0∧y.storable=true then some ((.slot k,.ref dep k 0)::fg dep k 0 (y.cells.map .d)) else none:=rfl
abbrev cB:=Option (List D×List (Loc×V))
def ZL (d k off:Nat) (g:cB):Option V→cB
 |some (.d x)=>g.bind fun p=>if x.AW then some (x.can::p.1,p.2) else none
 |some (.Ax e 0)=>g.bind fun p=>some (.ptr e::p.1,p.2)
 |some (.own _ _ es)=>g.bind fun p=>some (.sl es::p.1,(.cell ⟨d,k,off⟩,.d (.sl es))::p.2)
 |_=>none
@[go_sem] theorem gather_z (s:Get) (d k off:Nat):ez s d k off 0=some ([],[]):=rfl
@[go_sem] theorem gather_s (s:Get) (d k off n:Nat):ez s d k off (n+1)=ZL d k off (ez s d k (off+1) n) (s (.cell ⟨d,k,off⟩)):=by
 rw[ez];unfold ZL;cases s (.cell ⟨d,k,off⟩) with
 |none=>rfl
 | some v=>
  cases v with
  |d x=>cases ez s d k (off+1) n<;>rfl
  | Ax e o=>cases o with
   |zero=>cases ez s d k (off+1) n<;>rfl
   |succ o=>rfl
  |own nw z es=>cases ez s d k (off+1) n<;>rfl
  |_=>rfl
@[go_sem] theorem gatQ_d (d k off:Nat) (g:cB) (x:D):ZL d k off g (some (.d x))=g.bind fun p=>if x.AW then some (x.can::p.1,p.2) else none:=rfl
@[go_sem] theorem gatQ_own (d k off:Nat) (g:cB) (nw:Bool) (z:Nat) (es:List D):ZL d k off g (some (.own nw z es))=g.bind fun p=>some (.sl es::p.1,(.cell ⟨d,k,off⟩,.d (.sl es))::p.2):=rfl
@[go_sem] theorem refQ_clo (dst:Option Nat) (d k off:Nat) (f:FuncId) (a b:List V):YX dst d k off (some (.clo f a b))=some (AO dst (.clo f a b)):=rfl
@[go_sem] theorem alive_z (s:Get) (d k off:Nat):alive s d k off 0=true:=rfl
@[go_sem] theorem alive_s (s:Get) (d k off n:Nat):alive s d k off (n+1)=((s (.cell ⟨d,k,off⟩)).isSome&&alive s d k (off+1) n):=rfl
@[go_sem] theorem evStore_d (s:Get) (n d k off:Nat) (x:AE) (y:D):dr s n (.ref d k off) x (.d y)=if alive s d k off n then if y.cells.length=n∧y.storable then some (fg d k off (y.cells.map .d)) else none else none:=by
 cases x<;>rfl
@[go_sem] theorem dC (s:Get) (d k off j:Nat) (nw:Bool) (z:Nat) (es:List D):dr s 1 (.ref d k off) (.t j) (.own nw z es)=if alive s d k off 1 then some [(.cell ⟨d,k,off⟩,.own true z es),(.slot j,.AY)] else none:=rfl
def storB (c:Cel) (l:Loc) (o m:Nat):Option V→Option (List (Loc×V))
 |some (.own false z es)=>if o=0∧m=es.length then
  (if Loc.cell c=l then some [(l,.own true z es)] else some [(.cell c,.own true z es),(l,.AY)]) else none
 |_=>none
@[go_sem] theorem dD (s:Get) (d k off:Nat) (x:AE) (f:FuncId) (a b:List V):dr s 1 (.ref d k off) x (.clo f a b)=if alive s d k off 1 then some [(.cell ⟨d,k,off⟩,.clo f a b)] else none:=by
 cases x<;>(simp only[dr,bga,and_self,if_true])
def Uj (l:Loc) (n i off:Nat) (y:D):Option V→Option (List (Loc×V))
 |some (.own false z es)=>if y.cells.length=n∧y.storable then(es[i]?).bind fun e=>(e.setAt off y.cells).map fun e'=>[(l,.own false z (es.set i e'))] else none
 |_=>none
@[go_sem] theorem Xy (s:Get) (n:Nat) (l:Loc) (i off:Nat) (x:AE) (y:D):dr s n (.Az l i off) x (.d y)=Uj l n i off y.canon (s l):=by
 unfold Uj;simp only[dr,V.asD];cases s l with
 |none=>rfl
 | some v=>cases v with
  |own nw z es=>cases nw<;>rfl
  |_=>rfl
@[go_sem] theorem storE_own (l:Loc) (n i off:Nat) (y:D) (z:Nat) (es:List D):Uj l n i off y (some (.own false z es))=if y.cells.length=n∧y.storable then(es[i]?).bind fun e=>(e.setAt off y.cells).map fun e'=>[(l,.own false z (es.set i e'))] else none:=rfl
def recQ (cfg:Cfg) (k:Nat) (s:Get) (i:Nat) (r:List (Nat×Nat×AE)) (j:Nat):Option V→Option (List V×List (Loc×V))
 |some (.own _ z es)=>if j=k then none else(Si cfg k (AN s [(.slot j,.AY)]) (i+1) r).map fun p=>(.own true z es::p.1,(.slot j,.AY)::p.2)
 |some (.d y)=>if y.AW then(Si cfg k s (i+1) r).map fun p=>(.d y.can::p.1,p.2) else none
 |_=>none
attribute [go_sem] List.replicate_zero Int.toNat_zero
def topQ (len:Nat):Option Int→Option Nat
 |some n=>if 0≤n∧n≤len then some n.toNat else none
 |none=>none
@[go_sem] theorem evNil_ref (dst:Option Nat) (d k o:Nat):IV dst (.ref d k o)=some (AO dst (.ref d k o)):=rfl
@[go_sem] theorem evIdx_slZ (s:Get) (dst:Option Nat) (z:Nat) (x:AE) (es:List D):C7 s dst z x (.d (.sl es)) 0=(es[0]?).bind fun e=>if e.cells.length=z then some (AO dst (.Ax e 0)) else none:=by
 cases es<;>cases x<;>rfl
def fX (k:Nat) (f:FuncId):List V→List V→Option (List (Loc×V))
 | [],[]=>some [(.slot k,.d (.fn f))]
 |xs,ys=>if xs.all V.Ad&&ys.all V.Ad then some [(.slot k,.clo f xs ys)] else none
@[go_sem] theorem U_mkF (s:Get) (k:Nat) (f:FuncId) (a b:List AE):Ag cfg orc dep s ⟨some k,none,.mkF f a b⟩=(BK cfg s a).bind fun xs=>(BK cfg s b).bind fun ys=>fX k f xs ys:=by
 show At cfg dep s (some k) (.mkF f a b)=_;simp only[At];cases BK cfg s a with
 |none=>rfl
 | some xs=>
  cases BK cfg s b with
  |none=>cases xs<;>rfl
  |some ys=>cases xs<;>cases ys<;>rfl
@[go_sem] theorem mkFV_b (k:Nat) (f:FuncId) (xs:List V) (y:V) (ys:List V):fX k f xs (y::ys)=if xs.all V.Ad&&(y::ys).all V.Ad then some [(.slot k,.clo f xs (y::ys))] else none:=by
 cases xs<;>rfl
@[go_sem] theorem mkFV_a (k:Nat) (f:FuncId) (x:V) (xs ys:List V):fX k f (x::xs) ys=if(x::xs).all V.Ad&&ys.all V.Ad then some [(.slot k,.clo f (x::xs) ys)] else none:=by
 cases ys<;>rfl
def S9 (own:Bool) (vs:List V):V→Option (Bool×FuncId×List V)
 | .d (.fn f)=>some (own,f,vs)
 | .clo f a b=>if a.all V.Ad&&b.all V.Ad then some (own,f,a++vs++b) else none
 |_=>none
@[go_sem] theorem tgtV_clo (own:Bool) (vs:List V) (f:FuncId) (a b:List V):S9 own vs (.clo f a b)=if a.all V.Ad&&b.all V.Ad then some (own,f,a++vs++b) else none:=rfl
theorem yc (s:Get) (own:Bool) (x:AE) (args:List AE):target cfg s (.BO own x args)=(val cfg s x).bind fun v=>(BK cfg s args).bind fun vs=>S9 own vs v:=by
 simp only[target];cases val cfg s x with
 |none=>rfl
 | some v=>
  cases BK cfg s args with
  | none=>cases v with
   |d y=>cases y<;>rfl
   |_=>rfl
  | some vs=>cases v with
   |d y=>cases y<;>rfl
   |_=>rfl
@[go_sem] theorem U_callv (s:Get) (k:Nat) (own:Bool) (x:AE) (args:List AE):Ag cfg orc dep s ⟨some k,none,.BO own x args⟩=(val cfg s x).bind fun v=>(BK cfg s args).bind fun vs=>(S9 own vs v).bind fun t=>BZ orc s (some k) t.1 t.2.1 t.2.2:=by
 unfold Ag;simp only[A5,Option.isNone_some,Bool.false_and,aa8,if_false,BA,if_true,B9,yc];cases val cfg s x with
 |none=>rfl
 | some v=>simp only[Option.bind_some];cases BK cfg s args with
  |none=>rfl
  | some vs=>simp only[Option.bind_some];cases S9 own vs v with
   |none=>rfl
   |some t=>simp only[Ck,Option.bind_some];cases BZ orc s (some k) t.1 t.2.1 t.2.2<;>rfl
@[go_sem] theorem argD_ref (s:Get) (d k o:Nat):Dy s (.ref d k o)=none:=rfl
@[go_sem] theorem argD_clo (s:Get) (f:FuncId) (a b:List V):Dy s (.clo f a b)=none:=rfl
noncomputable def goM (X:Kx) (r:List AV) (Ak:List Nat) (K:List Kf):Option St→Ans
 |some s'=>goR X r Ak K s'
 |none=>none
@[go_sem] theorem goC_none (o:AV) (r:List AV) (Ak:List Nat) (s:St):goC X o r Ak K s none=goM X r Ak K (BL X.cfg (evL X.cfg) X.dep s o):=rfl
@[go_sem] theorem goM_some (r:List AV) (Ak:List Nat) (s:St):goM X r Ak K (some s)=goR X r Ak K s:=rfl
theorem oY (s:St) (k:Nat) (own:Bool) (f:FuncId) (args:List AE) (hc:cfg.clip f=false):BL cfg orc dep s ⟨some k,none,.call own f args⟩=(BK cfg s.get args).bind fun vs=>Bz orc dep s (some k) own f vs:=by
 unfold BL;simp only[A5,BA,sd hc,target];cases BK cfg s.get args<;>rfl
@[go_sem] theorem M_callv (s:St) (k:Nat) (own:Bool) (x:AE) (args:List AE):BL cfg orc dep s ⟨some k,none,.BO own x args⟩=(val cfg s.get x).bind fun v=>(BK cfg s.get args).bind fun vs=>(S9 own vs v).bind fun t=>Bz orc dep s (some k) t.1 t.2.1 t.2.2:=by
 unfold BL;simp only[A5,BA,B9,yc];cases val cfg s.get x with
 |none=>rfl
 | some v=>simp only[Option.bind_some];cases BK cfg s.get args with
  |none=>rfl
  |some vs=>simp only[Option.bind_some];cases S9 own vs v<;>rfl
def Sj (dep:Nat) (s:St) (dst:Option Nat) (r:V) (m:List (Cel×V)):Option (List (Loc×V))→Option St
 |some u=>some (St.upd ⟨Ac dep s.env,m⟩ u)
 |none=>if r.BP (dep+1)&&r.Ad then some (St.upd ⟨Ac dep s.env,m⟩ (AO dst r)) else none
def btk (dep:Nat) (s:St) (dst:Option Nat) (own:Bool):Ans→Option St
 |some (r,m)=>if(Ar dep m).all (fun p=>p.2.BP (dep+1)) then Sj dep s dst r (Ar dep m) (BF dst own false r) else none
 |none=>none
@[go_sem] theorem callM_def (s:St) (dst:Option Nat) (own:Bool) (f:FuncId) (vs:List V):Bz orc dep s dst own f vs=if((BH s.get vs).isNone&&vs.all V.Ad)=true then btk dep s dst own (orc f (dep+1) vs s.mem) else none:=by
 unfold Bz btk Sj;split
 · cases orc f (dep+1) vs s.mem with
   |none=>rfl
   | some p=>
    obtain⟨r,m⟩:=p;simp only;split
    · cases BF dst own false r<;>rfl
    · rfl
 · rfl
@[go_sem] theorem dM (s:St) (dst:Option Nat) (own:Bool) (r:V) (m:List (Cel×V)):btk dep s dst own (some (r,m))=if(Ar dep m).all (fun p=>p.2.BP (dep+1)) then Sj dep s dst r (Ar dep m) (BF dst own false r) else none:=rfl
@[go_sem] theorem fQ (e:List (Nat×V)) (m0:List (Cel×V)) (dst:Option Nat) (r:V) (m:List (Cel×V)) (u:List (Loc×V)):Sj dep ⟨e,m0⟩ dst r m (some u)=some (St.upd ⟨Ac dep e,m⟩ u):=rfl
@[go_sem] theorem nC:Ar dep []=[]:=rfl
@[go_sem] theorem dJ (d k o:Nat) (v:V) (r:List (Cel×V)):Ar dep ((⟨d,k,o⟩,v)::r)=if d≤dep then(⟨d,k,o⟩,v)::Ar dep r else Ar dep r:=rfl
@[go_sem] theorem dH:Ac dep []=[]:=rfl
@[go_sem] theorem ZV (k:Nat) (v:V) (r:List (Nat×V)):Ac dep ((k,v)::r)=(k,v.CY dep)::Ac dep r:=rfl
@[go_sem] theorem unbor_d (x:D):V.CY dep (.d x)= .d x:=rfl
@[go_sem] theorem unbor_ref (d k o:Nat):V.CY dep (.ref d k o)=if decide (d<dep+1)=true then .ref d k o else .AY:=rfl
@[go_sem] theorem unbor_clo (f:FuncId) (a b:List V):V.CY dep (.clo f a b)=if(V.CI (dep+1) a&&V.CI (dep+1) b)=true then .clo f a b else .AY:=rfl
@[go_sem] theorem homeN_d (n:Nat) (x:D):V.D7 n (.d x)= .d x:=rfl
@[go_sem] theorem homeN_clo (n:Nat) (f:FuncId) (a b:List V):V.D7 n (.clo f a b)=if(V.CI n a&&V.CI n b)=true then .clo f a b else .AY:=rfl
def lW (g:Option (List D)):Option D→Option (List D)
 |some x=>g.bind fun r=>if x.AW then some (x::r) else none
 |none=>none
@[go_sem] theorem gatherR_z (s:Get) (d k off:Nat):CP s d k off 0=some []:=rfl
@[go_sem] theorem gatherR_s (s:Get) (d k off n:Nat):CP s d k off (n+1)=lW (CP s d k (off+1) n) ((s (.cell ⟨d,k,off⟩)).bind Cd):=by
 rw[CP];unfold lW;cases(s (.cell ⟨d,k,off⟩)).bind Cd with
 |none=>rfl
 |some x=>cases CP s d k (off+1) n<;>rfl
@[go_sem] theorem gatR_some (g:Option (List D)) (x:D):lW g (some x)=g.bind fun r=>if x.AW then some (x::r) else none:=rfl
def S1:Option V→Option V
 |some (.own _ z es)=>some (.own false z es)
 |some v=>if v.Ad then some v else none
 |none=>none
def YW (dep:Nat) (s:Get) (z:Option Nat):Option V→Option V
 |some (.ref d j off)=>if dep≤d then match z with
   |none=>S1 (s (.cell ⟨d,j,off⟩))
   |some n=>(CP s d j off n).map fun cs=> .d (.agg cs)
  else none
 |_=>none
@[go_sem] theorem resV_cell (s:Get) (k:Nat) (z:Option Nat):FQ dep s (.cell k z)=YW dep s z (s (.slot k)):=by
 simp only[FQ,YW,S1];cases s (.slot k) with
 |none=>rfl
 | some v=>
  cases v<;>first|rfl| (simp only;split<;>first|rfl| (cases z<;>first|rfl| (rename_i d j off _;cases s (.cell ⟨d,j,off⟩)<;>rfl)))
@[go_sem] theorem resC_N (s:Get) (n d j off:Nat):YW dep s (some n) (some (.ref d j off))=if dep≤d then(CP s d j off n).map fun cs=> .d (.agg cs) else none:=rfl
@[go_sem] theorem resC_1 (s:Get) (d j off:Nat):YW dep s none (some (.ref d j off))=if dep≤d then S1 (s (.cell ⟨d,j,off⟩)) else none:=rfl
@[go_sem] theorem cellV_d (y:D):S1 (some (.d y))=some (.d y):=rfl
attribute [go_sem] acm acf Bool.true_and Bool.false_and Bool.and_true Bool.and_false Bool.true_or Bool.false_or Bool.or_true Bool.or_false true_and and_true and_self acs Nat.lt_add_one Option.some.injEq Loc.slot.injEq beq_self_eq_true List.length_cons List.length_nil decide_true decide_false Bool.and_self bne_self_eq_false aa8
attribute [go_sem] Cel.mk.injEq Loc.cell.injEq false_and and_false Nat.zero_add abt List.drop_zero Nat.sub_zero au jh abl abk
def V.dem:V→V
 | .own _ _ es=> .d (.sl es)
 |v=>v
@[go_sem] theorem dem_nil (e:List (Nat×V)):List.foldl (fun e k=>BR k e) e []=e:=rfl
@[go_sem] theorem dem_cons (e:List (Nat×V)) (k:Nat) (r:List Nat):List.foldl (fun e k=>BR k e) e (k::r)=List.foldl (fun e k=>BR k e) (BR k e) r:=rfl
@[go_sem] theorem ZW (k k':Nat) (v:V) (r:List (Nat×V)):BR k ((k',v)::r)=if k'=k then(k',v.dem)::r else(k',v)::BR k r:=by
 cases v<;>rfl
@[go_sem] theorem dem_own (nw:Bool) (z:Nat) (es:List D):V.dem (.own nw z es)= .d (.sl es):=rfl
@[go_sem] theorem dem_d (x:D):V.dem (.d x)= .d x:=rfl
@[go_sem] theorem freeE_nil (d k:Nat):DQ d k []=[]:=rfl
@[go_sem] theorem lX (d k j:Nat) (v:V) (r:List (Nat×V)):DQ d k ((j,v)::r)=(j,v.free d k)::DQ d k r:=rfl
@[go_sem] theorem ao0 (d k:Nat):Bq d k []=[]:=rfl
@[go_sem] theorem xl (d k d' k' o:Nat) (v:V) (r:List (Cel×V)):Bq d k ((⟨d',k',o⟩,v)::r)=if d'=d∧k'=k then Bq d k r else(⟨d',k',o⟩,v.free d k)::Bq d k r:=rfl
@[go_sem] theorem free_d (d k:Nat) (x:D):V.free d k (.d x)= .d x:=rfl
@[go_sem] theorem free_own (d k:Nat) (nw:Bool) (z:Nat) (es:List D):V.free d k (.own nw z es)= .own nw z es:=rfl
@[go_sem] theorem free_ref (d k d' k' o:Nat):V.free d k (.ref d' k' o)=if d'=d∧k'=k then .AY else .ref d' k' o:=rfl
@[go_sem] theorem gb_true (b:Bool):(b==true)=b:=by cases b<;>rfl
@[go_sem] theorem gb_false (b:Bool):(b==false)= !b:=by cases b<;>rfl
attribute [go_sem] abb
@[go_sem] theorem setCells_nil (cs:List D) (off:Nat):setCells cs off []=cs:=rfl
@[go_sem] theorem Xx (cs:List D) (off:Nat) (x:D) (r:List D):setCells cs off (x::r)=setCells (cs.set off x) (off+1) r:=rfl
attribute [go_sem] List.set_cons_zero List.set_cons_succ List.set_nil
end Go.Ev
namespace Go.Ev
open Go
variable {cfg:Cfg} {orc:Orc} {dep:Nat} {X:Kx} {K:List Kf} {s:St}
def idxBQ (k n z:Nat):Option V→Option Int→Option (List (Loc×V))
 |some v,some j=>if 0≤j∧j<n then match v with
  | .ref d b o=>some [(.slot k,.ref d b (o+j.toNat*z))]
  | .Az l i o=>some [(.slot k,.Az l i (o+j.toNat*z))]
  | .Ax e o=>some [(.slot k,.Ax e (o+j.toNat*z))]
  | .d (.ptr e)=>some [(.slot k,.Ax e (j.toNat*z))]
  |_=>none else none
 |_,_=>none
attribute [go_sem] ZE
@[go_sem] theorem goEQ_some (ps:List Nat) (a b:AD) (l:List (List D)):goEQ X ps a b K s (some l)=goE X ps a b (Ac X.dep s.env) K l s.mem:=rfl
@[go_sem] theorem goE_nil (ps:List Nat) (a b:AD) (E:List (Nat×V)) (m:List (Cel×V)):goE X ps a b E K [] m=go X K ⟨E,m⟩:=rfl
theorem WT (ps:List Nat) (a b:AD) (E:List (Nat×V)) (x:List D) (l:List (List D)) (m:List (Cel×V)):goE X ps a b E K (x::l) m=Sp X a b K E m (goE X ps a b E K l) (D6 ps x (Bv E)):=rfl
@[go_sem] theorem lS (a b:AD) (E e:List (Nat×V)) (m:List (Cel×V)) (f:List (Cel×V)→Ans):Sp X a b K E m f (some e)=go ⟨X.cfg,X.dep+1,IJ X b K E f⟩ [.c a] ⟨e,m⟩:=rfl
@[go_sem] theorem goRnd_n (b:AD) (E:List (Nat×V)) (f:List (Cel×V)→Ans) (s:St):IJ X b K E f .normal s=go ⟨X.cfg,X.dep+1,Sq X K E f⟩ [.c b] s:=rfl
@[go_sem] theorem goEnd_n (E:List (Nat×V)) (f:List (Cel×V)→Ans) (s:St):Sq X K E f .normal s=f (Ap (X.dep+1) s.mem):=rfl
@[go_sem] theorem goEnd_r (E:List (Nat×V)) (f:List (Cel×V)→Ans) (s:St):Sq X K E f .ret s=X.k .ret ⟨E,Ap (X.dep+1) s.mem⟩:=rfl
@[go_sem] theorem putPs_nil (e:List (Nat×V)):D6 [] [] e=some e:=rfl
@[go_sem] theorem fO (p:Nat) (ps:List Nat) (d:D) (ds:List D) (e:List (Nat×V)):D6 (p::ps) (d::ds) e=D6 ps ds (st e p (.d d)):=rfl
@[go_sem] theorem eN:Bv []=[]:=rfl
@[go_sem] theorem cM (k:Nat) (v:V) (r:List (Nat×V)):Bv ((k,v)::r)=(k,v.GL)::Bv r:=rfl
@[go_sem] theorem eL (d k o:Nat):(V.ref d k o).GL= .ref d k o:=rfl
@[go_sem] theorem eM (f:FuncId) (a b:List V):(V.clo f a b).GL= .clo f a b:=rfl
def bsm (cfg:Cfg) (f:FuncId):Option (List D)→Option (List (List D))
 |some ds=>(cfg.iter f).bind fun g=>g ds
 |none=>none
@[go_sem] theorem cU (f:FuncId) (caps:List V):Cy cfg (.clo f [] caps)=bsm cfg f (CC caps):=by
 unfold bsm Cy;cases h1:cfg.iter f with
 |none=>cases h2:CC caps<;>simp only[h1,h2]<;>rfl
 |some g=>cases h2:CC caps<;>simp only[h1,h2]<;>rfl
@[go_sem] theorem cT (f:FuncId) (ds:List D):bsm cfg f (some ds)=(cfg.iter f).bind fun g=>g ds:=rfl
end Go.Ev
namespace Go.Ev
open Go
abbrev oo (k:Nat) (op:IOp):AV:=⟨some k,none,op⟩
abbrev og (k j:Nat) (b:Bool) (op:IOp):AV:=⟨some k,some (j,b),op⟩
abbrev ow (op:IOp):AV:=⟨none,none,op⟩
abbrev ci (n:Int):AE:= .c (.int .i64 n)
abbrev Ops:=List AV
abbrev rg (l:Ops) (Ak:List Nat):AD:= .region l [] Ak
abbrev Gr (X:Kx) (K:List Kf) (s:St) (r:AD) (l:Ops) (Ak:List Nat):Prop:=go X (.c r::K) s=goR X l Ak K s
abbrev Gu (X:Kx) (K:List Kf) (s:St) (r:AD) (n:List (Nat×Nat)) (l:Ops) (Ak:List Nat):Prop:=go X (.c r::K) s=F6 X s.env true [] n l Ak K s
abbrev Gn (X:Kx) (K:List Kf) (s:St) (r c:AD):Prop:=go X (.c r::K) s=go X (.c c::K) s
abbrev Uc (cfg:Cfg) (f:FuncId):Prop:=(∀ (orc:Orc) (dep:Nat) (s:Get) (k:Nat) (own:Bool) (args:List AE),Ag cfg orc dep s ⟨some k,none,.call own f args⟩=(BK cfg s args).bind fun vs=>IW cfg orc s (some k) own f args vs)∧
 ∀ (orc:Orc) (dep:Nat) (s:St) (k:Nat) (own:Bool) (args:List AE),BL cfg orc dep s ⟨some k,none,.call own f args⟩=(BK cfg s.get args).bind fun vs=>Bz orc dep s (some k) own f vs
theorem uc {cfg:Cfg} {f:FuncId} (h:cfg.clip f=false):Uc cfg f:=⟨fun _ _ s k own args=>bY s k own f args h,fun _ _ s k own args=>oY s k own f args h⟩
abbrev Uk (cfg:Cfg) (f:FuncId):Prop:=∀ (orc:Orc) (dep:Nat) (s:Get) (k:Nat) (own:Bool) (x:AE),Ag cfg orc dep s ⟨some k,none,.call own f [x]⟩=(val cfg s x).bind fun v=>Dv (some k) x v
theorem uk {cfg:Cfg} {f:FuncId} (h:cfg.clip f=true):Uk cfg f:=fun _ _ s k own x=>oV s k own f x h
abbrev Oe (cfg:Cfg) (f:FuncId) (ar:Nat) (res:List Dm) (c:AD):Prop:=∀ (dep:Nat) (vs:List V) (m:List (Cel×V)),vs.length=ar→Ew vs m=true→evL cfg f dep vs m=go (fx cfg dep res) [.c c] ⟨entry 0 vs,m⟩
abbrev Of (X:Kx) (f:FuncId) (vs:List V) (c:AD):Prop:=evL X.cfg f 0 vs []=go X [.c c] ⟨entry 0 vs,[]⟩
end Go.Ev
namespace Go.Ev
open Go
def cmpB (a b:List UInt8):Int:=if Op.bytesLess a b then -1 else if Op.bytesLess b a then 1 else 0
def xCompare:List D→Option V
 | [.sl a,.sl b]=>(di a).bind fun a=>(di b).map fun b=> .d (.int .i64 (cmpB a b))
 |_=>none
def cD:List D→Option V
 | [.int .i64 n]=>if 0≤n∧n≤1000000000 then some (.own false 1 (List.replicate n.toNat D.unk)) else none
 |_=>none
def bhd:List D→Option (List UInt8)
 | []=>some []
 | .int .u8 n::r=>if 0≤n∧n<256 then(bhd r).map (UInt8.ofNat n.toNat:: ·) else none
 |_=>none
def textsOf? :List D→Option (List (List UInt8))
 | []=>some []
 | .sl e::r=>(bhd e).bind fun b=>(textsOf? r).map (b:: ·)
 |_=>none
def txt (b:List UInt8):D:= .sl (b.map AM)
end Go.Ev
namespace Go.Ev
open Go
theorem ej {α:Type} {l:List α} {i:Nat} {c:α} {r:List α} (hr:l.drop i=c::r):i<l.length∧l[i]? =some c∧l.drop (i+1)=r:=by
 have hlt:i<l.length:=by
   apply Classical.byContradiction;intro h;rw[acp aa1] at hr;cases hr
 refine⟨hlt,?_,?_⟩
 · have:=congrArg (·[0]?) hr
   simpa using this
 · rw[← List.drop_drop,hr];rfl
theorem de {α:Type} {l:List α} {i:Nat} (hr:l.drop i=[]):l.length≤i:=by simpa using hr
@[go_sem] theorem canon_txt (b:List UInt8):(txt b).canon=txt b:=rfl
@[go_sem] theorem can_txt (b:List UInt8):(txt b).can=txt b:=rfl
@[go_sem] theorem len_txt (b:List UInt8):V.len? (.d (txt b))=some b.length:=by simp[txt,V.len?]
@[go_sem] theorem cont_txt (s:Get) (b:List UInt8):cont s (.d (txt b))=some (b.map AM):=rfl
@[go_sem] theorem plain_txt (b:List UInt8):(txt b).plain=b.isEmpty:=by cases b<;>rfl
@[go_sem] theorem evIdx_txt (s:Get) (dst:Option Nat) (z:Nat) (x:AE) (b:List UInt8) (i:Nat):C7 s dst z x (.d (txt b)) (i:Int)=((b.map AM)[i]?).bind fun e=>if e.cells.length=z then some (AO dst (.Ax e 0)) else none:=bs1 _ _ _ _ _
end Go.Ev
namespace Go.Ev
open Go
abbrev Tx:=List UInt8
def Rise:List Tx→Prop
 | []=>True
 |x::r=>(∀ y∈r,Op.bytesLess x y=true)∧Rise r
def Yh (x:Tx):List Tx→Nat
 | []=>0
 |y::r=>if Op.bytesLess y x then Yh x r+1 else 0
def insP (x:Tx) (ws:List Tx):List Tx:=if ws[Yh x ws]? =some x then ws else ws.take (Yh x ws)++x::ws.drop (Yh x ws)
end Go.Ev
namespace Go.Ev
open Go
section
variable {F:Nat→Prop} {w:World} {P:Program}
theorem xq:∀ (n t:Nat) (acc:Array Value),(∀ v∈acc.toList,v.oneCell'=true)→∀ v∈(Extern.BytealgMakeNoZero.digits n t acc).toList,v.oneCell'=true
 |0,_,acc,h=>h
 | n+1,t,acc,h=>xq n _ _ fun v hv=>by
  rw[Array.toList_push,ab1,ab9] at hv;rcases hv with hv|rfl
  · exact h v hv
  · rfl
theorem eJ (ps:Array TypeId) {t e:TypeId} (ht:P.underlying t=some (.slice e)) (n:Nat) (hn:n≤1000000000):
   ∃ cs:Array Value,(Extern.BytealgMakeNoZero.makeNoZero ps #[t] #[.int .i64 n]).run P w= .ok (.slice (some (ad3 w.heap.size 0)) n cs.size) (w.drew.drew.alloc (.cells cs e))∧n≤cs.size∧∀ v∈cs.toList,v.oneCell'=true:=by
 refine⟨Extern.BytealgMakeNoZero.digits (grownCap w n 0 e) ((Question.extern "internal/bytealg.MakeNoZero.bytes" 0).cut (w.tape (w.drawn+1) (.extern "internal/bytealg.MakeNoZero.bytes" 0))) #[],?_,?_,xq _ _ _ aa3⟩
 · have h1:¬ (n:Int)<0:=aa1
   have h2:¬ (281474976710656:Int)<(n:Int):=aa1;have hdef:Extern.BytealgMakeNoZero.makeNoZero ps #[t] #[.int .i64 n]=
    (do
     let .slice elem ←underlying t|stuck "bytealg.MakeNoZero: slice type expected"
     if(n:Int)<0||(n:Int)>2 ^ 48 then runtimePanic (.error "makeslice: len out of range")
     let cap ←choose (.appendCap (n:Int).toNat 0 elem)
     askRoom cap
     let bytes ←choose (.extern "internal/bytealg.MakeNoZero.bytes" 0)
     let a ←newRow elem (Extern.BytealgMakeNoZero.digits cap bytes #[])
     pure (.slice (some a) (n:Int).toNat cap)):=rfl
   rw[hdef];simp[run_underlying ht,h1,h2,Question.forced,newRow,Lib.size_digits,grownCap]
 · rw[Lib.size_digits]
   simpa using grownCap_ge w n 0 e
end
end Go.Ev
namespace Go.Ev
open Go Go.RowKit
variable {P:Program} {W:World} {H:Type} {enc:TypeId×Value→H} {base:Nat} {spare:Nat→Bool} {held:Bool} {t e u:TypeId} {v:Value} {x:DataW H×List MemPlace}
theorem qb:∀ es:List D,(∀ d∈es,∃ m,d=D.int .u8 m∧(Lit.int .u8 m).wf=true)→∃ b:Tx,es=b.map AM
 | [],_=>⟨[],rfl⟩
 | d::es,h=>by
  obtain⟨m,rfl,hw⟩:=h d aa3;obtain⟨b,rfl⟩:=qb es fun d hd=>h d (by simp[hd])
  simp[Lit.wf,IntKind.min,IntKind.max,IntKind.signed,IntKind.bits] at hw;refine⟨UInt8.ofNat m.toNat::b,?_⟩;rw[List.map_cons,fu aa1]
  congr 2
  omega
theorem Y4 {n:Nat} (he:P.underlying e=some (.slice u)) (hu:P.underlying u=some (.int .u8)) (hz:P.cellsOf u=1):IsF P W n e fun xs=>∃ b:Tx,xs=[txt b]∧b.length≤maxLen:=by
 have h:=IsF.slice (P:=P) (w:=W) (n:=n) he aa1 (fun m _=>IsF.int hu) mkD (fun xs hx _=>by obtain⟨m,rfl,_⟩:=hx;rfl)
 intro H enc base spare held cs x hf;obtain⟨xs,hr,es,hxs,hlen,hes⟩:=h H enc base spare held cs x hf;obtain⟨b,rfl⟩:=qb es fun d hd=>by
  obtain⟨ys,⟨m,rfl,hw⟩,_,rfl⟩:=hes d hd;exact⟨m,rfl,hw⟩
 exact⟨xs,hr,b,hxs,by simpa using hlen⟩
end Go.Ev
namespace Go.Ev
open Go
def xFmtI:List D→Option V
 | [.int .i64 n,.int .i64 b]=>if -9223372036854775808≤n∧n≤9223372036854775807∧b=10 then some (.d (.str (cS n))) else none
 |_=>none
def lv:List D→Option (List (List UInt8))
 | []=>some []
 | .str b::r=>(lv r).map (b:: ·)
 |_=>none
def xJoin:List D→Option V
 | [.sl es,.str sep]=>(lv es).bind fun l=>if l.length≤1000000∧(Lib.join l sep).length≤1000000000 then some (.d (.str (Lib.join l sep))) else none
 |_=>none
def ev:List (List UInt8)→List (List UInt8)→Bool
 |_,[]=>true
 |had,s::r=> !(s.isEmpty||decide (100<s.length)||had.contains s)&&ev (s::had) r
def v8:List D→Option V
 | [.sl es]=>(lv es).bind fun l=>if l.length≤1000000 then some (.d (.bool (ev [] l))) else none
 |_=>none
end Go.Ev
namespace Go.Ev
open Go
inductive Ty where
 |mk (kind:Int) (names:List Tx) (kids:List Ty) (len prec scale:Int)
inductive Va where
 |mk (null:Bool) (i n:Int) (b:Tx) (kids:List Va)
namespace Ty
def kind:Ty→Int| .mk k _ _ _ _ _=>k
def names:Ty→List Tx| .mk _ n _ _ _ _=>n
def kids:Ty→List Ty| .mk _ _ k _ _ _=>k
def len:Ty→Int| .mk _ _ _ l _ _=>l
def prec:Ty→Int| .mk _ _ _ _ p _=>p
def scale:Ty→Int| .mk _ _ _ _ _ s=>s
mutual
def d:Ty→D
 | .mk k ns ks l p s=> .agg [.int .i64 k,.sl (ns.map D.str),.sl (ds ks),.int .i64 l,.int .i64 p,.int .i64 s]
def ds:List Ty→List D
 | []=>[]
 |t::r=>t.d::ds r
end
theorem Ge:∀ l,ds l=l.map d
 | []=>rfl
 |t::r=>by rw[ds,Ge r,List.map_cons]
mutual
def size:Ty→Nat
 | .mk _ _ ks _ _ _=>1+BN ks
def BN:List Ty→Nat
 | []=>0
 |t::r=>t.size+BN r
end
theorem size_pos:∀ t:Ty,0<t.size
 | .mk _ _ _ _ _ _=>by rw[size];omega
theorem size_eq:∀ t:Ty,t.size=1+BN t.kids
 | .mk _ _ _ _ _ _=>rfl
theorem DZ:∀ {l:List Ty} {t:Ty},t∈l→t.size≤BN l
 | x::l,t,h=>by
  rw[BN];rcases abr.1 h with e|e
  · rw[e];omega
  · have:=DZ e;omega
theorem Bu {t k:Ty} (h:k∈t.kids):k.size<t.size:=by
 have:=DZ h;rw[size_eq t];omega
theorem EM:∀ t:Ty,t.d= .agg [.int .i64 t.kind,.sl (t.names.map D.str),.sl (t.kids.map d),.int .i64 t.len,.int .i64 t.prec,.int .i64 t.scale]
 | .mk k ns ks l p s=>by rw[d,Ge];rfl
end Ty
namespace Va
def null:Va→Bool| .mk n _ _ _ _=>n
def i:Va→Int| .mk _ i _ _ _=>i
def n:Va→Int| .mk _ _ n _ _=>n
def b:Va→Tx| .mk _ _ _ b _=>b
def kids:Va→List Va| .mk _ _ _ _ k=>k
mutual
def d:Va→D
 | .mk nl i n b ks=> .agg [.bool nl,.int .i64 i,.int .i64 n,txt b,.sl (ds ks)]
def ds:List Va→List D
 | []=>[]
 |t::r=>t.d::ds r
end
theorem Ge:∀ l,ds l=l.map d
 | []=>rfl
 |t::r=>by rw[ds,Ge r,List.map_cons]
mutual
def size:Va→Nat
 | .mk _ _ _ _ ks=>1+BN ks
def BN:List Va→Nat
 | []=>0
 |t::r=>t.size+BN r
end
theorem size_pos:∀ t:Va,0<t.size
 | .mk _ _ _ _ _=>by rw[size];omega
theorem size_eq:∀ t:Va,t.size=1+BN t.kids
 | .mk _ _ _ _ _=>rfl
theorem DZ:∀ {l:List Va} {t:Va},t∈l→t.size≤BN l
 | x::l,t,h=>by
  rw[BN];rcases abr.1 h with e|e
  · rw[e];omega
  · have:=DZ e;omega
theorem Bu {t k:Va} (h:k∈t.kids):k.size<t.size:=by
 have:=DZ h;rw[size_eq t];omega
theorem EM:∀ t:Va,t.d= .agg [.bool t.null,.int .i64 t.i,.int .i64 t.n,txt t.b,.sl (t.kids.map d)]
 | .mk nl i n b ks=>by rw[d,Ge];rfl
end Va
@[go_sem] theorem CT (t:Ty):t.d.cells=[.int .i64 t.kind,.sl (t.names.map D.str),.sl (t.kids.map Ty.d),.int .i64 t.len,.int .i64 t.prec,.int .i64 t.scale]:=by rw[t.EM];rfl
@[go_sem] theorem FF (v:Va):v.d.cells=[.bool v.null,.int .i64 v.i,.int .i64 v.n,txt v.b,.sl (v.kids.map Va.d)]:=by rw[v.EM];rfl
@[go_sem] theorem ZN (t:Ty):D.agg [.int .i64 t.kind,.sl (t.names.map D.str),.sl (t.kids.map Ty.d),.int .i64 t.len,.int .i64 t.prec,.int .i64 t.scale]=t.d:=t.EM.symm
@[go_sem] theorem ZM (v:Va):D.agg [.bool v.null,.int .i64 v.i,.int .i64 v.n,txt v.b,.sl (v.kids.map Va.d)]=v.d:=v.EM.symm
@[go_sem] theorem fold_va_b (v:Va) (c:Bool) (h:v.null=c):D.agg [.bool c,.int .i64 v.i,.int .i64 v.n,txt v.b,.sl (v.kids.map Va.d)]=v.d:=by rw[← h];exact v.EM.symm
@[go_sem] theorem canon_ty (t:Ty):t.d.canon=t.d:=by rw[t.EM];rfl
@[go_sem] theorem canon_va (v:Va):v.d.canon=v.d:=by rw[v.EM];rfl
@[go_sem] theorem canA_ty (t:Ty):t.d.Fb=t.d:=by rw[t.EM];rfl
@[go_sem] theorem cJ (t:Ty):t.d.storable=true:=by rw[t.EM];rfl
@[go_sem] theorem cI (v:Va):v.d.storable=true:=by rw[v.EM];rfl
@[go_sem high] theorem ld_ty (t:Ty):ldD (some 6) t.d 0=some t.d:=by rw[t.EM];rfl
@[go_sem high] theorem ld_va (v:Va):ldD (some 5) v.d 0=some v.d:=by rw[v.EM];rfl
@[go_sem] theorem gH (b:Tx):(txt b).AW=true:=rfl
def Au (k:Nat) (t:Ty):List (Cel×V):=[(⟨0,k,0⟩,.d (.int .i64 t.kind)),(⟨0,k,1⟩,.d (.sl (t.names.map D.str))),(⟨0,k,2⟩,.d (.sl (t.kids.map Ty.d))),(⟨0,k,3⟩,.d (.int .i64 t.len)),(⟨0,k,4⟩,.d (.int .i64 t.prec)),(⟨0,k,5⟩,.d (.int .i64 t.scale))]
def Eu (k:Nat) (v:Va):List (Cel×V):=[(⟨0,k,0⟩,.d (.bool v.null)),(⟨0,k,1⟩,.d (.int .i64 v.i)),(⟨0,k,2⟩,.d (.int .i64 v.n)),(⟨0,k,3⟩,.d (txt v.b)),(⟨0,k,4⟩,.d (.sl (v.kids.map Va.d)))]
def ES (k:Nat) (c:Bool) (v:Va):List (Cel×V):=[(⟨0,k,0⟩,.d (.bool c)),(⟨0,k,1⟩,.d (.int .i64 v.i)),(⟨0,k,2⟩,.d (.int .i64 v.n)),(⟨0,k,3⟩,.d (txt v.b)),(⟨0,k,4⟩,.d (.sl (v.kids.map Va.d)))]
end Go.Ev
namespace Go.Ev
open Go Go.RowKit
theorem wg:∀ {es:List D} {l:List Tx},lv es=some l→es=l.map D.str
 | [],l,h=>by cases h;rfl
 | e::es,l,h=>by
  unfold lv at h;split at h
  · rename_i he;cases he
  · rename_i b r he
    cases he;simp only[aa6] at h;obtain⟨l',h2,rfl⟩:=h;rw[List.map_cons,← wg h2]
  · cases h
theorem we:∀ l:List Tx,lv (l.map D.str)=some l
 | []=>rfl
 |x::l=>by rw[List.map_cons,lv,we l];rfl
section
variable {F:Nat→Prop} {w:World}
theorem Rd.X9 {v:Value} {l:List Tx} (h:Rd F w v (.sl (l.map D.str))):(l=[]∧∃ ad cap,v= .slice ad 0 cap)∨(l≠[]∧∃ b o cap,v= .slice (some (ad3 b o)) l.length cap∧l.length≤cap∧b<w.heap.size∧∀ (j:Nat) x,l[j]? =some x→w.cell? (ad3 b (o+j))=some (.string ⟨x.toArray⟩)):=by
 generalize hd:l.map D.str=es at h;cases h with
 |slA ad cap=>exact .inl ⟨by simpa using hd,ad,cap,rfl⟩
 | sl b o len cap z es vs hlen hcap hz hc hm hr=>
  subst hd;rw[abl] at hlen;subst hlen;cases l with
  |nil=>exact .inl ⟨rfl,_,_,rfl⟩
  | cons y r=>
   have hz1:z=1:=(hz (.str y) aa3).symm;subst hz1;have hcell:∀ (j:Nat) x,(y::r)[j]? =some x→w.cell? (ad3 b (o+j))=some (.string ⟨x.toArray⟩):=fun j x hj=>by
    have he:((y::r).map D.str)[j]? =some (.str x):=by rw[abu,hj];rfl
    have h1:=hm j _ he 0 (.str x) rfl;have h2:=hr j _ he 0 (.str x) rfl;have h3:vs j 0= .string ⟨x.toArray⟩:=h2.B7;rw[h3] at h1;simpa using h1.2
   refine .inr ⟨by simp,b,o,cap,rfl,hcap,?_,hcell⟩
   have:=World.block_lt_of_cell? _ _ (hcell 0 y rfl);simpa using this
end
variable {P:Program} {cfg:Cfg} {f:FuncId} {fn:Func} {c:Code} (hf:P.funcs[f]? =some fn) (hname:(fn.name=="runtime.NumGoroutine")=false) (hb:fn.body=some c)
include hf hname hb
theorem avf (h0:∀ (a:Option Addr) (c:Nat) (w:World),Calls P f #[.slice a 0 c] w fun e w'=>e= .returned (.bool true)∧Below w.heap.size w w')
   (h:∀ (b o c:Nat) (l:List Tx) (w:World),l.length≤1000000→l.length≤c→b<w.heap.size→(∀ (j:Nat) x,l[j]? =some x→w.cell? ⟨b,o+j,none⟩=some (.string ⟨x.toArray⟩))→
     Calls P f #[.slice (some ⟨b,o,none⟩) l.length c] w fun e w'=>e= .returned (.bool (ev [] l))∧Below w.heap.size w w'):DG P cfg f v8:=by
 refine da hf hname hb fun ds r hr=> ?_
 unfold v8 at hr;split at hr
 · rename_i es
   simp only[abj] at hr;obtain⟨l,hl,hr⟩:=hr;split at hr
   · rename_i hn
     cases hr;refine⟨_,rfl,rfl,fun F args w h1 h2 h4=> ?_⟩
     obtain⟨v,rfl,hv⟩:=bfo h1 h2;rw[wg hl] at hv;rcases hv.X9 with⟨rfl,ad,cap,rfl⟩|⟨hne,b,o,cap,rfl,hcap,hblk,hcell⟩
     · exact(h0 ad cap w).mono fun e w' ⟨e1,e2⟩=>⟨_,e1,.bool _,e2⟩
     · exact(h b o cap l w hn hcap hblk hcell).mono fun e w' ⟨e1,e2⟩=>⟨_,e1,.bool _,e2⟩
   · cases hr
 · cases hr
end Go.Ev
namespace Go.Ev
open Go
structure AF where
 f:FuncId
 F:Func
 ad:AG
def S3 (P:Program):List AF→FuncId→Option AP
 | [],_=>none
 |a::r,f=>if a.f=f then AQ P a.ad a.F else S3 P r f
def AOk (P:Program) (a:AF):Prop:=P.funcs[a.f]? =some a.F∧(a.F.name=="runtime.NumGoroutine")=false
def Sd (P:Program) (l:List AF):Prop:=∀ a∈l,AOk P a
theorem Sd.nil {P:Program}:Sd P []:=fun _ h=>by cases h
theorem Sd.cons {P:Program} {f:FuncId} {F:Func} {ad:AG} {l:List AF} (h:P.funcs[f]? =some F) (hn:(F.name=="runtime.NumGoroutine")=false) (hl:Sd P l):Sd P (⟨f,F,ad⟩::l):=fun q hq=>by
 rcases abr.1 hq with rfl|hq
 · exact⟨h,hn⟩
 · exact hl q hq
theorem bfn {P:Program}:∀ {l:List AF},Sd P l→∀ {f:FuncId} {fn:AP},S3 P l f=some fn→∃ F ad c,P.funcs[f]? =some F∧(F.name=="runtime.NumGoroutine")=false∧F.body=some c∧AQ P ad F=some fn
 | [],_,_,_,h=>by cases h
 | a::l,hl,f,fn,h=>by
  unfold S3 at h;split at h
  · rename_i e
    obtain⟨h1,h2⟩:=hl a aa3;subst e;cases hb:a.F.body with
    |none=>unfold AQ at h;rw[hb] at h;cases h
    |some c=>exact⟨a.F,a.ad,c,h1,h2,hb,h⟩
  · exact bfn (fun q hq=>hl q (abw _ hq)) h
def Wf (P:Program) (tbl:List (FuncId×AP)) (tab:List AF) (f:FuncId):Option AP:=match lk tbl f with
 |some fn=>some fn
 |none=>S3 P tab f
def UX (g:FuncId):List D→Option V
 | [.sl es]=>some (.clo g [] [.d (.ptr (.sl es))])
 |_=>none
def xSeqN (g:FuncId):List D→Option V
 | [.sl es,.int .i64 n]=>if 1≤n then some (.clo g [] [.d (.ptr (.sl es)),.d (.ptr (.int .i64 n))]) else none
 |_=>none
def eq:Nat→List D→List (List D)
 |_,[]=>[]
 |i,x::r=>[.int .i64 i,x]::eq (i+1) r
def iAll:List D→Option (List (List D))
 | [.ptr (.sl es)]=>some (eq 0 es)
 |_=>none
def oE (z:Nat):D→Bool
 | .agg ds=>ds.length==z
 |_=>false
def xg (z:Nat):List D→Option (List (List D))
 | [.ptr (.sl es)]=>if es.all (oE z)=true∧es.length≤1000000000 then some (eq 0 es).reverse else none
 |_=>none
def Ci:Nat→List Ty→List Nat
 |_,[]=>[]
 |i,k::r=>i::Ci (i+k.size) r
mutual
def HI (i:Nat) (parent deep:Int):Ty→List (Ty×List Nat×Int×Int)
 | .mk k ns ks l p s=>(.mk k ns ks l p s,Ci (i+1) ks,parent,deep)::lj (i+1) i (deep+1) ks
def lj (i parent:Nat) (deep:Int):List Ty→List (Ty×List Nat×Int×Int)
 | []=>[]
 |k::r=>HI i parent deep k++lj (i+k.size) parent deep r
end
def sigD (n:Ty×List Nat×Int×Int):D:=
 .agg [.int .i64 n.1.kind,.sl (n.1.names.map D.str),.sl (n.1.kids.map Ty.d),.int .i64 n.1.len,.int .i64 n.1.prec,.int .i64 n.1.scale,.sl (n.2.1.map fun k=> .int .i64 (k:Nat)),.int .i64 n.2.2.1,.int .i64 n.2.2.2]
def cF (f:D→Option Ty):List D→Option (List Ty)
 | []=>some []
 | d::r=>match f d,cF f r with
  |some t,some l=>some (t::l)
  |_,_=>none
def tyOf:Nat→D→Option Ty
 |0,_=>none
 | n+1,.agg [.int .i64 k,.sl nm,.sl kids,.int .i64 l,.int .i64 p,.int .i64 s]=>match lv nm,cF (tyOf n) kids with
  |some ns,some ks=>some (.mk k ns ks l p s)
  |_,_=>none
 |_,_=>none
def xFlat:List D→Option V
 | [.AB,d,.int .i64 p,.int .i64 q]=>(tyOf 1000 d).bind fun t=>
  if -9223372036854775808≤p∧p≤9223372036854775807∧0≤q∧q+t.size≤10000 then some (.own false 9 ((HI 0 p q t).map sigD)) else none
 |_=>none
end Go.Ev
namespace Go.Ev
open Go
abbrev Hn:=List (FuncId×List D×V)
def aoj:Hn→FuncId→List D→Option V
 | [],_,_=>none
 | (g,ds,v)::r,f,xs=>if g=f then(if D.DI ds xs then some v else aoj r f xs) else aoj r f xs
def V9 (tb:Hn) (f:FuncId):Nat→List V→List (Cel×V)→Option V
 |0,vs,[]=>(CC vs).bind (aoj tb f)
 |_,_,_=>none
def Sy (cfg:Cfg) (tb:Hn):Nat→Orc
 |0=>fun _ _ _ _=>none
 | n+1=>fun f dep vs m=>match V9 tb f dep vs m with
  |some v=>some (v,[])
  | none=>match cfg.ext f with
   |some g=>((CC vs).bind g).map fun v=>(v,m)
   | none=>match cfg.funcs f with
    |some fn=>C8 cfg (Sy cfg tb n) n fn dep vs m
    |none=>none
def Cq (cfg:Cfg) (tb:Hn):Prop:=∀ e∈tb,evL cfg e.1 0 (e.2.1.map .d) []=some (e.2.2,[])
theorem Cq.nil {cfg:Cfg}:Cq cfg []:=fun _ h=>by cases h
theorem Cq.cons {cfg:Cfg} {f:FuncId} {ds:List D} {v:V} {tb:Hn} (h:evL cfg f 0 (ds.map .d) []=some (v,[])) (ht:Cq cfg tb):Cq cfg ((f,ds,v)::tb):=fun e he=>by
 rcases abr.1 he with rfl|he
 · exact h
 · exact ht e he
theorem qu:∀ {tb:Hn} {f:FuncId} {xs:List D} {v:V},aoj tb f xs=some v→(f,xs,v)∈tb
 | [],_,_,_,h=>by cases h
 | (g,ds,u)::r,f,xs,v,h=>by
  unfold aoj at h;split at h
  · rename_i e
    split at h
    · rename_i e2
      cases h;rw[e,D.B8 e2];exact List.mem_cons_self
    · exact abw _ (qu h)
  · exact abw _ (qu h)
theorem bfr:∀ {vs:List V} {ds:List D},CC vs=some ds→vs=ds.map .d
 | [],ds,h=>by cases h;rfl
 | .d x::r,ds,h=>by
  simp only[CC] at h;cases hr:CC r with
  |none=>rw[hr] at h;cases h
  |some es=>rw[hr] at h;cases h;rw[bfr hr];rfl
 | .own _ _ _::_,_,h=>by cases h
 | .bor _ _ _::_,_,h=>by cases h
 | .Az _ _ _::_,_,h=>by cases h
 | .Ax _ _::_,_,h=>by cases h
 | .ref _ _ _::_,_,h=>by cases h
 | .clo _ _ _::_,_,h=>by cases h
 | .ifc _ _::_,_,h=>by cases h
 | .vec _::_,_,h=>by cases h
 | .B4 _::_,_,h=>by cases h
 | .rcd _::_,_,h=>by cases h
 | .AY::_,_,h=>by cases h
theorem be9 {cfg:Cfg} {tb:Hn} (ok:Cq cfg tb):∀ n,Le (Sy cfg tb n) (evL cfg)
 |0=>fun _ _ _ _ _ h=>by cases h
 | n+1=>fun f dep vs m r h=>by
  simp only[Sy] at h;split at h
  · rename_i v hm
    cases h;unfold V9 at hm;split at hm
    · cases hd:CC vs with
      |none=>rw[hd] at hm;cases hm
      | some ds=>
        rw[hd] at hm;rw[bfr hd];exact ok _ (qu hm)
    · cases hm
  · split at h
    · rename_i g hx
      rw[qz hx];exact h
    · rename_i hx
      split at h
      · rename_i fn hf
        rw[Wq hx hf];have h2:=u6 (be9 ok n) (abn n) h;unfold C8 at h2;unfold evB;split at h2
        · rename_i hc
          rw[if_pos hc];split at h2
          · rename_i s h1
            rw[af.2 ⟨n,h1⟩];exact h2
          · rename_i s h1
            rw[af.2 ⟨n,h1⟩];exact h2
          · cases h2
        · cases h2
      · cases h
theorem avr {cfg:Cfg} {tb:Hn} (ok:Cq cfg tb) {n:Nat} {f:FuncId} {d:Nat} {vs:List V} {m:List (Cel×V)} {r} (h:Sy cfg tb n f d vs m=some r):evL cfg f d vs m=some r:=be9 ok n _ _ _ _ _ h
end Go.Ev
namespace Go.Ev
open Go
structure Fld where
 num:Nat
 A0:Nat
 u:Nat
 b:List UInt8
 pl:Nat
def Af:Fld:=⟨0,0,0,[],0⟩
def Fld.d (f:Fld):D:= .agg [.int .i64 (f.num:Int),.int .i64 (f.A0:Int),.int .u64 (f.u:Int),.sl (f.b.map AM),.int .i64 (f.pl:Int)]
def leN:List UInt8→Nat
 | []=>0
 |c::r=>c.toNat+256*leN r
theorem bes:∀ l:List UInt8,leN l<256 ^ l.length
 | []=>by simp[leN]
 | c::r=>by
  have:=bes r;have h:=E1 c;simp only[leN,List.length_cons,Nat.pow_succ];omega
def b7 (l:List UInt8) (p:Nat):Fld×Nat×Nat:=
 let k:=Ay 0 0 (l.drop p)
 if k.2.2≠0 then(Af,0,k.2.2) else
 if k.1 / 8<1∨k.1 / 8>536870911 then(Af,0,2) else
 if k.1 % 8=0 then
  let v:=Ay 0 0 (l.drop (p+k.2.1))
  if v.2.2≠0 then(Af,0,v.2.2) else(⟨k.1 / 8,0,v.1,[],p⟩,k.2.1+v.2.1,0)
 else if k.1 % 8=2 then
  let v:=Ay 0 0 (l.drop (p+k.2.1))
  if v.2.2≠0 then(Af,0,v.2.2) else
  if v.1>l.length-p-(k.2.1+v.2.1) then(Af,0,3) else(⟨k.1 / 8,2,0,(l.drop (p+(k.2.1+v.2.1))).take v.1,p⟩,k.2.1+v.2.1+v.1,0)
 else if k.1 % 8=1 then
  if 8>l.length-p-k.2.1 then(Af,0,3) else(⟨k.1 / 8,1,leN ((l.drop (p+k.2.1)).take 8),[],p⟩,k.2.1+8,0)
 else if k.1 % 8=5 then
  if 4>l.length-p-k.2.1 then(Af,0,3) else(⟨k.1 / 8,5,leN ((l.drop (p+k.2.1)).take 4),[],p⟩,k.2.1+4,0)
 else(Af,0,2)
def gq (l:List UInt8):Nat→Nat→List Fld→List Fld×Nat
 |0,_,_=>([],0)
 | n+1,p,acc=>
  if p<l.length then
   if 4096≤acc.length then([],4) else
   if(b7 l p).2.2≠0 then([],(b7 l p).2.2) else gq l n (p+(b7 l p).2.1) (acc++[(b7 l p).1])
  else(acc,0)
def aa (l:List UInt8):List Fld×Nat:=if l.length>262144 then([],4) else gq l (l.length+1) 0 []
theorem x7 {l:List UInt8} {p:Nat} (h:(Ay 0 0 (l.drop p)).2.2=0) (hp:p≤l.length):(Ay 0 0 (l.drop p)).1<18446744073709551616∧1≤(Ay 0 0 (l.drop p)).2.1∧p+(Ay 0 0 (l.drop p)).2.1≤l.length∧(Ay 0 0 (l.drop p)).2.1≤10:=by
 obtain⟨h1,h2,h3,h4,h5⟩:=s9 (l.drop p) 0 0 aa1 aa3;simp only[List.length_drop] at h2;exact⟨h1,h5 h,by omega,h3⟩
end Go.Ev
namespace Go.Ev
open Go
def AZ (num v:Nat):List UInt8:=Ai 10 (num*8)++Ai 10 v
def ah (num:Nat) (v:List UInt8):List UInt8:=Ai 10 (num*8+2)++Ai 10 v.length++v
theorem x8 (u:Nat):1≤(Ai 10 u).length:=by
 unfold Ai;split<;>simp
theorem bc (k v:Nat):1≤(AZ k v).length∧(AZ k v).length≤20:=by
 unfold AZ;have:=bu 10 (k*8);have:=bu 10 v;have:=x8 (k*8);simp;omega
theorem cr (k:Nat) (v:List UInt8):1≤(ah k v).length∧(ah k v).length≤20+v.length:=by
 unfold ah;have:=bu 10 (k*8+2);have:=bu 10 v.length;have:=x8 (k*8+2);simp;omega
inductive Put where
 |u (num v:Nat)
 |b (num:Nat) (v:List UInt8)
def Put.ok:Put→Prop
 | .u num v=>1≤num∧num≤536870911∧v<18446744073709551616
 | .b num _=>1≤num∧num≤536870911
def Put.bytes:Put→List UInt8
 | .u num v=>AZ num v
 | .b num v=>ah num v
def Put.fld (p:Nat):Put→Fld
 | .u num v=>⟨num,0,v,[],p⟩
 | .b num v=>⟨num,2,0,v,p⟩
theorem Put.pos (x:Put):1≤x.bytes.length:=by
 cases x with
 |u num v=>exact(bc num v).1
 |b num v=>exact(cr num v).1
theorem bsv {l rest:List UInt8} {p:Nat} {x:Put} (hx:x.ok) (hl:l.length≤262144) (h:l.drop p=x.bytes++rest):b7 l p=(x.fld p,x.bytes.length,0):=by
 have hlen:(x.bytes++rest).length=l.length-p:=by rw[← h,List.length_drop]
 have hpos:=x.pos;rw[abk] at hlen;have hd:∀ a b,x.bytes=a++b→l.drop (p+a.length)=b++rest:=fun a b e=>by
  rw[← List.drop_drop,h,e,abv,List.drop_left]
 unfold b7;simp only;cases x with
 | u num v=>
  obtain⟨h1,h2,h3⟩:=hx;have e1:Ay 0 0 (l.drop p)=(num*8,(Ai 10 (num*8)).length,0):=by
   rw[h,Put.bytes,AZ,abv];exact lm aa1 _
  have e2:Ay 0 0 (l.drop (p+(Ai 10 (num*8)).length))=(v,(Ai 10 v).length,0):=by
   rw[hd (Ai 10 (num*8)) (Ai 10 v) rfl];exact lm h3 _
  rw[e1];simp only[ne_eq,abp,if_false];rw[if_neg aa1,if_pos aa1,e2];simp only[abp,if_false];rw[Put.fld,Put.bytes,AZ,abk,Nat.mul_div_cancel _ aa1]
 | b num v=>
  obtain⟨h1,h2⟩:=hx;have hv:v.length≤262144:=by
   have:v.length≤(Put.b num v).bytes.length:=by simp[Put.bytes,ah];omega
   omega
  have e1:Ay 0 0 (l.drop p)=(num*8+2,(Ai 10 (num*8+2)).length,0):=by
   rw[h,Put.bytes,ah,abv,abv];exact lm aa1 _
  have e2:Ay 0 0 (l.drop (p+(Ai 10 (num*8+2)).length))=(v.length,(Ai 10 v.length).length,0):=by
   rw[hd (Ai 10 (num*8+2)) (Ai 10 v.length++v) (by simp[Put.bytes,ah]),abv]
   exact lm aa1 _
  have e3:(l.drop (p+((Ai 10 (num*8+2)).length+(Ai 10 v.length).length))).take v.length=v:=by
   have:=hd (Ai 10 (num*8+2)++Ai 10 v.length) v (by simp[Put.bytes,ah])
   rw[abk] at this;rw[this,List.take_left]
  rw[e1];simp only[ne_eq,abp,if_false];rw[if_neg aa1,if_neg aa1,if_pos aa1,e2];simp only[abp,if_false];have hb:(Put.b num v).bytes.length=(Ai 10 (num*8+2)).length+(Ai 10 v.length).length+v.length:=by
   simp[Put.bytes,ah];omega
  rw[if_neg aa1,e3,Put.fld,hb,show(num*8+2) / 8=num by omega]
def Fld.core (f:Fld):Nat×Nat×Nat×List UInt8:=(f.num,f.A0,f.u,f.b)
def Put.core (x:Put):Nat×Nat×Nat×List UInt8:=(x.fld 0).core
theorem Put.W5 (x:Put) (p:Nat):(x.fld p).core=x.core:=by cases x<;>rfl
def Ae (xs:List Put):List UInt8:=(xs.map Put.bytes).flatten
theorem an0 (x:Put) (xs:List Put):Ae (x::xs)=x.bytes++Ae xs:=rfl
theorem kf (xs ys:List Put):Ae (xs++ys)=Ae xs++Ae ys:=by simp[Ae]
theorem an5 {l:List UInt8} (hl:l.length≤262144):∀ (xs:List Put) (n p:Nat) (acc:List Fld),(∀ x∈xs,x.ok)→l.drop p=Ae xs→p≤l.length→l.length-p<n→acc.length+xs.length≤4096→
  ∃ fs,gq l n p acc=(acc++fs,0)∧fs.map Fld.core=xs.map Put.core
 |xs,0,p,acc,_,_,_,hn,_=>absurd hn (Nat.not_lt_zero _)
 | [],n+1,p,acc,hx,h,hp,hn,hc=>by
  have:l.length≤p:=by simpa[Ae] using h
  refine⟨[],?_,rfl⟩;rw[gq,if_neg aa1,List.append_nil]
 | x::xs,n+1,p,acc,hx,h,hp,hn,hc=>by
  rw[an0] at h;have hpos:=x.pos;have hlen:(x.bytes++Ae xs).length=l.length-p:=by rw[← h,List.length_drop]
  rw[abk] at hlen;have hf:=bsv (hx x aa3) hl h;have hd:l.drop (p+x.bytes.length)=Ae xs:=by rw[← List.drop_drop,h,List.drop_left]
  simp only[List.length_cons] at hc;obtain⟨fs,g1,g2⟩:=an5 hl xs n (p+x.bytes.length) (acc++[x.fld p]) (fun y hy=>hx y (by simp[hy])) hd aa1 aa1 (by simp;omega)
  refine⟨x.fld p::fs,?_,by rw[List.map_cons,List.map_cons,g2,x.W5]⟩
  rw[gq,if_pos aa1,if_neg aa1,hf];simp only[ne_eq,abp,if_false];rw[g1,abv];rfl
theorem qt (xs:List Put) (hx:∀ x∈xs,x.ok) (hl:(Ae xs).length≤262144) (hn:xs.length≤4096):∃ fs,aa (Ae xs)=(fs,0)∧fs.map Fld.core=xs.map Put.core:=by
 obtain⟨fs,h1,h2⟩:=an5 hl xs ((Ae xs).length+1) 0 [] hx rfl aa1 aa1 (by simpa using hn)
 refine⟨fs,?_,h2⟩;unfold aa;rw[if_neg aa1,h1];rfl
def isF (num A0:Nat) (f:Fld):Bool:=f.num==num&&f.A0==A0
def AA (fs:List Fld) (num A0:Nat):Option Fld:=fs.reverse.find? (isF num A0)
def uM (fs:List Fld) (k:Nat):Nat:=((AA fs k 0).getD Af).u
def uC (cs:List (Nat×Nat×Nat×List UInt8)) (k:Nat):Nat:=match cs.reverse.find? fun c=>c.1==k&&c.2.1==0 with
 |some c=>c.2.2.1
 |none=>0
theorem bg8 (fs:List Fld) (k:Nat):uM fs k=uC (fs.map Fld.core) k:=by
 unfold uM uC AA;rw[← List.map_reverse,List.find?_map];have:((fun c:Nat×Nat×Nat×List UInt8=>c.1==k&&c.2.1==0) ∘ Fld.core)=isF k 0:=rfl
 rw[this];cases fs.reverse.find? (isF k 0)<;>rfl
abbrev Pl:=Nat×Nat×Nat
abbrev Foot:=List Pl×List (Nat×Nat)×Nat
def nB:List Fld→Bool→List Pl→List (Nat×Nat)→Foot
 | [],ok,ps,es=>if ok=false∨800<ps.length∨100<es.length then([],[],2) else(ps,es,0)
 | f::r,ok,ps,es=>
  if f.A0≠2∨(f.num≠1∧f.num≠2) then nB r ok ps es else
  if(aa f.b).2≠0 then([],[],(aa f.b).2) else
  if f.num=1 then nB r (ok&&decide (uM (aa f.b).1 1≤262144)&&decide (uM (aa f.b).1 2≤262144)&&decide (uM (aa f.b).1 3≤262144))
   (ps++[(min (uM (aa f.b).1 1) 262144,min (uM (aa f.b).1 2) 262144,min (uM (aa f.b).1 3) 262144)]) es
  else nB r (ok&&decide (uM (aa f.b).1 1≤262144)&&decide (uM (aa f.b).1 2≤262144)) ps (es++[(min (uM (aa f.b).1 1) 262144,min (uM (aa f.b).1 2) 262144)])
def plU (p:Pl):List Put:=[.u 1 p.1,.u 2 p.2.1,.u 3 p.2.2]
def enU (e:Nat×Nat):List Put:=if e.2=0 then[.u 1 e.1] else[.u 1 e.1,.u 2 e.2]
def plP (p:Pl):Put:= .b 1 (Ae (plU p))
def enP (e:Nat×Nat):Put:= .b 2 (Ae (enU e))
def plOk (p:Pl):Prop:=p.1≤262144∧p.2.1≤262144∧p.2.2≤262144
def enOk (e:Nat×Nat):Prop:=e.1≤262144∧e.2≤262144
theorem zb:∀ (xs:List Put) (n:Nat),(∀ x∈xs,x.bytes.length≤n)→(Ae xs).length≤n*xs.length
 | [],n,h=>by simp[Ae]
 | x::xs,n,h=>by
  rw[an0,abk,List.length_cons,Nat.mul_add,Nat.mul_one];have h1:=h x aa3;have h2:=zb xs n (fun y hy=>h y (by simp[hy]))
  omega
inductive Item where
 |p (p:Pl)
 |e (e:Nat×Nat)
 |z (num:Nat) (v:List UInt8)
def Item.put:Item→Put
 | .p a=>plP a
 | .e a=>enP a
 | .z num v=> .b num v
def Item.ok:Item→Prop
 | .p a=>plOk a
 | .e a=>enOk a
 | .z num _=>3≤num∧num≤536870911
def Item.ps:Item→List Pl
 | .p a=>[a]
 | .e _=>[]
 | .z _ _=>[]
def Item.es:Item→List (Nat×Nat)
 | .p _=>[]
 | .e a=>[a]
 | .z _ _=>[]
def itP (l:List Item):List Pl:=l.flatMap Item.ps
def itE (l:List Item):List (Nat×Nat):=l.flatMap Item.es
end Go.Ev
namespace Go.Ev
open Go
abbrev by8 (k a:Nat):AV:=oo k (.mv (.t a))
abbrev bze (k a:Nat):AV:=oo k (.asg (.t a))
abbrev by6 (k a:Nat):AV:=oo k (.load none (.t a))
abbrev byy (k i a:Nat):AV:=oo k (.AH i (.t a))
abbrev bzf (k a i:Nat):AV:=oo k (.ext (.t a) i)
abbrev byw (k:Nat) (o:BinOp) (a b:Nat):AV:=oo k (.bin o (.t a) (.t b))
abbrev byv (k:Nat) (o:BinOp) (a:Nat) (b:Int):AV:=oo k (.bin o (.t a) (ci b))
abbrev byu (k:Nat) (n:Int):AV:=oo k (.asg (ci n))
abbrev by0 (k j:Nat) (b:Bool) (a:Nat):AV:=og k j b (.mv (.t a))
abbrev bzc (k a b:Nat):AV:=oo k (.pick (.t a) (.c (.bool true)) (.t b))
abbrev bzb (k a b:Nat):AV:=oo k (.pick (.t a) (.t b) (.c (.bool false)))
abbrev byt (k:Nat) (b:Bool):AV:=oo k (.asg (.c (.bool b)))
abbrev bza (k a:Nat):AV:=oo k (.un .not (.t a))
abbrev by7 (k z a:Nat):AV:=oo k (.load (some z) (.t a))
abbrev by5 (k:Nat) (b:Bool) (a:Nat):AV:=oo k (.len b (.t a))
abbrev by9 (k a:Nat):AV:=oo k (.GU (.t a))
abbrev bzd (n a b:Nat):AV:=ow (.store n (.t a) (.t b))
abbrev by3 (k z a i:Nat):AV:=oo k (.C6 z (.t a) (.t i))
def by4:List (Nat×AD)→List (Nat×List Nat)
 | []=>[]
 | (i,.region _ _ k)::l=>(i,k)::by4 l
 |_::l=>by4 l
def zzz (n:Nat):List AD→List (Nat×List Nat)
 |[]=>[]
 |(.region _ _ k)::l=>(n,k)::zzz (n-1) l
 |_::l=>zzz (n-1) l
abbrev zzy (l:List (Nat×List Nat)):AG:=⟨[],l,[],[],[],[]⟩
abbrev byx (k:Nat) (f:FuncId) (l:List AE):AV:=oo k (.call false f l)
theorem by2 {r:AD} {o:List AV} {k:List Nat} (h:r= .region o [] k):∀ (X:Kx) (K:List Kf) (s:St),go X (.c r::K) s=goR X o k K s:=fun _ _ _=>h ▸ HG _ _
theorem byz {r1 r2 r3 r4 r5 r6 r7 r8:AD} {o1 o2 o3 o4 o5 o6 o7 o8:List AV} {k1 k2 k3 k4 k5 k6 k7 k8:List Nat} (h1:r1= .region o1 [] k1) (h2:r2= .region o2 [] k2) (h3:r3= .region o3 [] k3) (h4:r4= .region o4 [] k4) (h5:r5= .region o5 [] k5) (h6:r6= .region o6 [] k6) (h7:r7= .region o7 [] k7) (h8:r8= .region o8 [] k8):(∀ (X:Kx) (K:List Kf) (s:St),go X (.c r1::K) s=goR X o1 k1 K s)∧(∀ (X:Kx) (K:List Kf) (s:St),go X (.c r2::K) s=goR X o2 k2 K s)∧(∀ (X:Kx) (K:List Kf) (s:St),go X (.c r3::K) s=goR X o3 k3 K s)∧(∀ (X:Kx) (K:List Kf) (s:St),go X (.c r4::K) s=goR X o4 k4 K s)∧(∀ (X:Kx) (K:List Kf) (s:St),go X (.c r5::K) s=goR X o5 k5 K s)∧(∀ (X:Kx) (K:List Kf) (s:St),go X (.c r6::K) s=goR X o6 k6 K s)∧(∀ (X:Kx) (K:List Kf) (s:St),go X (.c r7::K) s=goR X o7 k7 K s)∧(∀ (X:Kx) (K:List Kf) (s:St),go X (.c r8::K) s=goR X o8 k8 K s):=⟨by2 h1,by2 h2,by2 h3,by2 h4,by2 h5,by2 h6,by2 h7,by2 h8⟩
theorem by1 {r c:AD} (h:r=c):∀ (X:Kx) (K:List Kf) (s:St),go X (.c r::K) s=go X (.c c::K) s:=fun _ _ _=>h ▸ rfl
end Go.Ev
namespace Go.Ev
attribute [go_sem_proc] Nat.reduceLeDiff Nat.reduceLT Nat.reduceAdd Int.reduceAdd Int.reduceSub Int.reduceNeg Nat.reduceEqDiff reduceCtorEq Int.reduceBEq Int.reduceBNe Nat.reduceBEq
attribute [go_sem_proc ↓] reduceIte
theorem aa0 {P:Prop} (h:P:=by first|omega| (simp only[go_sem,List.length_take,List.length_drop]<;>omega)|assumption|decide):P:=h
theorem aa2 {P:Prop} (h:P:=by kernel_rfl):P:=h
