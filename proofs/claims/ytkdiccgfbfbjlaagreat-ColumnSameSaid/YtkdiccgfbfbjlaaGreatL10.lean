import Derived.KernelRfl
import Derived.Test.YtkdiccgfbfbjlaaGreatL9
import Derived.Lib.BytesEntry
import Derived.Lib.MakeNoZero
import Derived.Laws.BytesArg
import Derived.Laws.Externs
import Derived.Lib.Join
import Derived.Sort.Grow
import Derived.Deep.Draws
namespace Go.Ev
open Go
variable {cfg:Cfg} {AY:Orc} {dep:Nat}
def s2bV (k:Nat) (own:Bool):V→Option (List (Loc×V))
 | .d (.str b)=>if b.length≤bh then some [(.slot k,if own then .own true 1 (b.map AD) else .d (.sl (b.map AD)))] else none
 |_=>none
@[go_sem] theorem U_s2b (s:Get) (k:Nat) (own:Bool) (x:AB):Ae cfg AY dep s ⟨some k,none,.s2b own x⟩=(val cfg s x).bind (s2bV k own):=by
 show Al cfg dep s (some k) (.s2b own x)=_;simp only[Al];cases val cfg s x with
 |none=>rfl
 | some v=>
  cases v with
  |d y=>cases y<;>rfl
  |_=>rfl
def lX (k:Nat):V→Option (List (Loc×V))
 | .d (.str b)=>some [(.slot k,.d (.str b))]
 |_=>none
@[go_sem] theorem cvStrV_s (k:Nat) (b:List UInt8):lX k (.d (.str b))=some [(.slot k,.d (.str b))]:=rfl
def lY (k j:Nat) (own:Bool):V→Option (List (Loc×V))
 | .own _ z es=>some ((.slot k,if own then .own true z es else .d (.sl es))::[(.slot j,.AM)])
 |_=>none
@[go_sem] theorem U_cvB (s:Get) (k j:Nat) (own:Bool):Ae cfg AY dep s ⟨some k,none,.cvB own (.t j)⟩=(s (.slot j)).bind (lY k j own):=by
 show Al cfg dep s (some k) (.cvB own (.t j))=_;simp only[Al,val];cases s (.slot j) with
 |none=>rfl
 |some v=>cases v<;>rfl
@[go_sem] theorem cvBV_t (k j z:Nat) (nw:Bool) (es:List D):lY k j true (.own nw z es)=some [(.slot k,.own true z es),(.slot j,.AM)]:=rfl
@[go_sem] theorem cvBV_f (k j z:Nat) (nw:Bool) (es:List D):lY k j false (.own nw z es)=some [(.slot k,.d (.sl es)),(.slot j,.AM)]:=rfl
@[go_sem] theorem nlt0 (n:Nat):((n:Int)<0)=False:=by simp
@[go_sem] theorem nc0:((0:Nat):Int)=0:=rfl
@[go_sem] theorem nc1:((1:Nat):Int)=1:=rfl
end Go.Ev
namespace Go.Ev
open Go
variable {cfg:Cfg} {AY:Orc} {dep:Nat} {X:Kx} {K:List Kf}
@[go_sem] theorem fE (k:IntKind) (n:Int):(D.int k n).AP=true:=rfl
@[go_sem] theorem Z7 (b:Bool):(D.bool b).AP=true:=rfl
@[go_sem] theorem fC (b:List UInt8):(D.str b).AP=true:=rfl
@[go_sem] theorem isCell_sl (es:List D):(D.sl es).AP=true:=rfl
@[go_sem] theorem Z2:D.AL.AP=true:=rfl
@[go_sem] theorem Z3:D.Bs.AP=true:=rfl
@[go_sem] theorem Z5:D.Be.AP=true:=rfl
@[go_sem] theorem Z6:D.CU.AP=true:=rfl
@[go_sem] theorem Z4:D.Dn.AP=true:=rfl
@[go_sem] theorem fD (e:D):(D.ptr e).AP=true:=rfl
@[go_sem] theorem fF (t:TypeId) (e:D):(D.ifc t e).AP=true:=rfl
@[go_sem] theorem isCell_fn (f:FuncId):(D.fn f).AP=true:=rfl
@[go_sem] theorem W6 (cs:List D):(D.agg cs).storable=true:=rfl
attribute [go_sem] aa5
attribute [go_sem] xg
attribute [go_sem] aa4
@[go_sem] theorem Zi (es:List D):(D.sl es).storable=true:=rfl
@[go_sem] theorem Wf:D.AL.storable=true:=rfl
@[go_sem] theorem Wg:D.Bs.storable=true:=rfl
@[go_sem] theorem Wh:D.Be.storable=true:=rfl
@[go_sem] theorem Wi:D.CU.storable=true:=rfl
@[go_sem] theorem Wz (e:D):(D.ptr e).storable=true:=rfl
@[go_sem] theorem W4 (t:TypeId) (e:D):(D.ifc t e).storable=true:=rfl
@[go_sem] theorem Zj (f:FuncId):(D.fn f).storable=true:=rfl
@[go_sem] theorem plainV_d (x:D):V.AZ (.d x)=true:=rfl
@[go_sem] theorem eF (d k o:Nat):V.AZ (.ref d k o)=true:=rfl
@[go_sem] theorem Zs (e:D) (o:Nat):V.AZ (.Af e o)=true:=rfl
@[go_sem] theorem eH (f:FuncId) (a b:List V):V.AZ (.clo f a b)=true:=rfl
@[go_sem] theorem eG (t:TypeId) (v:V):V.AZ (.ifc t v)=true:=rfl
@[go_sem] theorem plainV_ow (nw:Bool) (z:Nat) (es:List D):V.AZ (.own nw z es)=false:=rfl
@[go_sem] theorem eI (l:Loc) (a b:Nat):V.AZ (.bor l a b)=false:=rfl
@[go_sem] theorem upTo_clo (n:Nat) (f:FuncId) (a b:List V):V.A4 n (.clo f a b)=(V.CA n a&&V.CA n b):=rfl
@[go_sem] theorem upTos_nil (n:Nat):V.CA n []=true:=rfl
@[go_sem] theorem bN (n:Nat) (v:V) (r:List V):V.CA n (v::r)=(v.A4 n&&V.CA n r):=rfl
attribute [go_sem] Sf
attribute [go_sem] ne_eq ac8 df List.map_cons List.map_nil List.all_cons List.all_nil Option.isSome_some Option.isSome_none Option.isNone_some Option.isNone_none List.isEmpty_nil List.isEmpty_cons
@[go_sem] theorem bind_none {α β:Type} (f:α→Option β):(none:Option α).bind f=none:=rfl
@[go_sem] theorem evBox_d (s:Get) (k n:Nat) (y:D):Ep dep s k n (.d y)=if(s (.cell ⟨dep,k,0⟩)).isSome then none else if y.cells.length=n∧n≠0∧y.storable=true then some ((.slot k,.ref dep k 0)::df dep k 0 (y.cells.map .d)) else none:=rfl
@[go_sem] theorem evBox_clo (s:Get) (k:Nat) (f:FuncId) (a b:List V):Ep dep s k 1 (.clo f a b)=if(s (.cell ⟨dep,k,0⟩)).isSome then none else some [(.slot k,.ref dep k 0),(.cell ⟨dep,k,0⟩,.clo f a b)]:=rfl
@[go_sem] theorem evBox_ref (s:Get) (k d j o:Nat):Ep dep s k 1 (.ref d j o)=if(s (.cell ⟨dep,k,0⟩)).isSome then none else some [(.slot k,.ref dep k 0),(.cell ⟨dep,k,0⟩,.ref d j o)]:=rfl
@[go_sem] theorem lP (s:Get) (k:Nat) (e:D) (o:Nat):Ep dep s k 1 (.Af e o)=if(s (.cell ⟨dep,k,0⟩)).isSome then none else some [(.slot k,.ref dep k 0),(.cell ⟨dep,k,0⟩,.Af e o)]:=rfl
@[go_sem] theorem evBox_ifc (s:Get) (k:Nat) (t:TypeId) (v:V):Ep dep s k 1 (.ifc t v)=if(s (.cell ⟨dep,k,0⟩)).isSome then none else some [(.slot k,.ref dep k 0),(.cell ⟨dep,k,0⟩,.ifc t v)]:=rfl
abbrev We:=Option (List D×List (Loc×V))
def U1 (d k off:Nat) (g:We):Option V→We
 |some (.d x)=>g.bind fun p=>if x.AP then some (x.can::p.1,p.2) else none
 |some (.Af e 0)=>g.bind fun p=>some (.ptr e::p.1,p.2)
 |some (.own _ _ es)=>g.bind fun p=>some (.sl es::p.1,(.cell ⟨d,k,off⟩,.d (.sl es))::p.2)
 |_=>none
@[go_sem] theorem gather_z (s:Get) (d k off:Nat):c9 s d k off 0=some ([],[]):=rfl
@[go_sem] theorem gather_s (s:Get) (d k off n:Nat):c9 s d k off (n+1)=U1 d k off (c9 s d k (off+1) n) (s (.cell ⟨d,k,off⟩)):=by
 rw[c9];unfold U1;cases s (.cell ⟨d,k,off⟩) with
 |none=>rfl
 | some v=>
  cases v with
  |d x=>cases c9 s d k (off+1) n<;>rfl
  | Af e o=>cases o with
   |zero=>cases c9 s d k (off+1) n<;>rfl
   |succ o=>rfl
  |own nw z es=>cases c9 s d k (off+1) n<;>rfl
  |_=>rfl
@[go_sem] theorem gatQ_d (d k off:Nat) (g:We) (x:D):U1 d k off g (some (.d x))=g.bind fun p=>if x.AP then some (x.can::p.1,p.2) else none:=rfl
@[go_sem] theorem gatQ_own (d k off:Nat) (g:We) (nw:Bool) (z:Nat) (es:List D):U1 d k off g (some (.own nw z es))=g.bind fun p=>some (.sl es::p.1,(.cell ⟨d,k,off⟩,.d (.sl es))::p.2):=rfl
@[go_sem] theorem gatQ_iptr (d k off:Nat) (g:We) (e:D):U1 d k off g (some (.Af e 0))=g.bind fun p=>some (.ptr e::p.1,p.2):=rfl
@[go_sem] theorem refQ_clo (dst:Option Nat) (d k off:Nat) (f:FuncId) (a b:List V):Hh dst d k off (some (.clo f a b))=some (AG dst (.clo f a b)):=rfl
@[go_sem] theorem refQ_ifc (dst:Option Nat) (d k off:Nat) (t:TypeId) (v:V):Hh dst d k off (some (.ifc t v))=some (AG dst (.ifc t v)):=rfl
@[go_sem] theorem alive_z (s:Get) (d k off:Nat):alive s d k off 0=true:=rfl
@[go_sem] theorem alive_s (s:Get) (d k off n:Nat):alive s d k off (n+1)=((s (.cell ⟨d,k,off⟩)).isSome&&alive s d k (off+1) n):=rfl
@[go_sem] theorem evStore_d (s:Get) (n d k off:Nat) (x:AB) (y:D):bz s n (.ref d k off) x (.d y)=if alive s d k off n then if y.cells.length=n∧y.storable then some (df d k off (y.cells.map .d)) else none else none:=by
 cases x<;>rfl
@[go_sem] theorem aI (s:Get) (d k off j:Nat) (nw:Bool) (z:Nat) (es:List D):bz s 1 (.ref d k off) (.t j) (.own nw z es)=if alive s d k off 1 then some [(.cell ⟨d,k,off⟩,.own true z es),(.slot j,.AM)] else none:=rfl
def QR (c:Cel) (l:Loc) (o m:Nat):Option V→Option (List (Loc×V))
 |some (.own false z es)=>if o=0∧m=es.length then
  (if Loc.cell c=l then some [(l,.own true z es)] else some [(.cell c,.own true z es),(l,.AM)]) else none
 |_=>none
@[go_sem] theorem aJ (s:Get) (d k off:Nat) (x:AB) (l:Loc) (o m:Nat):bz s 1 (.ref d k off) x (.bor l o m)=if alive s d k off 1 then QR ⟨d,k,off⟩ l o m (s l) else none:=by
 unfold QR;cases x<;>(simp only[bz,and_true];rfl)
@[go_sem] theorem storB_own (c:Cel) (l:Loc) (m z:Nat) (es:List D) (h:m=es.length):QR c l 0 m (some (.own false z es))=if Loc.cell c=l then some [(l,.own true z es)] else some [(.cell c,.own true z es),(l,.AM)]:=by
 simp[QR,h]
def Sl (l:Loc) (n i off:Nat) (y:D):Option V→Option (List (Loc×V))
 |some (.own false z es)=>if y.cells.length=n∧y.storable then(es[i]?).bind fun e=>(e.setAt off y.cells).map fun e'=>[(l,.own false z (es.set i e'))] else none
 |_=>none
@[go_sem] theorem Wk (s:Get) (n:Nat) (l:Loc) (i off:Nat) (x:AB) (y:D):bz s n (.Am l i off) x (.d y)=Sl l n i off y.canon (s l):=by
 unfold Sl;simp only[bz,V.asD];cases s l with
 |none=>rfl
 | some v=>cases v with
  |own nw z es=>cases nw<;>rfl
  |_=>rfl
@[go_sem] theorem storE_own (l:Loc) (n i off:Nat) (y:D) (z:Nat) (es:List D):Sl l n i off y (some (.own false z es))=if y.cells.length=n∧y.storable then(es[i]?).bind fun e=>(e.setAt off y.cells).map fun e'=>[(l,.own false z (es.set i e'))] else none:=rfl
def recQ (cfg:Cfg) (k:Nat) (s:Get) (i:Nat) (r:List (Nat×Nat×AB)) (j:Nat):Option V→Option (List V×List (Loc×V))
 |some (.own _ z es)=>if j=k then none else(CJ cfg k (AK s [(.slot j,.AM)]) (i+1) r).map fun p=>(.own true z es::p.1,(.slot j,.AM)::p.2)
 |some (.d y)=>if y.AP then(CJ cfg k s (i+1) r).map fun p=>(.d y.can::p.1,p.2) else none
 |_=>none
@[go_sem] theorem recOf_nil (s:Get) (k i:Nat):CJ cfg k s i []=some ([],[]):=rfl
@[go_sem] theorem recOf_c (s:Get) (k i o n:Nat) (y:D) (r:List (Nat×Nat×AB)):CJ cfg k s i ((o,n,.c y)::r)=if o=i∧n=1 then if y.AP then(CJ cfg k s (i+1) r).map fun p=>(.d y.can::p.1,p.2) else none else none:=by
 rw[CJ];rfl
@[go_sem] theorem recQ_own (s:Get) (k i j:Nat) (r:List (Nat×Nat×AB)) (nw:Bool) (z:Nat) (es:List D):recQ cfg k s i r j (some (.own nw z es))=if j=k then none else(CJ cfg k (AK s [(.slot j,.AM)]) (i+1) r).map fun p=>(.own true z es::p.1,(.slot j,.AM)::p.2):=rfl
@[go_sem] theorem recQ_d (s:Get) (k i j:Nat) (r:List (Nat×Nat×AB)) (y:D):recQ cfg k s i r j (some (.d y))=if y.AP then(CJ cfg k s (i+1) r).map fun p=>(.d y.can::p.1,p.2) else none:=rfl
@[go_sem] theorem aH (s:Get) (n d k off j:Nat) (ys:List V):bz s n (.ref d k off) (.t j) (.rcd ys)=if alive s d k off n then if n=ys.length∧n≠0 then(gm d k off ys).map fun u=>(.slot j,.AM)::u else none else none:=rfl
@[go_sem] theorem mX (d k off:Nat):gm d k off []=some []:=rfl
@[go_sem] theorem cellsR_d (d k off:Nat) (y:D) (r:List V):gm d k off (.d y::r)=if y.AP then(gm d k (off+1) r).map fun u=>(.cell ⟨d,k,off⟩,.d y)::u else none:=rfl
@[go_sem] theorem mW (d k off:Nat) (nw:Bool) (z:Nat) (es:List D) (r:List V):gm d k off (.own nw z es::r)=(gm d k (off+1) r).map fun u=>(.cell ⟨d,k,off⟩,.own true z es)::u:=rfl
@[go_sem] theorem home_rcd (ys:List V):V.home dep (.rcd ys)= .AM:=rfl
@[go_sem] theorem upTo_rcd (n:Nat) (ys:List V):V.A4 n (.rcd ys)=false:=rfl
@[go_sem] theorem nO (n:Nat) (ys:List V):behind n (some (.rcd ys))=[]:=rfl
@[go_sem] theorem unbor_rcd (ys:List V):V.BX dep (.rcd ys)= .AM:=rfl
@[go_sem] theorem free_rcd (d k:Nat) (ys:List V):V.free d k (.rcd ys)= .AM:=rfl
def eN (k z bytes:Nat) (zd:D) (n m:Int):Option (List (Loc×V)):=if 0≤n∧n≤m∧m≤bh∧bytes≤2048∧zd.cells.length=z∧zd.storable then some [(.slot k,.own true z (List.replicate n.toNat zd))] else none
@[go_sem] theorem U_mkSV (s:Get) (k z bytes:Nat) (zd:D) (l c:AB):Ae cfg AY dep s ⟨some k,none,.mkS z bytes zd l c⟩=((dat cfg s l).bind D.toInt?).bind fun n=>((dat cfg s c).bind D.toInt?).bind fun m=>eN k z bytes zd n m:=by
 rw[U_mkS];cases(dat cfg s l).bind D.toInt? with
 |none=>rfl
 |some n=>cases(dat cfg s c).bind D.toInt? <;>rfl
@[go_sem] theorem mkSV_ok (k z bytes:Nat) (zd:D) (n m:Int) (h0:0≤n) (h1:n≤m) (h2:m≤1000000000):eN k z bytes zd n m=if bytes≤2048∧zd.cells.length=z∧zd.storable=true then some [(.slot k,.own true z (List.replicate n.toNat zd))] else none:=by
 have h3:=FD (n:=m.toNat) abu;have h4:m≤(bh:Int):=by
   have:m.toNat≤bh:=by simpa using h3
   omega
 unfold eN;by_cases h:bytes≤2048∧zd.cells.length=z∧zd.storable=true
 · rw[if_pos h,if_pos ⟨h0,h1,h4,h⟩]
 · rw[if_neg h,if_neg fun q=>h q.2.2.2]
attribute [go_sem] List.replicate_zero Int.toNat_zero
def bU (len:Nat):Option Int→Option Nat
 |some n=>if 0≤n∧n≤len then some n.toNat else none
 |none=>none
@[go_sem] theorem topQ_ok {len:Nat} {n:Int} (h0:0≤n) (h1:n≤len):bU len (some n)=some n.toNat:=if_pos ⟨h0,h1⟩
@[go_sem] theorem kY (s:Get) (dst:Option Nat) (z:Nat) (x:AB) (v:V) (lo:Option AB) (h m:AB):gd cfg s dst z x v lo (some h) (some m)=
  (cont s v).bind fun es=>(bU es.length ((dat cfg s m).bind D.toInt?)).bind fun top=>(bf cfg s top lo (some h)).bind fun lh=>Gx s dst z x lh.1 lh.2 v:=by
 unfold gd Gx Qs;cases cont s v with
 |none=>rfl
 | some es=>
  simp only[Ek,Option.bind_some];cases(dat cfg s m).bind D.toInt? with
  |none=>rfl
  | some n=>
   simp only[bU];by_cases hc:0≤n∧n≤(es.length:Int)
   · simp only[if_pos hc,Option.bind_some]
     cases bf cfg s n.toNat lo (some h) with
     |none=>rfl
     |some lh=>obtain⟨l,hh⟩:=lh;simp only[Option.isSome_some,Option.isNone_some,Bool.and_false,acb,if_false,Option.bind_some];rfl
   · simp only[if_neg hc];rfl
def VS (dst:Option Nat) (z:Nat) (l:Loc) (off n:Nat) (ys:List D):Option V→Option (List (Loc×V))
 |some (.own false z' es)=>if z'=z∧off+n≤es.length then some ((l,.own false z (es.take off++ys.take n++es.drop (off+min n ys.length)))::AG dst (.d (.int .i64 (min n ys.length:Nat)))) else none
 |_=>none
@[go_sem] theorem lL (s:Get) (dst:Option Nat) (z:Nat) (x:AB) (l:Loc) (off n:Nat) (ys:List D):nx s dst z x (.bor l off n) ys=if B5 z ys=true then VS dst z l off n ys (s l) else none:=by
 unfold nx VS;cases x<;>rfl
theorem zu (dst:Option Nat) (z:Nat) (l:Loc) (off n:Nat) (ys es:List D) (h:off+n≤es.length):VS dst z l off n ys (some (.own false z es))=some ((l,.own false z (es.take off++ys.take n++es.drop (off+min n ys.length)))::AG dst (.d (.int .i64 (min n ys.length:Nat)))):=if_pos ⟨rfl,h⟩
theorem tk (dst:Option Nat) (l:Loc) (off n:Nat) (a ys:List D) (k:Nat) (d:D) (ho:off=a.length) (hn:n=k) (hy:ys.length≤k):VS dst 1 l off n ys (some (.own false 1 (a++List.replicate k d)))=
  some ((l,.own false 1 (a++ys++List.replicate (k-ys.length) d))::AG dst (.d (.int .i64 (ys.length:Nat)))):=by
 subst ho hn;rw[zu _ _ _ _ _ _ _ abw];have e:min n ys.length=ys.length:=abu;rw[e,List.take_left,adw hy,List.drop_append];simp
@[go_sem] theorem evNil_ref (dst:Option Nat) (d k o:Nat):EM dst (.ref d k o)=some (AG dst (.ref d k o)):=rfl
@[go_sem] theorem lB (dst:Option Nat) (l:Loc) (i o:Nat):EM dst (.Am l i o)=some (AG dst (.Am l i o)):=rfl
@[go_sem] theorem lA (dst:Option Nat) (e:D) (o:Nat):EM dst (.Af e o)=some (AG dst (.Af e o)):=rfl
@[go_sem] theorem evNil_ptr (dst:Option Nat) (e:D):EM dst (.d (.ptr e))=some (AG dst (.d (.ptr e))):=rfl
@[go_sem] theorem evNil_fn (dst:Option Nat) (f:FuncId):EM dst (.d (.fn f))=some (AG dst (.d (.fn f))):=rfl
@[go_sem] theorem evNil_clo (dst:Option Nat) (f:FuncId) (a b:List V):EM dst (.clo f a b)=some (AG dst (.clo f a b)):=rfl
@[go_sem] theorem kZ (dst:Option Nat) (y:V):EM dst (.BB y)=some (AG dst (.BB y)):=rfl
@[go_sem] theorem lJ (s:Get) (dst:Option Nat) (x:AB) (y:V) (r:List V):Br s dst 1 x (.vec (y::r)) 0=some (AG dst (.BB y)):=by
 cases x<;>rfl
@[go_sem] theorem lI (s:Get) (dst:Option Nat) (x:AB) (a y:V) (r:List V):Br s dst 1 x (.vec (a::y::r)) 1=some (AG dst (.BB y)):=by
 cases x<;>rfl
@[go_sem] theorem lH (s:Get) (dst:Option Nat) (x:AB) (a b y:V) (r:List V):Br s dst 1 x (.vec (a::b::y::r)) 2=some (AG dst (.BB y)):=by
 cases x<;>rfl
@[go_sem] theorem lG (s:Get) (dst:Option Nat) (x:AB) (a b c y:V) (r:List V):Br s dst 1 x (.vec (a::b::c::y::r)) 3=some (AG dst (.BB y)):=by
 cases x<;>rfl
@[go_sem] theorem lF (s:Get) (dst:Option Nat) (x:AB) (a b c d y:V) (r:List V):Br s dst 1 x (.vec (a::b::c::d::y::r)) 4=some (AG dst (.BB y)):=by
 cases x<;>rfl
@[go_sem] theorem evIdx_sl0 (s:Get) (dst:Option Nat) (z:Nat) (x:AB) (e:D) (r:List D):Br s dst z x (.d (.sl (e::r))) 0=if e.cells.length=z then some (AG dst (.Af e 0)) else none:=by
 cases x<;>rfl
@[go_sem] theorem evIdx_sl1 (s:Get) (dst:Option Nat) (z:Nat) (x:AB) (d e:D) (r:List D):Br s dst z x (.d (.sl (d::e::r))) 1=if e.cells.length=z then some (AG dst (.Af e 0)) else none:=by
 cases x<;>rfl
@[go_sem] theorem evIdx_slZ (s:Get) (dst:Option Nat) (z:Nat) (x:AB) (es:List D):Br s dst z x (.d (.sl es)) 0=(es[0]?).bind fun e=>if e.cells.length=z then some (AG dst (.Af e 0)) else none:=by
 cases es<;>cases x<;>rfl
def Xg (k:Nat) (f:FuncId):List V→List V→Option (List (Loc×V))
 | [],[]=>some [(.slot k,.d (.fn f))]
 |xs,ys=>if xs.all V.AZ&&ys.all V.AZ then some [(.slot k,.clo f xs ys)] else none
@[go_sem] theorem U_mkF (s:Get) (k:Nat) (f:FuncId) (a b:List AB):Ae cfg AY dep s ⟨some k,none,.mkF f a b⟩=(BK cfg s a).bind fun xs=>(BK cfg s b).bind fun ys=>Xg k f xs ys:=by
 show Al cfg dep s (some k) (.mkF f a b)=_;simp only[Al];cases BK cfg s a with
 |none=>rfl
 | some xs=>
  cases BK cfg s b with
  |none=>cases xs<;>rfl
  |some ys=>cases xs<;>cases ys<;>rfl
@[go_sem] theorem mkFV_0 (k:Nat) (f:FuncId):Xg k f [] []=some [(.slot k,.d (.fn f))]:=rfl
@[go_sem] theorem mkFV_b (k:Nat) (f:FuncId) (xs:List V) (y:V) (ys:List V):Xg k f xs (y::ys)=if xs.all V.AZ&&(y::ys).all V.AZ then some [(.slot k,.clo f xs (y::ys))] else none:=by
 cases xs<;>rfl
@[go_sem] theorem mkFV_a (k:Nat) (f:FuncId) (x:V) (xs ys:List V):Xg k f (x::xs) ys=if(x::xs).all V.AZ&&ys.all V.AZ then some [(.slot k,.clo f (x::xs) ys)] else none:=by
 cases ys<;>rfl
def IU (own:Bool) (vs:List V):V→Option (Bool×FuncId×List V)
 | .d (.fn f)=>some (own,f,vs)
 | .clo f a b=>if a.all V.AZ&&b.all V.AZ then some (own,f,a++vs++b) else none
 |_=>none
def tgtI (cfg:Cfg) (own:Bool) (name:String) (vs:List V):V→Option (Bool×FuncId×List V)
 | .d (.ifc t d)=>(cfg.GH t name).map fun f=>(own,f,.d d::vs)
 | .ifc t v=>if v.AZ then(cfg.GH t name).map fun f=>(own,f,v::vs) else none
 |_=>none
@[go_sem] theorem tgtV_fn (own:Bool) (vs:List V) (f:FuncId):IU own vs (.d (.fn f))=some (own,f,vs):=rfl
@[go_sem] theorem tgtV_clo (own:Bool) (vs:List V) (f:FuncId) (a b:List V):IU own vs (.clo f a b)=if a.all V.AZ&&b.all V.AZ then some (own,f,a++vs++b) else none:=rfl
@[go_sem] theorem tgtI_d (own:Bool) (name:String) (vs:List V) (t:TypeId) (d:D):tgtI cfg own name vs (.d (.ifc t d))=(cfg.GH t name).map fun f=>(own,f,.d d::vs):=rfl
@[go_sem] theorem tgtI_v (own:Bool) (name:String) (vs:List V) (t:TypeId) (v:V):tgtI cfg own name vs (.ifc t v)=if v.AZ then(cfg.GH t name).map fun f=>(own,f,v::vs) else none:=rfl
theorem ar5 (s:Get) (own:Bool) (x:AB) (args:List AB):target cfg s (.CD own x args)=(val cfg s x).bind fun v=>(BK cfg s args).bind fun vs=>IU own vs v:=by
 simp only[target];cases val cfg s x with
 |none=>rfl
 | some v=>
  cases BK cfg s args with
  | none=>cases v with
   |d y=>cases y<;>rfl
   |_=>rfl
  | some vs=>cases v with
   |d y=>cases y<;>rfl
   |_=>rfl
@[go_sem] theorem U_callv (s:Get) (k:Nat) (own:Bool) (x:AB) (args:List AB):Ae cfg AY dep s ⟨some k,none,.CD own x args⟩=(val cfg s x).bind fun v=>(BK cfg s args).bind fun vs=>(IU own vs v).bind fun t=>Bb AY s (some k) t.1 t.2.1 t.2.2:=by
 unfold Ae;simp only[Ay,Option.isNone_some,Bool.false_and,acb,if_false,BE,if_true,CH,ar5];cases val cfg s x with
 |none=>rfl
 | some v=>simp only[Option.bind_some];cases BK cfg s args with
  |none=>rfl
  | some vs=>simp only[Option.bind_some];cases IU own vs v with
   |none=>rfl
   |some t=>simp only[C1,Option.bind_some];cases Bb AY s (some k) t.1 t.2.1 t.2.2<;>rfl
@[go_sem] theorem argD_ref (s:Get) (d k o:Nat):DG s (.ref d k o)=none:=rfl
@[go_sem] theorem argD_clo (s:Get) (f:FuncId) (a b:List V):DG s (.clo f a b)=none:=rfl
@[go_sem] theorem argD_ifc (s:Get) (t:TypeId) (v:V):DG s (.ifc t v)=none:=rfl
noncomputable def goM (X:Kx) (r:List AS) (Ac:List Nat) (K:List Kf):Option St→Ans
 |some s'=>goR X r Ac K s'
 |none=>none
@[go_sem] theorem goC_none (o:AS) (r:List AS) (Ac:List Nat) (s:St):goC X o r Ac K s none=goM X r Ac K (BN X.cfg (evL X.cfg) X.dep s o):=rfl
@[go_sem] theorem goM_some (r:List AS) (Ac:List Nat) (s:St):goM X r Ac K (some s)=goR X r Ac K s:=rfl
theorem oQ (s:St) (k:Nat) (own:Bool) (f:FuncId) (args:List AB) (hc:cfg.clip f=false):BN cfg AY dep s ⟨some k,none,.call own f args⟩=(BK cfg s.get args).bind fun vs=>B0 AY dep s (some k) own f vs:=by
 unfold BN;simp only[Ay,BE,qd hc,target];cases BK cfg s.get args<;>rfl
@[go_sem] theorem M_callv (s:St) (k:Nat) (own:Bool) (x:AB) (args:List AB):BN cfg AY dep s ⟨some k,none,.CD own x args⟩=(val cfg s.get x).bind fun v=>(BK cfg s.get args).bind fun vs=>(IU own vs v).bind fun t=>B0 AY dep s (some k) t.1 t.2.1 t.2.2:=by
 unfold BN;simp only[Ay,BE,CH,ar5];cases val cfg s.get x with
 |none=>rfl
 | some v=>simp only[Option.bind_some];cases BK cfg s.get args with
  |none=>rfl
  |some vs=>simp only[Option.bind_some];cases IU own vs v<;>rfl
def Hi (dep:Nat) (s:St) (dst:Option Nat) (r:V) (m:List (Cel×V)):Option (List (Loc×V))→Option St
 |some u=>some (St.upd ⟨Ab dep s.env,m⟩ u)
 |none=>if r.A4 (dep+1)&&r.AZ then some (St.upd ⟨Ab dep s.env,m⟩ (AG dst r)) else none
def bnk (dep:Nat) (s:St) (dst:Option Nat) (own:Bool):Ans→Option St
 |some (r,m)=>if(Ao dep m).all (fun p=>p.2.A4 (dep+1)) then Hi dep s dst r (Ao dep m) (BC dst own false r) else none
 |none=>none
@[go_sem] theorem callM_def (s:St) (dst:Option Nat) (own:Bool) (f:FuncId) (vs:List V):B0 AY dep s dst own f vs=if((BJ s.get vs).isNone&&vs.all V.AZ)=true then bnk dep s dst own (AY f (dep+1) vs s.mem) else none:=by
 unfold B0 bnk Hi;split
 · cases AY f (dep+1) vs s.mem with
   |none=>rfl
   | some p=>
    obtain⟨r,m⟩:=p;simp only;split
    · cases BC dst own false r<;>rfl
    · rfl
 · rfl
@[go_sem] theorem aY (s:St) (dst:Option Nat) (own:Bool) (r:V) (m:List (Cel×V)):bnk dep s dst own (some (r,m))=if(Ao dep m).all (fun p=>p.2.A4 (dep+1)) then Hi dep s dst r (Ao dep m) (BC dst own false r) else none:=rfl
@[go_sem] theorem eD (e:List (Nat×V)) (m0:List (Cel×V)) (dst:Option Nat) (r:V) (m:List (Cel×V)) (u:List (Loc×V)):Hi dep ⟨e,m0⟩ dst r m (some u)=some (St.upd ⟨Ab dep e,m⟩ u):=rfl
@[go_sem] theorem eE (e:List (Nat×V)) (m0:List (Cel×V)) (dst:Option Nat) (r:V) (m:List (Cel×V)):Hi dep ⟨e,m0⟩ dst r m none=if r.A4 (dep+1)&&r.AZ then some (St.upd ⟨Ab dep e,m⟩ (AG dst r)) else none:=rfl
@[go_sem] theorem eT (dst:Option Nat) (own sh:Bool) (d k o:Nat):BC dst own sh (.ref d k o)=none:=rfl
@[go_sem] theorem eV (dst:Option Nat) (own sh:Bool) (t:TypeId) (v:V):BC dst own sh (.ifc t v)=none:=rfl
@[go_sem] theorem eW (dst:Option Nat) (own sh:Bool) (f:FuncId) (a b:List V):BC dst own sh (.clo f a b)=none:=rfl
@[go_sem] theorem lZ:Ao dep []=[]:=rfl
@[go_sem] theorem aS (d k o:Nat) (v:V) (r:List (Cel×V)):Ao dep ((⟨d,k,o⟩,v)::r)=if d≤dep then(⟨d,k,o⟩,v)::Ao dep r else Ao dep r:=rfl
@[go_sem] theorem aP:Ab dep []=[]:=rfl
@[go_sem] theorem YK (k:Nat) (v:V) (r:List (Nat×V)):Ab dep ((k,v)::r)=(k,v.BX dep)::Ab dep r:=rfl
@[go_sem] theorem unbor_d (x:D):V.BX dep (.d x)= .d x:=rfl
@[go_sem] theorem unbor_own (nw:Bool) (z:Nat) (es:List D):V.BX dep (.own nw z es)= .own nw z es:=rfl
@[go_sem] theorem bQ (e:D) (o:Nat):V.BX dep (.Af e o)= .Af e o:=rfl
@[go_sem] theorem bP:V.BX dep .AM= .AM:=rfl
@[go_sem] theorem bR (k a b:Nat):V.BX dep (.bor (.slot k) a b)= .bor (.slot k) a b:=rfl
@[go_sem] theorem Zc (k a b:Nat):V.BX dep (.Am (.slot k) a b)= .Am (.slot k) a b:=rfl
@[go_sem] theorem bS (c:Cel) (a b:Nat):V.BX dep (.bor (.cell c) a b)= .AM:=rfl
@[go_sem] theorem Zd (c:Cel) (a b:Nat):V.BX dep (.Am (.cell c) a b)= .AM:=rfl
@[go_sem] theorem unbor_ref (d k o:Nat):V.BX dep (.ref d k o)=if decide (d<dep+1)=true then .ref d k o else .AM:=rfl
@[go_sem] theorem unbor_vec (ys:List V):V.BX dep (.vec ys)=if V.CA (dep+1) ys=true then .vec ys else .AM:=rfl
@[go_sem] theorem bO (y:V):V.BX dep (.BB y)=if V.A4 (dep+1) y=true then .BB y else .AM:=rfl
@[go_sem] theorem unbor_clo (f:FuncId) (a b:List V):V.BX dep (.clo f a b)=if(V.CA (dep+1) a&&V.CA (dep+1) b)=true then .clo f a b else .AM:=rfl
@[go_sem] theorem unbor_ifc (t:TypeId) (v:V):V.BX dep (.ifc t v)=if V.A4 (dep+1) v=true then .ifc t v else .AM:=rfl
@[go_sem] theorem eS:Ak dep []=[]:=rfl
@[go_sem] theorem Zy (d k o:Nat) (v:V) (r:List (Cel×V)):Ak dep ((⟨d,k,o⟩,v)::r)=if d<dep then(⟨d,k,o⟩,v.Co dep)::Ak dep r else Ak dep r:=rfl
@[go_sem] theorem homeN_d (n:Nat) (x:D):V.Co n (.d x)= .d x:=rfl
@[go_sem] theorem homeN_own (n:Nat) (nw:Bool) (z:Nat) (es:List D):V.Co n (.own nw z es)= .own false z es:=rfl
@[go_sem] theorem homeN_ref (n d k o:Nat):V.Co n (.ref d k o)=if decide (d<n)=true then .ref d k o else .AM:=rfl
@[go_sem] theorem homeN_vec (n:Nat) (ys:List V):V.Co n (.vec ys)=if V.CA n ys=true then .vec ys else .AM:=rfl
@[go_sem] theorem kC (n:Nat) (y:V):V.Co n (.BB y)=if V.A4 n y=true then .BB y else .AM:=rfl
@[go_sem] theorem homeN_clo (n:Nat) (f:FuncId) (a b:List V):V.Co n (.clo f a b)=if(V.CA n a&&V.CA n b)=true then .clo f a b else .AM:=rfl
def kS (g:Option (List D)):Option D→Option (List D)
 |some x=>g.bind fun r=>if x.AP then some (x::r) else none
 |none=>none
@[go_sem] theorem gatherR_z (s:Get) (d k off:Nat):CW s d k off 0=some []:=rfl
@[go_sem] theorem gatherR_s (s:Get) (d k off n:Nat):CW s d k off (n+1)=kS (CW s d k (off+1) n) ((s (.cell ⟨d,k,off⟩)).bind CR):=by
 rw[CW];unfold kS;cases(s (.cell ⟨d,k,off⟩)).bind CR with
 |none=>rfl
 |some x=>cases CW s d k (off+1) n<;>rfl
@[go_sem] theorem gatR_some (g:Option (List D)) (x:D):kS g (some x)=g.bind fun r=>if x.AP then some (x::r) else none:=rfl
def GP:Option V→Option V
 |some (.own _ z es)=>some (.own false z es)
 |some v=>if v.AZ then some v else none
 |none=>none
def XU (dep:Nat) (s:Get) (z:Option Nat):Option V→Option V
 |some (.ref d j off)=>if dep≤d then match z with
   |none=>GP (s (.cell ⟨d,j,off⟩))
   |some n=>(CW s d j off n).map fun cs=> .d (.agg cs)
  else none
 |_=>none
@[go_sem] theorem resV_cell (s:Get) (k:Nat) (z:Option Nat):FV dep s (.cell k z)=XU dep s z (s (.slot k)):=by
 simp only[FV,XU,GP];cases s (.slot k) with
 |none=>rfl
 | some v=>
  cases v<;>first|rfl| (simp only;split<;>first|rfl| (cases z<;>first|rfl| (rename_i d j off _;cases s (.cell ⟨d,j,off⟩)<;>rfl)))
@[go_sem] theorem resC_N (s:Get) (n d j off:Nat):XU dep s (some n) (some (.ref d j off))=if dep≤d then(CW s d j off n).map fun cs=> .d (.agg cs) else none:=rfl
@[go_sem] theorem resC_1 (s:Get) (d j off:Nat):XU dep s none (some (.ref d j off))=if dep≤d then GP (s (.cell ⟨d,j,off⟩)) else none:=rfl
@[go_sem] theorem cellV_own (nw:Bool) (z:Nat) (es:List D):GP (some (.own nw z es))=some (.own false z es):=rfl
@[go_sem] theorem cellV_d (y:D):GP (some (.d y))=some (.d y):=rfl
@[go_sem] theorem mY (e:D) (o:Nat):GP (some (.Af e o))=some (.Af e o):=rfl
@[go_sem] theorem cellV_ref (d j o:Nat):GP (some (.ref d j o))=some (.ref d j o):=rfl
@[go_sem] theorem kX (k:Nat) (t:TypeId) (zero:D):bmh (some k) t zero true (.d .Be)=some [(.slot k,.d (.tup [zero,.bool false]))]:=rfl
attribute [go_sem] adj adb Bool.true_and Bool.false_and Bool.and_true Bool.and_false Bool.true_or Bool.false_or Bool.or_true Bool.or_false true_and and_true and_self Nat.zero_lt_succ Nat.lt_add_one Option.some.injEq Loc.slot.injEq beq_self_eq_true List.length_cons List.length_nil decide_true decide_false Bool.and_self bne_self_eq_false acb
attribute [go_sem] Cel.mk.injEq Loc.cell.injEq false_and and_false Nat.zero_add adv List.drop_zero Nat.sub_zero bd dr aby aci
def V.dem:V→V
 | .own _ _ es=> .d (.sl es)
 |v=>v
@[go_sem] theorem dem_nil (e:List (Nat×V)):List.foldl (fun e k=>BS k e) e []=e:=rfl
@[go_sem] theorem dem_cons (e:List (Nat×V)) (k:Nat) (r:List Nat):List.foldl (fun e k=>BS k e) e (k::r)=List.foldl (fun e k=>BS k e) (BS k e) r:=rfl
@[go_sem] theorem aQ (k:Nat):BS k []=[]:=rfl
@[go_sem] theorem YL (k k':Nat) (v:V) (r:List (Nat×V)):BS k ((k',v)::r)=if k'=k then(k',v.dem)::r else(k',v)::BS k r:=by
 cases v<;>rfl
@[go_sem] theorem dem_own (nw:Bool) (z:Nat) (es:List D):V.dem (.own nw z es)= .d (.sl es):=rfl
@[go_sem] theorem dem_d (x:D):V.dem (.d x)= .d x:=rfl
@[go_sem] theorem dem_ref (d k o:Nat):V.dem (.ref d k o)= .ref d k o:=rfl
@[go_sem] theorem dem_junk:V.dem .AM= .AM:=rfl
@[go_sem] theorem freeE_nil (d k:Nat):Da d k []=[]:=rfl
@[go_sem] theorem kT (d k j:Nat) (v:V) (r:List (Nat×V)):Da d k ((j,v)::r)=(j,v.free d k)::Da d k r:=rfl
@[go_sem] theorem bl6 (d k:Nat):Bv d k []=[]:=rfl
@[go_sem] theorem bb3 (d k d' k' o:Nat) (v:V) (r:List (Cel×V)):Bv d k ((⟨d',k',o⟩,v)::r)=if d'=d∧k'=k then Bv d k r else(⟨d',k',o⟩,v.free d k)::Bv d k r:=rfl
@[go_sem] theorem free_d (d k:Nat) (x:D):V.free d k (.d x)= .d x:=rfl
@[go_sem] theorem free_own (d k:Nat) (nw:Bool) (z:Nat) (es:List D):V.free d k (.own nw z es)= .own nw z es:=rfl
@[go_sem] theorem free_ref (d k d' k' o:Nat):V.free d k (.ref d' k' o)=if d'=d∧k'=k then .AM else .ref d' k' o:=rfl
@[go_sem] theorem free_iptr (d k:Nat) (e:D) (o:Nat):V.free d k (.Af e o)= .Af e o:=rfl
@[go_sem] theorem free_junk (d k:Nat):V.free d k .AM= .AM:=rfl
@[go_sem] theorem free_bor (d k:Nat) (l:Loc) (a b:Nat):V.free d k (.bor l a b)= .bor l a b:=rfl
@[go_sem] theorem free_bref (d k:Nat) (l:Loc) (a b:Nat):V.free d k (.Am l a b)= .Am l a b:=rfl
@[go_sem] theorem free_vec (d k:Nat) (ys:List V):V.free d k (.vec ys)=if V.B4 d k ys=true then .vec ys else .AM:=rfl
@[go_sem] theorem free_vref (d k:Nat) (y:V):V.free d k (.BB y)=if y.apart d k=true then .BB y else .AM:=rfl
@[go_sem] theorem free_clo (d k:Nat) (f:FuncId) (a b:List V):V.free d k (.clo f a b)=if(V.B4 d k a&&V.B4 d k b)=true then .clo f a b else .AM:=rfl
@[go_sem] theorem free_ifc (d k:Nat) (t:TypeId) (v:V):V.free d k (.ifc t v)=if v.apart d k=true then .ifc t v else .AM:=rfl
@[go_sem] theorem nU (d k:Nat):V.B4 d k []=true:=rfl
@[go_sem] theorem bI (d k:Nat) (v:V) (r:List V):V.B4 d k (v::r)=(v.apart d k&&V.B4 d k r):=rfl
@[go_sem] theorem apart_ref (d k d' k' o:Nat):V.apart d k (.ref d' k' o)= !(decide (d'=d)&&decide (k'=k)):=rfl
@[go_sem] theorem apart_d (d k:Nat) (x:D):V.apart d k (.d x)=true:=rfl
@[go_sem] theorem nV (d k:Nat) (e:D) (o:Nat):V.apart d k (.Af e o)=true:=rfl
@[go_sem] theorem gb_true (b:Bool):(b==true)=b:=by cases b<;>rfl
@[go_sem] theorem gb_false (b:Bool):(b==false)= !b:=by cases b<;>rfl
attribute [go_sem] acd
@[go_sem] theorem XS (cs:List D) (off:Nat):setCells cs off []=cs:=rfl
@[go_sem] theorem Wj (cs:List D) (off:Nat) (x:D) (r:List D):setCells cs off (x::r)=setCells (cs.set off x) (off+1) r:=rfl
attribute [go_sem] List.set_cons_zero List.set_cons_succ List.set_nil
end Go.Ev
namespace Go.Ev
open Go
variable {cfg:Cfg} {AY:Orc} {dep:Nat} {X:Kx} {K:List Kf} {s:St}
def Gl (k n z:Nat):Option V→Option Int→Option (List (Loc×V))
 |some v,some j=>if 0≤j∧j<n then match v with
  | .ref d b o=>some [(.slot k,.ref d b (o+j.toNat*z))]
  | .Am l i o=>some [(.slot k,.Am l i (o+j.toNat*z))]
  | .Af e o=>some [(.slot k,.Af e (o+j.toNat*z))]
  | .d (.ptr e)=>some [(.slot k,.Af e (j.toNat*z))]
  |_=>none else none
 |_,_=>none
@[go_sem] theorem U_idxB (s:Get) (k n z:Nat) (x i:AB):Ae cfg AY dep s ⟨some k,none,.Fw n z x i⟩=Gl k n z (val cfg s x) ((dat cfg s i).bind D.toInt?):=by
 show Al cfg dep s (some k) (.Fw n z x i)=_;unfold Gl;simp only[Al];cases val cfg s x with
 |none=>rfl
 | some v=>cases(dat cfg s i).bind D.toInt? with
  |none=>rfl
  |some j=>rfl
@[go_sem] theorem idxBQ_ref (k n z d b o:Nat) (j:Int):Gl k n z (some (.ref d b o)) (some j)=if 0≤j∧j<n then some [(.slot k,.ref d b (o+j.toNat*z))] else none:=rfl
@[go_sem] theorem fH (k n z:Nat) (l:Loc) (i o:Nat) (j:Int):Gl k n z (some (.Am l i o)) (some j)=if 0≤j∧j<n then some [(.slot k,.Am l i (o+j.toNat*z))] else none:=rfl
@[go_sem] theorem fG (k n z:Nat) (e:D) (o:Nat) (j:Int):Gl k n z (some (.Af e o)) (some j)=if 0≤j∧j<n then some [(.slot k,.Af e (o+j.toNat*z))] else none:=rfl
@[go_sem] theorem idxBQ_ptr (k n z:Nat) (e:D) (j:Int):Gl k n z (some (.d (.ptr e))) (some j)=if 0≤j∧j<n then some [(.slot k,.Af e (j.toNat*z))] else none:=rfl
@[go_sem] theorem deqn_agg (ks:List Nat) (xs ys:List D):D.eqn cfg (.agg ks) (.agg xs) (.agg ys)=dm ks xs ys:=rfl
def nW:Option Bool→Option Bool→Option Bool
 |some a,some b=>some (a&&b)
 |_,_=>none
@[go_sem] theorem aV:dm [] [] []=some true:=rfl
@[go_sem] theorem YS (n:Nat) (ns:List Nat) (a b:D) (r r':List D):dm (n::ns) (a::r) (b::r')=nW (qe n a b) (dm ns r r'):=by
 unfold nW;rw[dm];cases qe n a b<;>rfl
@[go_sem] theorem andQ_some (a b:Bool):nW (some a) (some b)=some (a&&b):=rfl
@[go_sem] theorem nA (k:IntKind) (a b:Int):qe 0 (.int k a) (.int k b)=some (a==b):=by simp[qe]
@[go_sem] theorem aW (a b:Bool):qe 1 (.bool a) (.bool b)=some (a==b):=rfl
@[go_sem] theorem mZ (a b:List UInt8):qe 2 (.str a) (.str b)=some (a==b):=rfl
attribute [go_sem] go_each
@[go_sem] theorem goEQ_some (ps:List Nat) (a b:AA) (l:List (List D)):goEQ X ps a b K s (some l)=goE X ps a b (Ab X.dep s.env) K l s.mem:=rfl
@[go_sem] theorem goE_nil (ps:List Nat) (a b:AA) (E:List (Nat×V)) (m:List (Cel×V)):goE X ps a b E K [] m=go X K ⟨E,m⟩:=rfl
theorem ln (ps:List Nat) (a b:AA) (E:List (Nat×V)) (x:List D) (l:List (List D)) (m:List (Cel×V)):goE X ps a b E K (x::l) m=Qa X a b K E m (goE X ps a b E K l) (D6 ps x (Bu E)):=rfl
@[go_sem] theorem kK (a b:AA) (E e:List (Nat×V)) (m:List (Cel×V)) (f:List (Cel×V)→Ans):Qa X a b K E m f (some e)=go ⟨X.cfg,X.dep+1,Hz X b K E f⟩ [.c a] ⟨e,m⟩:=rfl
@[go_sem] theorem goRnd_n (b:AA) (E:List (Nat×V)) (f:List (Cel×V)→Ans) (s:St):Hz X b K E f .normal s=go ⟨X.cfg,X.dep+1,H2 X K E f⟩ [.c b] s:=rfl
@[go_sem] theorem goEnd_n (E:List (Nat×V)) (f:List (Cel×V)→Ans) (s:St):H2 X K E f .normal s=f (Ak (X.dep+1) s.mem):=rfl
@[go_sem] theorem goEnd_r (E:List (Nat×V)) (f:List (Cel×V)→Ans) (s:St):H2 X K E f .ret s=X.k .ret ⟨E,Ak (X.dep+1) s.mem⟩:=rfl
@[go_sem] theorem goEnd_x (E:List (Nat×V)) (f:List (Cel×V)→Ans) (s:St) (id:Nat):H2 X K E f (.exit id) s=goX X id K ⟨E,Ak (X.dep+1) s.mem⟩:=rfl
@[go_sem] theorem putPs_nil (e:List (Nat×V)):D6 [] [] e=some e:=rfl
@[go_sem] theorem eB (p:Nat) (ps:List Nat) (d:D) (ds:List D) (e:List (Nat×V)):D6 (p::ps) (d::ds) e=D6 ps ds (st e p (.d d)):=rfl
@[go_sem] theorem cL:Bu []=[]:=rfl
@[go_sem] theorem Zo (k:Nat) (v:V) (r:List (Nat×V)):Bu ((k,v)::r)=(k,v.C3)::Bu r:=rfl
@[go_sem] theorem roundV_d (x:D):(V.d x).C3= .d x:=rfl
@[go_sem] theorem cG (d k o:Nat):(V.ref d k o).C3= .ref d k o:=rfl
@[go_sem] theorem cF (ys:List V):(V.vec ys).C3= .vec ys:=rfl
@[go_sem] theorem Zl (y:V):(V.BB y).C3= .BB y:=rfl
@[go_sem] theorem cJ (f:FuncId) (a b:List V):(V.clo f a b).C3= .clo f a b:=rfl
@[go_sem] theorem cH (n:Bool) (z:Nat) (es:List D):(V.own n z es).C3= .AM:=rfl
@[go_sem] theorem Zn (e:D) (o:Nat):(V.Af e o).C3= .Af e o:=rfl
@[go_sem] theorem cI (t:TypeId) (v:V):(V.ifc t v).C3= .ifc t v:=rfl
@[go_sem] theorem Zm:V.AM.C3= .AM:=rfl
def blv (cfg:Cfg) (f:FuncId):Option (List D)→Option (List (List D))
 |some ds=>(cfg.iter f).bind fun g=>g ds
 |none=>none
@[go_sem] theorem Z1 (f:FuncId) (caps:List V):DC cfg (.clo f [] caps)=blv cfg f (B6 caps):=by
 unfold blv DC;cases h1:cfg.iter f with
 |none=>cases h2:B6 caps<;>simp only[h1,h2]<;>rfl
 |some g=>cases h2:B6 caps<;>simp only[h1,h2]<;>rfl
@[go_sem] theorem Z0 (f:FuncId) (ds:List D):blv cfg f (some ds)=(cfg.iter f).bind fun g=>g ds:=rfl
@[go_sem] theorem kL (s:St):DL s []=s:=rfl
@[go_sem] theorem aA (s:St) (k:Nat) (r:List Nat):DL s (k::r)=DL (s.upd (Fc s.get k)) r:=rfl
def bl2 (s:Get):Option V→List (Loc×V)
 | some (.ref d j off)=>match s (.cell ⟨d,j,off⟩) with
  |some (.own _ _ es)=>[(.cell ⟨d,j,off⟩,.d (.sl es))]
  |_=>[]
 |_=>[]
def bl1 (d j off:Nat):Option V→List (Loc×V)
 |some (.own _ _ es)=>[(.cell ⟨d,j,off⟩,.d (.sl es))]
 |_=>[]
@[go_sem] theorem kQ (s:Get) (k:Nat):Fc s k=bl2 s (s (.slot k)):=rfl
@[go_sem] theorem aC (s:Get) (d j off:Nat):bl2 s (some (.ref d j off))=bl1 d j off (s (.cell ⟨d,j,off⟩)):=rfl
@[go_sem] theorem kP (d j off:Nat) (n:Bool) (z:Nat) (es:List D):bl1 d j off (some (.own n z es))=[(.cell ⟨d,j,off⟩,.d (.sl es))]:=rfl
@[go_sem] theorem givenR_d (d j off:Nat) (x:D):bl1 d j off (some (.d x))=[]:=rfl
end Go.Ev
namespace Go.Ev
open Go
abbrev oo (k:Nat) (op:IOp):AS:=⟨some k,none,op⟩
abbrev og (k j:Nat) (b:Bool) (op:IOp):AS:=⟨some k,some (j,b),op⟩
abbrev ow (op:IOp):AS:=⟨none,none,op⟩
abbrev ci (n:Int):AB:= .c (.int .i64 n)
abbrev Ops:=List AS
abbrev rg (l:Ops) (Ac:List Nat):AA:= .region l [] Ac
abbrev Gr (X:Kx) (K:List Kf) (s:St) (r:AA) (l:Ops) (Ac:List Nat):Prop:=go X (.c r::K) s=goR X l Ac K s
abbrev Gu (X:Kx) (K:List Kf) (s:St) (r:AA) (n:List (Nat×Nat)) (l:Ops) (Ac:List Nat):Prop:=go X (.c r::K) s=Fx X s.env true [] n l Ac K s
abbrev Gn (X:Kx) (K:List Kf) (s:St) (r c:AA):Prop:=go X (.c r::K) s=go X (.c c::K) s
abbrev Uc (cfg:Cfg) (f:FuncId):Prop:=(∀ (AY:Orc) (dep:Nat) (s:Get) (k:Nat) (own:Bool) (args:List AB),Ae cfg AY dep s ⟨some k,none,.call own f args⟩=(BK cfg s args).bind fun vs=>IA cfg AY s (some k) own f args vs)∧
 ∀ (AY:Orc) (dep:Nat) (s:St) (k:Nat) (own:Bool) (args:List AB),BN cfg AY dep s ⟨some k,none,.call own f args⟩=(BK cfg s.get args).bind fun vs=>B0 AY dep s (some k) own f vs
theorem uc {cfg:Cfg} {f:FuncId} (h:cfg.clip f=false):Uc cfg f:=⟨fun _ _ s k own args=>ZY s k own f args h,fun _ _ s k own args=>oQ s k own f args h⟩
abbrev Uk (cfg:Cfg) (f:FuncId):Prop:=∀ (AY:Orc) (dep:Nat) (s:Get) (k:Nat) (own:Bool) (x:AB),Ae cfg AY dep s ⟨some k,none,.call own f [x]⟩=(val cfg s x).bind fun v=>D2 (some k) x v
theorem uk {cfg:Cfg} {f:FuncId} (h:cfg.clip f=true):Uk cfg f:=fun _ _ s k own x=>oO s k own f x h
abbrev Oe (cfg:Cfg) (f:FuncId) (ar:Nat) (res:List Dh) (c:AA):Prop:=∀ (dep:Nat) (vs:List V) (m:List (Cel×V)),vs.length=ar→E7 vs m=true→evL cfg f dep vs m=go (fx cfg dep res) [.c c] ⟨entry 0 vs,m⟩
abbrev Of (X:Kx) (f:FuncId) (vs:List V) (c:AA):Prop:=evL X.cfg f 0 vs []=go X [.c c] ⟨entry 0 vs,[]⟩
theorem bmu (i:Nat):entry i []=[]:=rfl
theorem bb7 (i:Nat) (v:V) (r:List V):entry i (v::r)=(i,v)::entry (i+1) r:=rfl
attribute [go_sem] bmu bb7
end Go.Ev
namespace Go.Ev
open Go
def Ed (a b:List UInt8):Int:=if Op.bytesLess a b then -1 else if Op.bytesLess b a then 1 else 0
def kw:List D→Option V
 | [.sl a,.sl b]=>(b7 a).bind fun a=>(b7 b).map fun b=> .d (.int .i64 (Ed a b))
 |_=>none
def dg:List D→Option V
 | [.int .i64 n]=>if 0≤n∧n≤1000000000 then some (.own false 1 (List.replicate n.toNat D.unk)) else none
 |_=>none
def ot:List D→Option (List UInt8)
 | []=>some []
 | .int .u8 n::r=>if 0≤n∧n<256 then(ot r).map (UInt8.ofNat n.toNat:: ·) else none
 |_=>none
def k8:List D→Option (List (List UInt8))
 | []=>some []
 | .sl e::r=>(ot e).bind fun b=>(k8 r).map (b:: ·)
 |_=>none
def BA (b:List UInt8):D:= .sl (b.map AD)
end Go.Ev
namespace Go.Ev
open Go
theorem ba {α:Type} {l:List α} {i:Nat} {c:α} {r:List α} (hr:l.drop i=c::r):i<l.length∧l[i]? =some c∧l.drop (i+1)=r:=by
 have hlt:i<l.length:=by
   apply Classical.byContradiction;intro h;rw[List.drop_of_length_le abu] at hr;cases hr
 refine⟨hlt,?_,?_⟩
 · have:=congrArg (·[0]?) hr
   simpa using this
 · rw[← List.drop_drop,hr];rfl
theorem aq {α:Type} {l:List α} {i:Nat} (hr:l.drop i=[]):l.length≤i:=by simpa using hr
@[go_sem] theorem cells_txt (b:List UInt8):(BA b).cells=[BA b]:=rfl
@[go_sem] theorem canon_txt (b:List UInt8):(BA b).canon=BA b:=rfl
@[go_sem] theorem can_txt (b:List UInt8):(BA b).can=BA b:=rfl
@[go_sem] theorem Wy (b:List UInt8):(BA b).storable=true:=rfl
@[go_sem] theorem len_txt (b:List UInt8):V.len? (.d (BA b))=some b.length:=by simp[BA,V.len?]
@[go_sem] theorem cont_txt (s:Get) (b:List UInt8):cont s (.d (BA b))=some (b.map AD):=rfl
@[go_sem] theorem asD_txt (b:List UInt8):V.asD (.d (BA b))=some (BA b):=rfl
@[go_sem] theorem plain_txt (b:List UInt8):(BA b).plain=b.isEmpty:=by cases b<;>rfl
@[go_sem] theorem evIdx_txt (s:Get) (dst:Option Nat) (z:Nat) (x:AB) (b:List UInt8) (i:Nat):Br s dst z x (.d (BA b)) (i:Int)=((b.map AD)[i]?).bind fun e=>if e.cells.length=z then some (AG dst (.Af e 0)) else none:=bml _ _ _ _ _
def GW (acc:List D):V:=if acc.isEmpty then .d .AL else .own false 1 acc
theorem jg:GW []= .d .AL:=rfl
theorem iu (d:D) (r:List D):GW (d::r)= .own false 1 (d::r):=rfl
theorem aj8 (r:List D) (d:D):GW (r++[d])= .own false 1 (r++[d]):=by cases r<;>rfl
theorem re:∀ b:List UInt8,ot (b.map AD)=some b
 | []=>rfl
 | x::b=>by
  have h:=x.toNat_lt;rw[List.map_cons,show AD x= .int .u8 (x.toNat:Int) from rfl,ot,if_pos ⟨by omega,by omega⟩,re b]
  simp
theorem rf:∀ {es:List D} {b:List UInt8},ot es=some b→es=b.map AD
 | [],b,h=>by cases h;rfl
 | e::es,b,h=>by
  unfold ot at h;split at h
  · rename_i he;cases he
  · rename_i n r he
    cases he;split at h
    · rename_i hn
      simp only[abz] at h;obtain⟨b',h1,rfl⟩:=h;rw[List.map_cons,← rf h1,gz abu,Int.toNat_of_nonneg hn.1]
    · cases h
  · cases h
theorem rb:∀ {es:List D} {l:List (List UInt8)},k8 es=some l→es=l.map BA
 | [],l,h=>by cases h;rfl
 | e::es,l,h=>by
  unfold k8 at h;split at h
  · rename_i he;cases he
  · rename_i e r he
    cases he;simp only[ab7,abz] at h;obtain⟨b,h1,l',h2,rfl⟩:=h;rw[List.map_cons,← rb h2,rf h1];rfl
  · cases h
end Go.Ev
namespace Go.Ev
open Go
abbrev Tx:=List UInt8
theorem bag (x:Tx):Op.bytesLess x []=false:=by cases x<;>rfl
theorem pj (c d:UInt8) (x y:Tx):Op.bytesLess (c::x) (d::y)=(decide (c<d)||(c==d&&Op.bytesLess x y)):=rfl
theorem alg:∀ x:Tx,Op.bytesLess x x=false
 | []=>rfl
 |c::x=>by rw[pj,alg x];simp
theorem bnr:∀ {x y:Tx},Op.bytesLess x y=true→Op.bytesLess y x=false
 |x,[],h=>by rw[bag] at h;cases h
 | [],d::y,h=>bag _
 | c::x,d::y,h=>by
  rw[pj] at h ⊢;simp only[acu,ab4,aca,acg] at h;simp only[ac3,ab3,Bool.and_eq_false_imp,acg];rcases h with h|⟨rfl,h⟩
  · refine⟨fun h2=>absurd (UInt8.lt_trans h h2) (UInt8.lt_irrefl _),fun e=> ?_⟩
    subst e;exact absurd h (UInt8.lt_irrefl _)
  · exact⟨UInt8.lt_irrefl _,fun _=>bnr h⟩
theorem alf:∀ {x y:Tx},Op.bytesLess x y=false→Op.bytesLess y x=false→x=y
 | [],[],_,_=>rfl
 | [],d::y,h,_=>by cases h
 |c::x,[],_,h=>by cases h
 | c::x,d::y,h,h'=>by
  rw[pj] at h h';simp only[ac3,ab3,Bool.and_eq_false_imp,acg] at h h';have e:c=d:=by
   have h1:=h.1;have h2:=h'.1;rw[UInt8.lt_iff_toNat_lt] at h1 h2;exact UInt8.toNat_inj.1 abu
  subst e;rw[alf (h.2 rfl) (h'.2 rfl)]
theorem lu:∀ {x y z:Tx},Op.bytesLess x y=true→Op.bytesLess y z=true→Op.bytesLess x z=true
 |x,[],z,h,_=>by rw[bag] at h;cases h
 |x,d::y,[],_,h=>by rw[bag] at h;cases h
 | [],d::y,e::z,_,_=>rfl
 | c::x,d::y,e::z,h,h'=>by
  rw[pj] at h h' ⊢;simp only[acu,ab4,aca,acg] at h h' ⊢;rcases h with h|⟨rfl,h⟩
  · rcases h' with h'|⟨rfl,h'⟩
    · exact .inl (UInt8.lt_trans h h')
    · exact .inl h
  · rcases h' with h'|⟨rfl,h'⟩
    · exact .inl h'
    · exact .inr ⟨rfl,lu h h'⟩
theorem t6 {x y z:Tx} (h:Op.bytesLess y x=false) (h':Op.bytesLess y z=true):Op.bytesLess x z=true:=by
 rcases ab2 (Op.bytesLess x y) with a|a
 · exact lu a h'
 · rw[alf a h];exact h'
def ER:List Tx→Prop
 | []=>True
 |x::r=>(∀ y∈r,Op.bytesLess x y=true)∧ER r
def CS (x:Tx):List Tx→Nat
 | []=>0
 |y::r=>if Op.bytesLess y x then CS x r+1 else 0
def FG (x:Tx) (ws:List Tx):List Tx:=if ws[CS x ws]? =some x then ws else ws.take (CS x ws)++x::ws.drop (CS x ws)
theorem si (x:Tx):∀ ws,CS x ws≤ws.length
 | []=>ab5 _
 | y::r=>by
  have:=si x r;rw[CS,List.length_cons];split<;>omega
theorem bk7 {x:Tx}:∀ {ws:List Tx} {i:Nat} {y:Tx},i<CS x ws→ws[i]? =some y→Op.bytesLess y x=true
 | [],i,y,h,_=>by simp[CS] at h
 | z::r,0,y,h,e=>by
  rw[CS] at h;split at h
  · rename_i hz;simp at e;rw[← e];exact hz
  · omega
 | z::r,i+1,y,h,e=>by
  rw[CS] at h;split at h
  · exact bk7 (x:=x) (ws:=r) (i:=i) abu (by simpa using e)
  · omega
theorem bk9 {x:Tx}:∀ {ws:List Tx} {y:Tx},ws[CS x ws]? =some y→Op.bytesLess y x=false
 | [],y,e=>by simp at e
 | z::r,y,e=>by
  rw[CS] at e;split at e
  · exact bk9 (by simpa using e)
  · rename_i hz;simp at e;rw[← e];simpa using hz
theorem akp (x y:Tx) (r:List Tx):FG x (y::r)=if Op.bytesLess y x then y::FG x r else if y=x then y::r else x::y::r:=by
 unfold FG;rw[CS];by_cases h:Op.bytesLess y x=true
 · rw[if_pos h,if_pos h]
   simp only[List.getElem?_cons_succ,List.take_succ_cons,List.drop_succ_cons,List.cons_append];split<;>rfl
 · rw[if_neg h,if_neg h]
   simp only[List.getElem?_cons_zero,Option.some.injEq,List.take_zero,List.drop_zero,List.nil_append]
theorem y8 {x z:Tx}:∀ {ws:List Tx},z∈FG x ws↔z=x∨z∈ws
 | []=>by simp[FG,CS]
 | y::r=>by
  rw[akp];split
  · rw[ach,ach,y8]
    constructor
    · rintro (h|h|h)
      · exact .inr (.inl h)
      · exact .inl h
      · exact .inr (.inr h)
    · rintro (h|h|h)
      · exact .inr (.inl h)
      · exact .inl h
      · exact .inr (.inr h)
  · split
    · rename_i e
      subst e;constructor
      · exact .inr
      · rintro (h|h)
        · rw[h];exact List.mem_cons_self
        · exact h
    · rw[ach]
theorem abl {x:Tx}:∀ {ws:List Tx},ER ws→ER (FG x ws)
 | [],_=>by
  simp only[FG,CS,List.getElem?_nil,reduceCtorEq,if_false,List.take_zero,List.drop_zero,List.nil_append];exact⟨by simp,trivial⟩
 | y::r,h=>by
  rw[akp];split
  · rename_i hy
    refine⟨fun z hz=> ?_,abl h.2⟩
    rcases y8.1 hz with e|e
    · rw[e];exact hy
    · exact h.1 z e
  · rename_i hy
    split
    · exact h
    · rename_i Ai
      have hxy:Op.bytesLess x y=true:=by
        rcases ab2 (Op.bytesLess x y) with a|a
        · exact a
        · exact absurd (alf (by simpa using hy) a) Ai
      refine⟨fun z hz=> ?_,h⟩
      rcases ach.1 hz with e|e
      · rw[e];exact hxy
      · exact lu hxy (h.1 z e)
theorem ash:∀ {a b:List Tx},ER a→ER b→(∀ z,z∈a↔z∈b)→a=b
 | [],[],_,_,_=>rfl
 | [],y::b,_,_,h=>by have:=(h y).2 List.mem_cons_self;cases this
 |x::a,[],_,_,h=>by have:=(h x).1 List.mem_cons_self;cases this
 | x::a,y::b,ha,hb,h=>by
  have hxy:x=y:=by
    rcases ach.1 ((h x).1 List.mem_cons_self) with e|e
    · exact e
    · rcases ach.1 ((h y).2 List.mem_cons_self) with e'|e'
      · exact e'.symm
      · have h1:=hb.1 x e
        have h2:=ha.1 y e';rw[bnr h1] at h2;cases h2
  subst hxy
  congr 1
  refine ash ha.2 hb.2 fun z=>⟨fun hz=> ?_,fun hz=> ?_⟩
  · rcases ach.1 ((h z).1 (acn _ hz)) with e|e
    · subst e;have:=ha.1 _ hz;rw[alg] at this;cases this
    · exact e
  · rcases ach.1 ((h z).2 (acn _ hz)) with e|e
    · subst e;have:=hb.1 _ hz;rw[alg] at this;cases this
    · exact e
def BI (l:List Tx):List Tx:=l.foldl (fun a x=>FG x a) []
theorem akt:∀ (l acc:List Tx),ER acc→ER (l.foldl (fun a x=>FG x a) acc)
 | [],acc,h=>h
 |x::l,acc,h=>akt l _ (abl h)
theorem a9t {z:Tx}:∀ (l acc:List Tx),z∈l.foldl (fun a x=>FG x a) acc↔z∈acc∨z∈l
 | [],acc=>by simp
 | x::l,acc=>by
  rw[List.foldl_cons,a9t l,y8,ach];constructor
  · rintro ((h|h)|h)
    · exact .inr (.inl h)
    · exact .inl h
    · exact .inr (.inr h)
  · rintro (h|h|h)
    · exact .inl (.inr h)
    · exact .inl (.inl h)
    · exact .inr h
theorem vg (l:List Tx):ER (BI l):=akt l [] trivial
theorem na {z:Tx} {l:List Tx}:z∈BI l↔z∈l:=by
 unfold BI;rw[a9t];simp
theorem abm {l ws:List Tx} (h:ER ws) (hm:∀ z,z∈ws↔z∈l):BI l=ws:=ash (vg l) h fun z=>by rw[na,hm]
theorem aqc (x:Tx) (ws:List Tx):(FG x ws).length≤ws.length+1:=by
 unfold FG;have:=si x ws;split
 · omega
 · simp;omega
theorem s4:∀ (l acc:List Tx),(l.foldl (fun a x=>FG x a) acc).length≤acc.length+l.length
 | [],acc=>by simp
 | x::l,acc=>by
  have:=s4 l (FG x acc);have:=aqc x acc;rw[List.foldl_cons,List.length_cons];omega
theorem gq (l:List Tx):(BI l).length≤l.length:=by
 have:=s4 l [];unfold BI;simpa using this
theorem asf {i j:Nat} {x y:Tx}:∀ {ws:List Tx},ER ws→ws[i]? =some x→ws[j]? =some y→i<j→Op.bytesLess x y=true:=by
 intro ws
 induction ws generalizing i j with
 |nil=>intro _ h;simp at h
 | cons z r ih=>
  intro hr hi hj hij;cases j with
  |zero=>omega
  | succ j=>
   cases i with
   | zero=>
    simp at hi hj;rw[← hi];exact hr.1 y (List.mem_of_getElem? hj)
   |succ i=>exact ih hr.2 (by simpa using hi) (by simpa using hj) abu
def od:List D→Option V
 | [.sl []]=>some (.d (.sl []))
 | [.sl es]=>if es.length≤1000000 then(k8 es).map fun l=> .own false 1 ((BI l).map BA) else none
 |_=>none
theorem q9:∀ l:List Tx,k8 (l.map BA)=some l
 | []=>rfl
 | x::l=>by
  rw[List.map_cons];simp only[BA,k8,re,Option.bind_some];rw[q9 l];rfl
theorem aat {l:List Tx} (h:l≠[]) (hl:l.length≤1000000):od [.sl (l.map BA)]=some (.own false 1 ((BI l).map BA)):=by
 cases l with
 |nil=>exact absurd rfl h
 | cons x l=>
  rw[List.map_cons];unfold od;simp only;rw[← List.map_cons,q9,if_pos (by simpa using hl)]
  rfl
end Go.Ev
namespace Go.Ev
open Go
theorem bm3:∀ a b:Tx,Lib.compareBytes a b=Ed a b
 | [],[]=>rfl
 | [],_::_=>rfl
 |_::_,[]=>rfl
 | c::a,d::b=>by
  have ih:=bm3 a b;rw[Lib.compareBytes,ih];unfold Ed;rw[pj,pj];by_cases h:c<d
  · simp[h]
  · by_cases h':d<c
    · have Ai:¬ d=c:=fun e=>by subst e;exact UInt8.lt_irrefl _ h'
      have hne':¬ c=d:=fun e=>Ai e.symm
      simp[h,h',hne']
    · have e:c=d:=by
       rw[UInt8.lt_iff_toNat_lt] at h h';exact UInt8.toNat_inj.1 abu
      subst e;simp[h]
section
variable {F:Nat→Prop} {w:World} {P:Program}
theorem Rd.G3 {v:Value} {ns:List Int} (h:Rd F w v (.sl (ns.map (D.int .u8)))):∃ ad cap,v= .slice ad ns.length cap∧(ns≠[]→∃ c o,ad=some (ad3 c o)∧∀ (j:Nat) x,ns[j]? =some x→w.cell? (ad3 c (o+j))=some (.int .u8 x)):=by
 generalize hd:ns.map (D.int .u8)=es at h;cases h with
 | slA ad cap=>
  have:ns=[]:=by simpa using hd
  subst this;exact⟨ad,cap,rfl,fun h=>absurd rfl h⟩
 | sl c o len cap z es vs hlen Ad hz hc hm hr=>
  subst hd;rw[aby] at hlen;subst hlen;refine⟨some (ad3 c o),cap,rfl,fun Ai=>⟨c,o,rfl,fun j x hj=> ?_⟩⟩
  have hz1:z=1:=by
   cases ns with
   |nil=>exact absurd rfl Ai
   |cons y b=>exact(hz (.int .u8 y) abw).symm
  subst hz1;have he:(ns.map (D.int .u8))[j]? =some (.int .u8 x):=by rw[acf,hj];rfl
  have h1:=hm j _ he 0 (.int .u8 x) rfl;have h2:=hr j _ he 0 (.int .u8 x) rfl;have h3:vs j 0= .int .u8 x:=h2.Ar;rw[h3] at h1;simpa using h1.2
theorem abi {v:Value} {ns:List Int} (h:Rd F w v (.sl (ns.map (D.int .u8)))) {src e:TypeId} (hs:P.underlying src=some (.slice e)) (he:P.underlying e=some (.int .u8)) {dst:TypeId} (hd:P.underlying dst=some .string):
  (convert src dst v).run P w= .ok (.string ⟨(Lib.bytesOf ns).toArray⟩) w:=by
 obtain⟨ad,cap,rfl,hb⟩:=h.G3;cases ns with
 | nil=>
  rw[run_convert_bytes_string w src dst e ad _ cap hs he hd];cases ad with
  |none=>rfl
  |some a0=>exact run_bytesToString w a0 _ cap [] (run_loadCells_list (P:=P) w a0 [] (fun m v hm=>by simp at hm))
 | cons x b=>
  obtain⟨c,o,rfl,hc⟩:=hb abw;exact run_convert_bytes_arg (P:=P) w src e hs he c o _ cap (x::b) rfl (fun i hi=>by
   have:=hc i _ (ab0 hi);rw[this,List.getD,ab0 hi];rfl) dst hd
theorem l3 {v:Value} {ns:List Int} (h:Rd F w v (.sl (ns.map (D.int .u8)))):(Extern.Bytes.bytesOf v).run P w= .ok ⟨(Lib.bytesOf ns).toArray⟩ w:=by
 obtain⟨ad,cap,rfl,hb⟩:=h.G3;cases ns with
 | nil=>
  cases ad with
  |none=>rfl
  |some a=>rfl
 | cons x b=>
  obtain⟨c,o,rfl,hc⟩:=hb abw;have h1:=Lib.run_loadBytesX (P:=P) w (x::b) (ad3 c o) .empty (fun j y hy=>by
   have:=hc j y hy;rw[ct];exact this)
  show(Extern.Bytes.loadBytes (ad3 c o) (x::b).length .empty).run P w=_;rw[h1];simp[ByteArray.empty,ByteArray.emptyWithCapacity];rfl
theorem pp {v u:Value} {a b:List Int} (h:Rd F w v (.sl (a.map (D.int .u8)))) (k:Rd F w u (.sl (b.map (D.int .u8)))):(Extern.BytealgCompare.compare #[v,u]).run P w= .ok (.int .i64 (Ed (Lib.bytesOf a) (Lib.bytesOf b))) w:=by
 change Sem.run P (do pure (goInt (Extern.BytealgCompare.cmp (← Extern.Bytes.bytesOf v) (← Extern.Bytes.bytesOf u)))) w=_
 simp only[Sem.run_bind,Sem.run_pure,l3 h,l3 k,Result.andThen];rw[Lib.cmp_eq,bm3];rfl
theorem xe (b:Tx):BA b= .sl ((b.map fun x=>(x.toNat:Int)).map (D.int .u8)):=by
 unfold BA;rw[List.map_map];rfl
theorem kt (b:Tx):Lib.bytesOf (b.map fun x=>(x.toNat:Int))=b:=by
 unfold Lib.bytesOf;rw[List.map_map]
 conv=>rhs;rw[← List.map_id b]
 exact List.map_congr_left fun x _=>by simp
theorem rn {v:Value} {b:Tx} (h:Rd F w v (BA b)) {src e:TypeId} (hs:P.underlying src=some (.slice e)) (he:P.underlying e=some (.int .u8)) {dst:TypeId} (hd:P.underlying dst=some .string):
  (convert src dst v).run P w= .ok (.string ⟨b.toArray⟩) w:=by
 rw[xe] at h;have:=abi h hs he hd
 rwa [kt] at this
theorem alu {v u:Value} {a b:Tx} (h:Rd F w v (BA a)) (k:Rd F w u (BA b)):(Extern.BytealgCompare.compare #[v,u]).run P w= .ok (.int .i64 (Ed a b)) w:=by
 rw[xe] at h k;have:=pp (P:=P) h k
 rwa [kt,kt] at this
theorem zj {cfg:Cfg} {f:FuncId} {fn:Func} (hf:P.funcs[f]? =some fn) (hname:(fn.name=="runtime.NumGoroutine")=false) (hb:fn.body.isNone=true) (hn:Extern.findNext fn=none) (he:Extern.find fn=some Extern.BytealgCompare.compare):DR P cfg f kw:=by
 intro ds r hr F args w h1 h2 _ _;unfold kw at hr;split at hr
 · rename_i a b
   simp only[ab7,abz] at hr;obtain⟨a',ha,b',hb',rfl⟩:=hr;obtain⟨v,u,rfl,hv,hu⟩:=FN h1 h2;obtain⟨ns,rfl,rfl⟩:=jm ha;obtain⟨ms,rfl,rfl⟩:=jm hb';refine .inl ⟨_,w,?_,ab5 _,fun _ _=>rfl,Bh.refl _,.int _ _⟩
   rw[run_callFunc_extern hf hname hb hn he,pp hv hu];rfl
 · cases hr
theorem wu:∀ (n t:Nat) (acc:Array Value),(∀ v∈acc.toList,v.oneCell'=true)→∀ v∈(Extern.BytealgMakeNoZero.digits n t acc).toList,v.oneCell'=true
 |0,_,acc,h=>h
 | n+1,t,acc,h=>wu n _ _ fun v hv=>by
  rw[Array.toList_push,acz,acv] at hv;rcases hv with hv|rfl
  · exact h v hv
  · rfl
theorem bax (ps:Array TypeId) {t e:TypeId} (ht:P.underlying t=some (.slice e)) (n:Nat) (hn:n≤1000000000):
   ∃ cs:Array Value,(Extern.BytealgMakeNoZero.makeNoZero ps #[t] #[.int .i64 n]).run P w= .ok (.slice (some (ad3 w.heap.size 0)) n cs.size) (w.drew.drew.alloc (.cells cs e))∧n≤cs.size∧∀ v∈cs.toList,v.oneCell'=true:=by
 refine⟨Extern.BytealgMakeNoZero.digits (grownCap w n 0 e) ((Question.extern "internal/bytealg.MakeNoZero.bytes" 0).cut (w.tape (w.drawn+1) (.extern "internal/bytealg.MakeNoZero.bytes" 0))) #[],?_,?_,wu _ _ _ abw⟩
 · have h1:¬ (n:Int)<0:=abu
   have h2:¬ (281474976710656:Int)<(n:Int):=abu;have hdef:Extern.BytealgMakeNoZero.makeNoZero ps #[t] #[.int .i64 n]=
    (do
     let .slice elem ←underlying t|stuck "bytealg.MakeNoZero: slice type expected"
     if(n:Int)<0||(n:Int)>2 ^ 48 then runtimePanic (.error "makeslice: len out of range")
     let cap ←choose (.appendCap (n:Int).toNat 0 elem)
     askRoom cap
     let bytes ←choose (.extern "internal/bytealg.MakeNoZero.bytes" 0)
     let a ←newRow elem (Extern.BytealgMakeNoZero.digits cap bytes #[])
     pure (.slice (some a) (n:Int).toNat cap)):=rfl
   rw[hdef];simp[run_underlying ht,h1,h2,Question.forced,newRow,Lib.size_digits,grownCap]
 · rw[Lib.size_digits]
   simpa using grownCap_ge w n 0 e
theorem qk {cfg:Cfg} {f:FuncId} {fn:Func} {ps:Array TypeId} {t e:TypeId} (hf:P.funcs[f]? =some fn) (hname:(fn.name=="runtime.NumGoroutine")=false) (hb:fn.body.isNone=true) (hn:Extern.findNext fn=none)
   (he:Extern.find fn=some (Extern.BytealgMakeNoZero.makeNoZero ps #[t])) (ht:P.underlying t=some (.slice e)):DR P cfg f dg:=by
 intro ds r hr F args w h1 h2 _ _;unfold dg at hr;split at hr
 · rename_i n
   split at hr
   · rename_i hn'
     cases hr;obtain⟨v,rfl,hv⟩:=qt h1 h2;cases hv.Ar;obtain⟨m,rfl⟩:∃ m:Nat,n=m:=⟨n.toNat,by omega⟩
     obtain⟨cs,AW,Ad,hone⟩:=bax (P:=P) (w:=w) ps ht m abu;refine .inl ⟨_,w.drew.drew.alloc (.cells cs e),by rw[run_callFunc_extern hf hname hb hn he,AW];rfl,by simp[World.alloc],fun b hb=> ?_,⟨rfl,rfl,rfl⟩,w.heap.size,0,cs.size,by simp,ab5 _,by simp[World.alloc],by simpa using Ad,?_,?_⟩
     · show(w.heap.push _)[b]? =_
       rw[Array.getElem?_push,if_neg (Nat.ne_of_lt hb)]
     · intro c e' lo hi h Ai
       have h':(w.heap.push (Obj.cells cs e))[w.heap.size]? =some (.cells c e' (lo,hi)):=h;rw[Array.getElem?_push,if_pos rfl] at h';cases h';exact absurd rfl Ai
     · have Ag:∀ j,(w.drew.drew.alloc (.cells cs e)).cell? (ad3 w.heap.size j)=cs[j]? :=fun j=>by
         have:=World.cell?_alloc_mark w.drew.drew cs e (0,0) j;exact this
       refine⟨by decide,fun j hj=>⟨⟨cs[j]'(by omega),?_⟩,?_⟩,fun d hd=> ?_,fun d hd c hc=> ?_,fun i d hd j c hc=> ?_⟩
       · rw[Nat.zero_add,Ag];exact acm _
       · have:=World.frozen?_alloc_mark w.drew.drew cs e 0 0 j
         refine Eq.trans (b:=decide (0≤j∧j<0)) ?_ abw;rw[Nat.zero_add];exact this
       · obtain⟨_,rfl⟩:=adr.1 hd;rfl
       · obtain⟨_,rfl⟩:=adr.1 hd
         rw[acv.1 hc];rfl
       · have hlt:=(ab1.1 hd).1
         rw[List.getElem?_replicate] at hd;split at hd
         · cases hd
           cases j with
           | zero=>
            simp[D.cells] at hc;subst hc;have hi:i<cs.size:=by simp at hlt;omega
            refine⟨cs[i],?_,.unk _ (hone _ abw)⟩;rw[show ad3 w.heap.size (0+i*1+0)=ad3 w.heap.size i by simp[ad3],Ag]
            exact acm _
           |succ j=>simp[D.cells] at hc
         · cases hd
   · cases hr
 · cases hr
end
end Go.Ev
namespace Go.Ev
open Go Go.RowKit
variable {P:Program} {W:World} {H:Type} {enc:TypeId×Value→H} {base:Nat} {spare:Nat→Bool} {held:Bool} {t e u:TypeId} {v:Value} {x:DataW H×List MemPlace}
theorem n9:∀ es:List D,(∀ d∈es,∃ m,d=D.int .u8 m∧(Lit.int .u8 m).wf=true)→∃ b:Tx,es=b.map AD
 | [],_=>⟨[],rfl⟩
 | d::es,h=>by
  obtain⟨m,rfl,hw⟩:=h d abw;obtain⟨b,rfl⟩:=n9 es fun d hd=>h d (by simp[hd])
  simp[Lit.wf,IntKind.min,IntKind.max,IntKind.signed,IntKind.bits] at hw;refine⟨UInt8.ofNat m.toNat::b,?_⟩;rw[List.map_cons,gz abu]
  congr 2
  omega
theorem Xq {n:Nat} (he:P.underlying e=some (.slice u)) (hu:P.underlying u=some (.int .u8)) (hz:P.cellsOf u=1):IsF P W n e fun xs=>∃ b:Tx,xs=[BA b]∧b.length≤maxLen:=by
 have h:=IsF.slice (P:=P) (w:=W) (n:=n) he abu (fun m _=>IsF.int hu) mkD (fun xs hx _=>by obtain⟨m,rfl,_⟩:=hx;rfl)
 intro H enc base spare held cs x hf;obtain⟨xs,hr,es,hxs,hlen,hes⟩:=h H enc base spare held cs x hf;obtain⟨b,rfl⟩:=n9 es fun d hd=>by
  obtain⟨ys,⟨m,rfl,hw⟩,_,rfl⟩:=hes d hd;exact⟨m,rfl,hw⟩
 exact⟨xs,hr,b,hxs,by simpa using hlen⟩
end Go.Ev
namespace Go.Ev
open Go
def xFmtI:List D→Option V
 | [.int .i64 n,.int .i64 b]=>if -9223372036854775808≤n∧n≤9223372036854775807∧b=10 then some (.d (.str (Zz n))) else none
 |_=>none
def jv:List D→Option (List (List UInt8))
 | []=>some []
 | .str b::r=>(jv r).map (b:: ·)
 |_=>none
def xJoin:List D→Option V
 | [.sl es,.str sep]=>(jv es).bind fun l=>if l.length≤1000000∧(Lib.join l sep).length≤1000000000 then some (.d (.str (Lib.join l sep))) else none
 |_=>none
def c8:List (List UInt8)→List (List UInt8)→Bool
 |_,[]=>true
 |had,s::r=> !(s.isEmpty||decide (100<s.length)||had.contains s)&&c8 (s::had) r
def uu:List D→Option V
 | [.sl es]=>(jv es).bind fun l=>if l.length≤1000000 then some (.d (.bool (c8 [] l))) else none
 |_=>none
end Go.Ev
namespace Go.Ev
open Go
inductive Ty where
 |mk (kind:Int) (names:List Tx) (kids:List Ty) (len prec scale:Int)
inductive Va where
 |mk (null:Bool) (i n:Int) (b:Tx) (kids:List Va)
namespace Ty
def kind:Ty→Int| .mk k _ _ _ _ _=>k
def names:Ty→List Tx| .mk _ n _ _ _ _=>n
def kids:Ty→List Ty| .mk _ _ k _ _ _=>k
def len:Ty→Int| .mk _ _ _ l _ _=>l
def prec:Ty→Int| .mk _ _ _ _ p _=>p
def scale:Ty→Int| .mk _ _ _ _ _ s=>s
mutual
def d:Ty→D
 | .mk k ns ks l p s=> .agg [.int .i64 k,.sl (ns.map D.str),.sl (ds ks),.int .i64 l,.int .i64 p,.int .i64 s]
def ds:List Ty→List D
 | []=>[]
 |t::r=>t.d::ds r
end
theorem GN:∀ l,ds l=l.map d
 | []=>rfl
 |t::r=>by rw[ds,GN r,List.map_cons]
mutual
def size:Ty→Nat
 | .mk _ _ ks _ _ _=>1+Aq ks
def Aq:List Ty→Nat
 | []=>0
 |t::r=>t.size+Aq r
end
theorem size_pos:∀ t:Ty,0<t.size
 | .mk _ _ _ _ _ _=>by rw[size];omega
theorem size_eq:∀ t:Ty,t.size=1+Aq t.kids
 | .mk _ _ _ _ _ _=>rfl
theorem Dj:∀ {l:List Ty} {t:Ty},t∈l→t.size≤Aq l
 | x::l,t,h=>by
  rw[Aq];rcases ach.1 h with e|e
  · rw[e];omega
  · have:=Dj e;omega
theorem A8 {t k:Ty} (h:k∈t.kids):k.size<t.size:=by
 have:=Dj h;rw[size_eq t];omega
theorem DE:∀ t:Ty,t.d= .agg [.int .i64 t.kind,.sl (t.names.map D.str),.sl (t.kids.map d),.int .i64 t.len,.int .i64 t.prec,.int .i64 t.scale]
 | .mk k ns ks l p s=>by rw[d,GN];rfl
end Ty
namespace Va
def null:Va→Bool| .mk n _ _ _ _=>n
def i:Va→Int| .mk _ i _ _ _=>i
def n:Va→Int| .mk _ _ n _ _=>n
def b:Va→Tx| .mk _ _ _ b _=>b
def kids:Va→List Va| .mk _ _ _ _ k=>k
mutual
def d:Va→D
 | .mk nl i n b ks=> .agg [.bool nl,.int .i64 i,.int .i64 n,BA b,.sl (ds ks)]
def ds:List Va→List D
 | []=>[]
 |t::r=>t.d::ds r
end
theorem GN:∀ l,ds l=l.map d
 | []=>rfl
 |t::r=>by rw[ds,GN r,List.map_cons]
mutual
def size:Va→Nat
 | .mk _ _ _ _ ks=>1+Aq ks
def Aq:List Va→Nat
 | []=>0
 |t::r=>t.size+Aq r
end
theorem size_pos:∀ t:Va,0<t.size
 | .mk _ _ _ _ _=>by rw[size];omega
theorem size_eq:∀ t:Va,t.size=1+Aq t.kids
 | .mk _ _ _ _ _=>rfl
theorem Dj:∀ {l:List Va} {t:Va},t∈l→t.size≤Aq l
 | x::l,t,h=>by
  rw[Aq];rcases ach.1 h with e|e
  · rw[e];omega
  · have:=Dj e;omega
theorem A8 {t k:Va} (h:k∈t.kids):k.size<t.size:=by
 have:=Dj h;rw[size_eq t];omega
theorem DE:∀ t:Va,t.d= .agg [.bool t.null,.int .i64 t.i,.int .i64 t.n,BA t.b,.sl (t.kids.map d)]
 | .mk nl i n b ks=>by rw[d,GN];rfl
end Va
@[go_sem] theorem Au (t:Ty):t.d.cells=[.int .i64 t.kind,.sl (t.names.map D.str),.sl (t.kids.map Ty.d),.int .i64 t.len,.int .i64 t.prec,.int .i64 t.scale]:=by rw[t.DE];rfl
@[go_sem] theorem BQ (v:Va):v.d.cells=[.bool v.null,.int .i64 v.i,.int .i64 v.n,BA v.b,.sl (v.kids.map Va.d)]:=by rw[v.DE];rfl
@[go_sem] theorem X5 (t:Ty):D.agg [.int .i64 t.kind,.sl (t.names.map D.str),.sl (t.kids.map Ty.d),.int .i64 t.len,.int .i64 t.prec,.int .i64 t.scale]=t.d:=t.DE.symm
@[go_sem] theorem Qc (v:Va):D.agg [.bool v.null,.int .i64 v.i,.int .i64 v.n,BA v.b,.sl (v.kids.map Va.d)]=v.d:=v.DE.symm
@[go_sem] theorem fold_va_b (v:Va) (c:Bool) (h:v.null=c):D.agg [.bool c,.int .i64 v.i,.int .i64 v.n,BA v.b,.sl (v.kids.map Va.d)]=v.d:=by rw[← h];exact v.DE.symm
@[go_sem] theorem canon_ty (t:Ty):t.d.canon=t.d:=by rw[t.DE];rfl
@[go_sem] theorem canon_va (v:Va):v.d.canon=v.d:=by rw[v.DE];rfl
@[go_sem] theorem canA_ty (t:Ty):t.d.DF=t.d:=by rw[t.DE];rfl
@[go_sem] theorem canA_va (v:Va):v.d.DF=v.d:=by rw[v.DE];rfl
@[go_sem] theorem Zh (t:Ty):t.d.storable=true:=by rw[t.DE];rfl
@[go_sem] theorem Zg (v:Va):v.d.storable=true:=by rw[v.DE];rfl
@[go_sem] theorem asD_ty (t:Ty):V.asD (.d t.d)=some t.d:=by rw[t.DE];rfl
@[go_sem] theorem asD_va (v:Va):V.asD (.d v.d)=some v.d:=by rw[v.DE];rfl
@[go_sem high] theorem ld_ty (t:Ty):ldD (some 6) t.d 0=some t.d:=by rw[t.DE];rfl
@[go_sem high] theorem ld_va (v:Va):ldD (some 5) v.d 0=some v.d:=by rw[v.DE];rfl
@[go_sem] theorem fldV_ty (k off:Nat) (z:Option Nat) (t:Ty):X6 k off z (.d t.d)=(ldD z t.d off).map fun r=>[(.slot k,.d r)]:=by rw[t.DE];rfl
@[go_sem] theorem fldV_va (k off:Nat) (z:Option Nat) (v:Va):X6 k off z (.d v.d)=(ldD z v.d off).map fun r=>[(.slot k,.d r)]:=by rw[v.DE];rfl
@[go_sem] theorem fB (b:Tx):(BA b).AP=true:=rfl
def BH (k:Nat) (t:Ty):List (Cel×V):=[(⟨0,k,0⟩,.d (.int .i64 t.kind)),(⟨0,k,1⟩,.d (.sl (t.names.map D.str))),(⟨0,k,2⟩,.d (.sl (t.kids.map Ty.d))),(⟨0,k,3⟩,.d (.int .i64 t.len)),(⟨0,k,4⟩,.d (.int .i64 t.prec)),(⟨0,k,5⟩,.d (.int .i64 t.scale))]
def SJ (k:Nat) (v:Va):List (Cel×V):=[(⟨0,k,0⟩,.d (.bool v.null)),(⟨0,k,1⟩,.d (.int .i64 v.i)),(⟨0,k,2⟩,.d (.int .i64 v.n)),(⟨0,k,3⟩,.d (BA v.b)),(⟨0,k,4⟩,.d (.sl (v.kids.map Va.d)))]
def SI (k:Nat) (c:Bool) (v:Va):List (Cel×V):=[(⟨0,k,0⟩,.d (.bool c)),(⟨0,k,1⟩,.d (.int .i64 v.i)),(⟨0,k,2⟩,.d (.int .i64 v.n)),(⟨0,k,3⟩,.d (BA v.b)),(⟨0,k,4⟩,.d (.sl (v.kids.map Va.d)))]
end Go.Ev
namespace Go.Ev
open Go Go.RowKit
theorem uz:∀ {es:List D} {l:List Tx},jv es=some l→es=l.map D.str
 | [],l,h=>by cases h;rfl
 | e::es,l,h=>by
  unfold jv at h;split at h
  · rename_i he;cases he
  · rename_i b r he
    cases he;simp only[abz] at h;obtain⟨l',h2,rfl⟩:=h;rw[List.map_cons,← uz h2]
  · cases h
theorem oq:∀ l:List Tx,jv (l.map D.str)=some l
 | []=>rfl
 |x::l=>by rw[List.map_cons,jv,oq l];rfl
section
variable {F:Nat→Prop} {w:World}
theorem Rd.Wx {v:Value} {l:List Tx} (h:Rd F w v (.sl (l.map D.str))):(l=[]∧∃ ad cap,v= .slice ad 0 cap)∨(l≠[]∧∃ b o cap,v= .slice (some (ad3 b o)) l.length cap∧l.length≤cap∧b<w.heap.size∧∀ (j:Nat) x,l[j]? =some x→w.cell? (ad3 b (o+j))=some (.string ⟨x.toArray⟩)):=by
 generalize hd:l.map D.str=es at h;cases h with
 |slA ad cap=>exact .inl ⟨by simpa using hd,ad,cap,rfl⟩
 | sl b o len cap z es vs hlen Ad hz hc hm hr=>
  subst hd;rw[aby] at hlen;subst hlen;cases l with
  |nil=>exact .inl ⟨rfl,_,_,rfl⟩
  | cons y r=>
   have hz1:z=1:=(hz (.str y) abw).symm;subst hz1;have Ag:∀ (j:Nat) x,(y::r)[j]? =some x→w.cell? (ad3 b (o+j))=some (.string ⟨x.toArray⟩):=fun j x hj=>by
    have he:((y::r).map D.str)[j]? =some (.str x):=by rw[acf,hj];rfl
    have h1:=hm j _ he 0 (.str x) rfl;have h2:=hr j _ he 0 (.str x) rfl;have h3:vs j 0= .string ⟨x.toArray⟩:=h2.DB;rw[h3] at h1;simpa using h1.2
   refine .inr ⟨by simp,b,o,cap,rfl,Ad,?_,Ag⟩
   have:=World.block_lt_of_cell? _ _ (Ag 0 y rfl);simpa using this
end
variable {P:Program} {cfg:Cfg} {f:FuncId} {fn:Func} {c:Code} (hf:P.funcs[f]? =some fn) (hname:(fn.name=="runtime.NumGoroutine")=false) (hb:fn.body=some c)
include hf hname hb
theorem aqe (h0:∀ (a:Option Addr) (c:Nat) (w:World),Calls P f #[.slice a 0 c] w fun e w'=>e= .returned (.bool true)∧Below w.heap.size w w')
   (h:∀ (b o c:Nat) (l:List Tx) (w:World),l.length≤1000000→l.length≤c→b<w.heap.size→(∀ (j:Nat) x,l[j]? =some x→w.cell? ⟨b,o+j,none⟩=some (.string ⟨x.toArray⟩))→
     Calls P f #[.slice (some ⟨b,o,none⟩) l.length c] w fun e w'=>e= .returned (.bool (c8 [] l))∧Below w.heap.size w w'):DR P cfg f uu:=by
 refine uo hf hname hb fun ds r hr=> ?_
 unfold uu at hr;split at hr
 · rename_i es
   simp only[ab7] at hr;obtain⟨l,hl,hr⟩:=hr;split at hr
   · rename_i hn
     cases hr;refine⟨_,rfl,rfl,fun F args w h1 h2 h4=> ?_⟩
     obtain⟨v,rfl,hv⟩:=qt h1 h2;rw[uz hl] at hv;rcases hv.Wx with⟨rfl,ad,cap,rfl⟩|⟨Ai,b,o,cap,rfl,Ad,hblk,Ag⟩
     · exact(h0 ad cap w).mono fun e w' ⟨e1,e2⟩=>⟨_,e1,.bool _,e2⟩
     · exact(h b o cap l w hn Ad hblk Ag).mono fun e w' ⟨e1,e2⟩=>⟨_,e1,.bool _,e2⟩
   · cases hr
 · cases hr
end Go.Ev
namespace Go.Ev
open Go
structure AF where
 f:FuncId
 F:Func
 ad:AJ
def Qk (P:Program):List AF→FuncId→Option AN
 | [],_=>none
 |a::r,f=>if a.f=f then AQ P a.ad a.F else Qk P r f
def AOk (P:Program) (a:AF):Prop:=P.funcs[a.f]? =some a.F∧(a.F.name=="runtime.NumGoroutine")=false
def QP (P:Program) (l:List AF):Prop:=∀ a∈l,AOk P a
theorem QP.nil {P:Program}:QP P []:=fun _ h=>by cases h
theorem QP.cons {P:Program} {f:FuncId} {F:Func} {ad:AJ} {l:List AF} (h:P.funcs[f]? =some F) (hn:(F.name=="runtime.NumGoroutine")=false) (hl:QP P l):QP P (⟨f,F,ad⟩::l):=fun q hq=>by
 rcases ach.1 hq with rfl|hq
 · exact⟨h,hn⟩
 · exact hl q hq
theorem bak {P:Program}:∀ {l:List AF},QP P l→∀ {f:FuncId} {fn:AN},Qk P l f=some fn→∃ F ad c,P.funcs[f]? =some F∧(F.name=="runtime.NumGoroutine")=false∧F.body=some c∧AQ P ad F=some fn
 | [],_,_,_,h=>by cases h
 | a::l,hl,f,fn,h=>by
  unfold Qk at h;split at h
  · rename_i e
    obtain⟨h1,h2⟩:=hl a abw;subst e;cases hb:a.F.body with
    |none=>unfold AQ at h;rw[hb] at h;cases h
    |some c=>exact⟨a.F,a.ad,c,h1,h2,hb,h⟩
  · exact bak (fun q hq=>hl q (acn _ hq)) h
def U2 (P:Program) (tbl:List (FuncId×AN)) (tab:List AF) (f:FuncId):Option AN:=match lk tbl f with
 |some fn=>some fn
 |none=>Qk P tab f
def xSeq (g:FuncId):List D→Option V
 | [.sl es]=>some (.clo g [] [.d (.ptr (.sl es))])
 |_=>none
def Ej (g:FuncId):List D→Option V
 | [.sl es,.int .i64 n]=>if 1≤n then some (.clo g [] [.d (.ptr (.sl es)),.d (.ptr (.int .i64 n))]) else none
 |_=>none
def aggN (z:Nat):D→Bool
 | .agg ds=>ds.length==z
 |_=>false
def cw:Nat→Nat→List D→List (List D)
 |0,_,_=>[]
 |_,_,[]=>[]
 |k+1,n,x::r=>[.sl ((x::r).take n)]::cw k n ((x::r).drop n)
def Ba:Nat→List Ty→List Nat
 |_,[]=>[]
 |i,k::r=>i::Ba (i+k.size) r
mutual
def Bq (i:Nat) (parent deep:Int):Ty→List (Ty×List Nat×Int×Int)
 | .mk k ns ks l p s=>(.mk k ns ks l p s,Ba (i+1) ks,parent,deep)::bm (i+1) i (deep+1) ks
def bm (i parent:Nat) (deep:Int):List Ty→List (Ty×List Nat×Int×Int)
 | []=>[]
 |k::r=>Bq i parent deep k++bm (i+k.size) parent deep r
end
def Hd (f:D→Option Ty):List D→Option (List Ty)
 | []=>some []
 | d::r=>match f d,Hd f r with
  |some t,some l=>some (t::l)
  |_,_=>none
def Wu:Nat→D→Option Ty
 |0,_=>none
 | n+1,.agg [.int .i64 k,.sl nm,.sl kids,.int .i64 l,.int .i64 p,.int .i64 s]=>match jv nm,Hd (Wu n) kids with
  |some ns,some ks=>some (.mk k ns ks l p s)
  |_,_=>none
 |_,_=>none
end Go.Ev
namespace Go.Ev
open Go
abbrev HX:=List (FuncId×List D×V)
def akd:HX→FuncId→List D→Option V
 | [],_,_=>none
 | (g,ds,v)::r,f,xs=>if g=f then(if D.DT ds xs then some v else akd r f xs) else akd r f xs
def UX (tb:HX) (f:FuncId):Nat→List V→List (Cel×V)→Option V
 |0,vs,[]=>(B6 vs).bind (akd tb f)
 |_,_,_=>none
def Qg (cfg:Cfg) (tb:HX):Nat→Orc
 |0=>fun _ _ _ _=>none
 | n+1=>fun f dep vs m=>match UX tb f dep vs m with
  |some v=>some (v,[])
  | none=>match cfg.ext f with
   |some g=>((B6 vs).bind g).map fun v=>(v,m)
   | none=>match cfg.funcs f with
    |some fn=>DM cfg (Qg cfg tb n) n fn dep vs m
    |none=>none
def Dg (cfg:Cfg) (tb:HX):Prop:=∀ e∈tb,evL cfg e.1 0 (e.2.1.map .d) []=some (e.2.2,[])
theorem Dg.nil {cfg:Cfg}:Dg cfg []:=fun _ h=>by cases h
theorem Dg.cons {cfg:Cfg} {f:FuncId} {ds:List D} {v:V} {tb:HX} (h:evL cfg f 0 (ds.map .d) []=some (v,[])) (ht:Dg cfg tb):Dg cfg ((f,ds,v)::tb):=fun e he=>by
 rcases ach.1 he with rfl|he
 · exact h
 · exact ht e he
theorem o6:∀ {tb:HX} {f:FuncId} {xs:List D} {v:V},akd tb f xs=some v→(f,xs,v)∈tb
 | [],_,_,_,h=>by cases h
 | (g,ds,u)::r,f,xs,v,h=>by
  unfold akd at h;split at h
  · rename_i e
    split at h
    · rename_i e2
      cases h;rw[e,D.CG e2];exact List.mem_cons_self
    · exact acn _ (o6 h)
  · exact acn _ (o6 h)
theorem bam:∀ {vs:List V} {ds:List D},B6 vs=some ds→vs=ds.map .d
 | [],ds,h=>by cases h;rfl
 | .d x::r,ds,h=>by
  simp only[B6] at h;cases hr:B6 r with
  |none=>rw[hr] at h;cases h
  |some es=>rw[hr] at h;cases h;rw[bam hr];rfl
 | .own _ _ _::_,_,h=>by cases h
 | .bor _ _ _::_,_,h=>by cases h
 | .Am _ _ _::_,_,h=>by cases h
 | .Af _ _::_,_,h=>by cases h
 | .ref _ _ _::_,_,h=>by cases h
 | .clo _ _ _::_,_,h=>by cases h
 | .ifc _ _::_,_,h=>by cases h
 | .vec _::_,_,h=>by cases h
 | .BB _::_,_,h=>by cases h
 | .rcd _::_,_,h=>by cases h
 | .AM::_,_,h=>by cases h
theorem a92 {cfg:Cfg} {tb:HX} (ok:Dg cfg tb):∀ n,Le (Qg cfg tb n) (evL cfg)
 |0=>fun _ _ _ _ _ h=>by cases h
 | n+1=>fun f dep vs m r h=>by
  simp only[Qg] at h;split at h
  · rename_i v hm
    cases h;unfold UX at hm;split at hm
    · cases hd:B6 vs with
      |none=>rw[hd] at hm;cases hm
      | some ds=>
        rw[hd] at hm;rw[bam hd];exact ok _ (o6 hm)
    · cases hm
  · split at h
    · rename_i g hx
      rw[YC hx];exact h
    · rename_i hx
      split at h
      · rename_i fn hf
        rw[VB hx hf];have h2:=ti (a92 ok n) (ab5 n) h;unfold DM at h2;unfold evB;split at h2
        · rename_i hc
          rw[if_pos hc];split at h2
          · rename_i s h1
            rw[ae.2 ⟨n,h1⟩];exact h2
          · rename_i s h1
            rw[ae.2 ⟨n,h1⟩];exact h2
          · cases h2
        · cases h2
      · cases h
theorem aq1 {cfg:Cfg} {tb:HX} (ok:Dg cfg tb) {n:Nat} {f:FuncId} {d:Nat} {vs:List V} {m:List (Cel×V)} {r} (h:Qg cfg tb n f d vs m=some r):evL cfg f d vs m=some r:=a92 ok n _ _ _ _ _ h
end Go.Ev
namespace Go.Ev
open Go
abbrev bti (k a:Nat):AS:=oo k (.mv (.t a))
abbrev btp (k a:Nat):AS:=oo k (.asg (.t a))
abbrev btg (k a:Nat):AS:=oo k (.load none (.t a))
abbrev bs8 (k i a:Nat):AS:=oo k (.AV i (.t a))
abbrev btq (k a i:Nat):AS:=oo k (.ext (.t a) i)
abbrev bs6 (k:Nat) (o:BinOp) (a b:Nat):AS:=oo k (.bin o (.t a) (.t b))
abbrev bs5 (k:Nat) (o:BinOp) (a:Nat) (b:Int):AS:=oo k (.bin o (.t a) (ci b))
abbrev bs4 (k:Nat) (n:Int):AS:=oo k (.asg (ci n))
abbrev bta (k j:Nat) (b:Bool) (a:Nat):AS:=og k j b (.mv (.t a))
abbrev btn (k a b:Nat):AS:=oo k (.pick (.t a) (.c (.bool true)) (.t b))
abbrev btm (k a b:Nat):AS:=oo k (.pick (.t a) (.t b) (.c (.bool false)))
abbrev bs3 (k:Nat) (b:Bool):AS:=oo k (.asg (.c (.bool b)))
abbrev btl (k a:Nat):AS:=oo k (.un .not (.t a))
abbrev bth (k z a:Nat):AS:=oo k (.load (some z) (.t a))
abbrev btf (k:Nat) (b:Bool) (a:Nat):AS:=oo k (.len b (.t a))
abbrev btj (k a:Nat):AS:=oo k (.FC (.t a))
abbrev bto (n a b:Nat):AS:=ow (.store n (.t a) (.t b))
abbrev btd (k z a i:Nat):AS:=oo k (.Ch z (.t a) (.t i))
def bte:List (Nat×AA)→List (Nat×List Nat)
 | []=>[]
 | (i,.region _ _ k)::l=>(i,k)::bte l
 |_::l=>bte l
def zzz (n:Nat):List AA→List (Nat×List Nat)
 |[]=>[]
 |(.region _ _ k)::l=>(n,k)::zzz (n-1) l
 |_::l=>zzz (n-1) l
abbrev zzy (l:List (Nat×List Nat)):AJ:=⟨[],l,[],[],[],[]⟩
abbrev bs7 (k:Nat) (f:FuncId) (l:List AB):AS:=oo k (.call false f l)
theorem btc {r:AA} {o:List AS} {k:List Nat} (h:r= .region o [] k):∀ (X:Kx) (K:List Kf) (s:St),go X (.c r::K) s=goR X o k K s:=fun _ _ _=>h ▸ go_region _ _
theorem bs9 {r1 r2 r3 r4 r5 r6 r7 r8:AA} {o1 o2 o3 o4 o5 o6 o7 o8:List AS} {k1 k2 k3 k4 k5 k6 k7 k8:List Nat} (h1:r1= .region o1 [] k1) (h2:r2= .region o2 [] k2) (h3:r3= .region o3 [] k3) (h4:r4= .region o4 [] k4) (h5:r5= .region o5 [] k5) (h6:r6= .region o6 [] k6) (h7:r7= .region o7 [] k7) (h8:r8= .region o8 [] k8):(∀ (X:Kx) (K:List Kf) (s:St),go X (.c r1::K) s=goR X o1 k1 K s)∧(∀ (X:Kx) (K:List Kf) (s:St),go X (.c r2::K) s=goR X o2 k2 K s)∧(∀ (X:Kx) (K:List Kf) (s:St),go X (.c r3::K) s=goR X o3 k3 K s)∧(∀ (X:Kx) (K:List Kf) (s:St),go X (.c r4::K) s=goR X o4 k4 K s)∧(∀ (X:Kx) (K:List Kf) (s:St),go X (.c r5::K) s=goR X o5 k5 K s)∧(∀ (X:Kx) (K:List Kf) (s:St),go X (.c r6::K) s=goR X o6 k6 K s)∧(∀ (X:Kx) (K:List Kf) (s:St),go X (.c r7::K) s=goR X o7 k7 K s)∧(∀ (X:Kx) (K:List Kf) (s:St),go X (.c r8::K) s=goR X o8 k8 K s):=⟨btc h1,btc h2,btc h3,btc h4,btc h5,btc h6,btc h7,btc h8⟩
theorem btb {r c:AA} (h:r=c):∀ (X:Kx) (K:List Kf) (s:St),go X (.c r::K) s=go X (.c c::K) s:=fun _ _ _=>h ▸ rfl
end Go.Ev
namespace Go.Ev
attribute [go_sem_proc] Nat.reduceLeDiff Nat.reduceLT Nat.reduceAdd Int.reduceAdd Int.reduceSub Int.reduceNeg Nat.reduceEqDiff reduceCtorEq Int.reduceBEq Int.reduceBNe Nat.reduceBEq
attribute [go_sem_proc ↓] reduceIte
theorem abt {P:Prop} (h:P:=by first|omega| (simp only[go_sem,List.length_take,List.length_drop]<;>omega)|assumption|decide):P:=h
theorem abv {P:Prop} (h:P:=by kernel_rfl):P:=h
