import Derived.KernelRfl
import Derived.Test.YtkdiccgfbfbjlaaGreatL8
import Derived.Lib.BytesEntry
import Derived.Lib.MakeNoZero
import Derived.Laws.BytesArg
import Derived.Laws.Externs
import Derived.Lib.Join
import Derived.Sort.Grow
import Derived.Deep.Draws
namespace Go.Ev
open Go
variable {cfg:Cfg} {orc:Orc} {dep:Nat}
def s2bV (k:Nat) (own:Bool):V→Option (List (Loc×V))
 | .d (.str b)=>if b.length≤bh then some [(.slot k,if own then .own true 1 (b.map byteD) else .d (.sl (b.map byteD)))] else none
 |_=>none
@[go_sem] theorem U_s2b (s:Get) (k:Nat) (own:Bool) (x:IOpd):stepU cfg orc dep s ⟨some k,none,.s2b own x⟩=(val cfg s x).bind (s2bV k own):=by
 show evOp cfg dep s (some k) (.s2b own x)=_;simp only[evOp];cases val cfg s x with
 |none=>rfl
 | some v=>
  cases v with
  |d y=>cases y<;>rfl
  |_=>rfl
def cvStrV (k:Nat):V→Option (List (Loc×V))
 | .d (.str b)=>some [(.slot k,.d (.str b))]
 |_=>none
@[go_sem] theorem U_cvStr (s:Get) (k:Nat) (x:IOpd):stepU cfg orc dep s ⟨some k,none,.cvStr x⟩=(val cfg s x).bind (cvStrV k):=by
 show evOp cfg dep s (some k) (.cvStr x)=_;simp only[evOp];cases val cfg s x with
 |none=>rfl
 | some v=>
  cases v with
  |d y=>cases y<;>rfl
  |_=>rfl
@[go_sem] theorem cvStrV_s (k:Nat) (b:List UInt8):cvStrV k (.d (.str b))=some [(.slot k,.d (.str b))]:=rfl
def cvBV (k j:Nat) (own:Bool):V→Option (List (Loc×V))
 | .own _ z es=>some ((.slot k,if own then .own true z es else .d (.sl es))::[(.slot j,.junk)])
 |_=>none
@[go_sem] theorem U_cvB (s:Get) (k j:Nat) (own:Bool):stepU cfg orc dep s ⟨some k,none,.cvB own (.t j)⟩=(s (.slot j)).bind (cvBV k j own):=by
 show evOp cfg dep s (some k) (.cvB own (.t j))=_;simp only[evOp,val];cases s (.slot j) with
 |none=>rfl
 |some v=>cases v<;>rfl
@[go_sem] theorem cvBV_t (k j z:Nat) (nw:Bool) (es:List D):cvBV k j true (.own nw z es)=some [(.slot k,.own true z es),(.slot j,.junk)]:=rfl
@[go_sem] theorem cvBV_f (k j z:Nat) (nw:Bool) (es:List D):cvBV k j false (.own nw z es)=some [(.slot k,.d (.sl es)),(.slot j,.junk)]:=rfl
@[go_sem] theorem nlt0 (n:Nat):((n:Int)<0)=False:=by simp
@[go_sem] theorem nc0:((0:Nat):Int)=0:=rfl
@[go_sem] theorem nc1:((1:Nat):Int)=1:=rfl
end Go.Ev
namespace Go.Ev
open Go
variable {cfg:Cfg} {orc:Orc} {dep:Nat} {X:Kx} {K:List Kf}
@[go_sem] theorem isCell_int (k:IntKind) (n:Int):(D.int k n).isCell=true:=rfl
@[go_sem] theorem isCell_bool (b:Bool):(D.bool b).isCell=true:=rfl
@[go_sem] theorem isCell_str (b:List UInt8):(D.str b).isCell=true:=rfl
@[go_sem] theorem isCell_sl (es:List D):(D.sl es).isCell=true:=rfl
@[go_sem] theorem isCell_nilS:D.nilS.isCell=true:=rfl
@[go_sem] theorem isCell_nilP:D.nilP.isCell=true:=rfl
@[go_sem] theorem isCell_nilI:D.nilI.isCell=true:=rfl
@[go_sem] theorem isCell_nilF:D.nilF.isCell=true:=rfl
@[go_sem] theorem isCell_nilM:D.nilM.isCell=true:=rfl
@[go_sem] theorem isCell_ptr (e:D):(D.ptr e).isCell=true:=rfl
@[go_sem] theorem isCell_ifc (t:TypeId) (e:D):(D.ifc t e).isCell=true:=rfl
@[go_sem] theorem isCell_fn (f:FuncId):(D.fn f).isCell=true:=rfl
@[go_sem] theorem storable_agg (cs:List D):(D.agg cs).storable=true:=rfl
attribute [go_sem] xv
attribute [go_sem] uq
attribute [go_sem] xu
@[go_sem] theorem storable_sl (es:List D):(D.sl es).storable=true:=rfl
@[go_sem] theorem storable_nilS:D.nilS.storable=true:=rfl
@[go_sem] theorem storable_nilP:D.nilP.storable=true:=rfl
@[go_sem] theorem storable_nilI:D.nilI.storable=true:=rfl
@[go_sem] theorem storable_nilF:D.nilF.storable=true:=rfl
@[go_sem] theorem storable_ptr (e:D):(D.ptr e).storable=true:=rfl
@[go_sem] theorem storable_ifc (t:TypeId) (e:D):(D.ifc t e).storable=true:=rfl
@[go_sem] theorem storable_fn (f:FuncId):(D.fn f).storable=true:=rfl
@[go_sem] theorem plainV_d (x:D):V.plainV (.d x)=true:=rfl
@[go_sem] theorem plainV_ref (d k o:Nat):V.plainV (.ref d k o)=true:=rfl
@[go_sem] theorem plainV_iptr (e:D) (o:Nat):V.plainV (.iptr e o)=true:=rfl
@[go_sem] theorem plainV_clo (f:FuncId) (a b:List V):V.plainV (.clo f a b)=true:=rfl
@[go_sem] theorem plainV_ifc (t:TypeId) (v:V):V.plainV (.ifc t v)=true:=rfl
@[go_sem] theorem plainV_ow (nw:Bool) (z:Nat) (es:List D):V.plainV (.own nw z es)=false:=rfl
@[go_sem] theorem plainV_bor (l:Loc) (a b:Nat):V.plainV (.bor l a b)=false:=rfl
@[go_sem] theorem upTo_clo (n:Nat) (f:FuncId) (a b:List V):V.upTo n (.clo f a b)=(V.upTos n a&&V.upTos n b):=rfl
@[go_sem] theorem upTos_nil (n:Nat):V.upTos n []=true:=rfl
@[go_sem] theorem upTos_cons (n:Nat) (v:V) (r:List V):V.upTos n (v::r)=(v.upTo n&&V.upTos n r):=rfl
attribute [go_sem] upTo_own
attribute [go_sem] ne_eq not_false_eq_true db List.map_cons List.map_nil List.all_cons List.all_nil Option.isSome_some Option.isSome_none Option.isNone_some Option.isNone_none List.isEmpty_nil List.isEmpty_cons
@[go_sem] theorem bind_none {α β:Type} (f:α→Option β):(none:Option α).bind f=none:=rfl
@[go_sem] theorem evBox_d (s:Get) (k n:Nat) (y:D):evBox dep s k n (.d y)=if(s (.cell ⟨dep,k,0⟩)).isSome then none else if y.cells.length=n∧n≠0∧y.storable=true then some ((.slot k,.ref dep k 0)::db dep k 0 (y.cells.map .d)) else none:=rfl
@[go_sem] theorem evBox_clo (s:Get) (k:Nat) (f:FuncId) (a b:List V):evBox dep s k 1 (.clo f a b)=if(s (.cell ⟨dep,k,0⟩)).isSome then none else some [(.slot k,.ref dep k 0),(.cell ⟨dep,k,0⟩,.clo f a b)]:=rfl
@[go_sem] theorem evBox_ref (s:Get) (k d j o:Nat):evBox dep s k 1 (.ref d j o)=if(s (.cell ⟨dep,k,0⟩)).isSome then none else some [(.slot k,.ref dep k 0),(.cell ⟨dep,k,0⟩,.ref d j o)]:=rfl
@[go_sem] theorem evBox_iptr (s:Get) (k:Nat) (e:D) (o:Nat):evBox dep s k 1 (.iptr e o)=if(s (.cell ⟨dep,k,0⟩)).isSome then none else some [(.slot k,.ref dep k 0),(.cell ⟨dep,k,0⟩,.iptr e o)]:=rfl
@[go_sem] theorem evBox_ifc (s:Get) (k:Nat) (t:TypeId) (v:V):evBox dep s k 1 (.ifc t v)=if(s (.cell ⟨dep,k,0⟩)).isSome then none else some [(.slot k,.ref dep k 0),(.cell ⟨dep,k,0⟩,.ifc t v)]:=rfl
abbrev Gath:=Option (List D×List (Loc×V))
def gatQ (d k off:Nat) (g:Gath):Option V→Gath
 |some (.d x)=>g.bind fun p=>if x.isCell then some (x.can::p.1,p.2) else none
 |some (.iptr e 0)=>g.bind fun p=>some (.ptr e::p.1,p.2)
 |some (.own _ _ es)=>g.bind fun p=>some (.sl es::p.1,(.cell ⟨d,k,off⟩,.d (.sl es))::p.2)
 |_=>none
@[go_sem] theorem gather_z (s:Get) (d k off:Nat):cw s d k off 0=some ([],[]):=rfl
@[go_sem] theorem gather_s (s:Get) (d k off n:Nat):cw s d k off (n+1)=gatQ d k off (cw s d k (off+1) n) (s (.cell ⟨d,k,off⟩)):=by
 rw[cw];unfold gatQ;cases s (.cell ⟨d,k,off⟩) with
 |none=>rfl
 | some v=>
  cases v with
  |d x=>cases cw s d k (off+1) n<;>rfl
  | iptr e o=>cases o with
   |zero=>cases cw s d k (off+1) n<;>rfl
   |succ o=>rfl
  |own nw z es=>cases cw s d k (off+1) n<;>rfl
  |_=>rfl
@[go_sem] theorem gatQ_d (d k off:Nat) (g:Gath) (x:D):gatQ d k off g (some (.d x))=g.bind fun p=>if x.isCell then some (x.can::p.1,p.2) else none:=rfl
@[go_sem] theorem gatQ_own (d k off:Nat) (g:Gath) (nw:Bool) (z:Nat) (es:List D):gatQ d k off g (some (.own nw z es))=g.bind fun p=>some (.sl es::p.1,(.cell ⟨d,k,off⟩,.d (.sl es))::p.2):=rfl
@[go_sem] theorem gatQ_iptr (d k off:Nat) (g:Gath) (e:D):gatQ d k off g (some (.iptr e 0))=g.bind fun p=>some (.ptr e::p.1,p.2):=rfl
@[go_sem] theorem refQ_clo (dst:Option Nat) (d k off:Nat) (f:FuncId) (a b:List V):refQ dst d k off (some (.clo f a b))=some (put1 dst (.clo f a b)):=rfl
@[go_sem] theorem refQ_ifc (dst:Option Nat) (d k off:Nat) (t:TypeId) (v:V):refQ dst d k off (some (.ifc t v))=some (put1 dst (.ifc t v)):=rfl
@[go_sem] theorem alive_z (s:Get) (d k off:Nat):alive s d k off 0=true:=rfl
@[go_sem] theorem alive_s (s:Get) (d k off n:Nat):alive s d k off (n+1)=((s (.cell ⟨d,k,off⟩)).isSome&&alive s d k (off+1) n):=rfl
@[go_sem] theorem evStore_d (s:Get) (n d k off:Nat) (x:IOpd) (y:D):br s n (.ref d k off) x (.d y)=if alive s d k off n then if y.cells.length=n∧y.storable then some (db d k off (y.cells.map .d)) else none else none:=by
 cases x<;>rfl
@[go_sem] theorem evStore_own (s:Get) (d k off j:Nat) (nw:Bool) (z:Nat) (es:List D):br s 1 (.ref d k off) (.t j) (.own nw z es)=if alive s d k off 1 then some [(.cell ⟨d,k,off⟩,.own true z es),(.slot j,.junk)] else none:=rfl
def storB (c:Cel) (l:Loc) (o m:Nat):Option V→Option (List (Loc×V))
 |some (.own false z es)=>if o=0∧m=es.length then
  (if Loc.cell c=l then some [(l,.own true z es)] else some [(.cell c,.own true z es),(l,.junk)]) else none
 |_=>none
@[go_sem] theorem evStore_bor (s:Get) (d k off:Nat) (x:IOpd) (l:Loc) (o m:Nat):br s 1 (.ref d k off) x (.bor l o m)=if alive s d k off 1 then storB ⟨d,k,off⟩ l o m (s l) else none:=by
 unfold storB;cases x<;>(simp only[br,and_true];rfl)
@[go_sem] theorem storB_own (c:Cel) (l:Loc) (m z:Nat) (es:List D) (h:m=es.length):storB c l 0 m (some (.own false z es))=if Loc.cell c=l then some [(l,.own true z es)] else some [(.cell c,.own true z es),(l,.junk)]:=by
 simp[storB,h]
def storE (l:Loc) (n i off:Nat) (y:D):Option V→Option (List (Loc×V))
 |some (.own false z es)=>if y.cells.length=n∧y.storable then(es[i]?).bind fun e=>(e.setAt off y.cells).map fun e'=>[(l,.own false z (es.set i e'))] else none
 |_=>none
@[go_sem] theorem evStore_brefD (s:Get) (n:Nat) (l:Loc) (i off:Nat) (x:IOpd) (y:D):br s n (.bref l i off) x (.d y)=storE l n i off y.canon (s l):=by
 unfold storE;simp only[br,V.asD];cases s l with
 |none=>rfl
 | some v=>cases v with
  |own nw z es=>cases nw<;>rfl
  |_=>rfl
@[go_sem] theorem storE_own (l:Loc) (n i off:Nat) (y:D) (z:Nat) (es:List D):storE l n i off y (some (.own false z es))=if y.cells.length=n∧y.storable then(es[i]?).bind fun e=>(e.setAt off y.cells).map fun e'=>[(l,.own false z (es.set i e'))] else none:=rfl
@[go_sem] theorem U_buildR (s:Get) (k n:Nat) (ps:List (Nat×Nat×IOpd)):stepU cfg orc dep s ⟨some k,none,.buildR n ps⟩=(recOf cfg k s 0 ps).bind fun p=>if p.1.length=n∧n≠0 then some (p.2++[(.slot k,.rcd p.1)]) else none:=rfl
def recQ (cfg:Cfg) (k:Nat) (s:Get) (i:Nat) (r:List (Nat×Nat×IOpd)) (j:Nat):Option V→Option (List V×List (Loc×V))
 |some (.own _ z es)=>if j=k then none else(recOf cfg k (updG s [(.slot j,.junk)]) (i+1) r).map fun p=>(.own true z es::p.1,(.slot j,.junk)::p.2)
 |some (.d y)=>if y.isCell then(recOf cfg k s (i+1) r).map fun p=>(.d y.can::p.1,p.2) else none
 |_=>none
@[go_sem] theorem recOf_nil (s:Get) (k i:Nat):recOf cfg k s i []=some ([],[]):=rfl
@[go_sem] theorem recOf_c (s:Get) (k i o n:Nat) (y:D) (r:List (Nat×Nat×IOpd)):recOf cfg k s i ((o,n,.c y)::r)=if o=i∧n=1 then if y.isCell then(recOf cfg k s (i+1) r).map fun p=>(.d y.can::p.1,p.2) else none else none:=by
 rw[recOf];rfl
@[go_sem] theorem recQ_own (s:Get) (k i j:Nat) (r:List (Nat×Nat×IOpd)) (nw:Bool) (z:Nat) (es:List D):recQ cfg k s i r j (some (.own nw z es))=if j=k then none else(recOf cfg k (updG s [(.slot j,.junk)]) (i+1) r).map fun p=>(.own true z es::p.1,(.slot j,.junk)::p.2):=rfl
@[go_sem] theorem recQ_d (s:Get) (k i j:Nat) (r:List (Nat×Nat×IOpd)) (y:D):recQ cfg k s i r j (some (.d y))=if y.isCell then(recOf cfg k s (i+1) r).map fun p=>(.d y.can::p.1,p.2) else none:=rfl
@[go_sem] theorem evStore_rcd (s:Get) (n d k off j:Nat) (ys:List V):br s n (.ref d k off) (.t j) (.rcd ys)=if alive s d k off n then if n=ys.length∧n≠0 then(fp d k off ys).map fun u=>(.slot j,.junk)::u else none else none:=rfl
@[go_sem] theorem cellsR_nil (d k off:Nat):fp d k off []=some []:=rfl
@[go_sem] theorem cellsR_d (d k off:Nat) (y:D) (r:List V):fp d k off (.d y::r)=if y.isCell then(fp d k (off+1) r).map fun u=>(.cell ⟨d,k,off⟩,.d y)::u else none:=rfl
@[go_sem] theorem cellsR_own (d k off:Nat) (nw:Bool) (z:Nat) (es:List D) (r:List V):fp d k off (.own nw z es::r)=(fp d k (off+1) r).map fun u=>(.cell ⟨d,k,off⟩,.own true z es)::u:=rfl
@[go_sem] theorem home_rcd (ys:List V):V.home dep (.rcd ys)= .junk:=rfl
@[go_sem] theorem upTo_rcd (n:Nat) (ys:List V):V.upTo n (.rcd ys)=false:=rfl
@[go_sem] theorem behind_rcd (n:Nat) (ys:List V):behind n (some (.rcd ys))=[]:=rfl
@[go_sem] theorem unbor_rcd (ys:List V):V.unbor dep (.rcd ys)= .junk:=rfl
@[go_sem] theorem free_rcd (d k:Nat) (ys:List V):V.free d k (.rcd ys)= .junk:=rfl
def mkSV (k z bytes:Nat) (zd:D) (n m:Int):Option (List (Loc×V)):=if 0≤n∧n≤m∧m≤bh∧bytes≤2048∧zd.cells.length=z∧zd.storable then some [(.slot k,.own true z (List.replicate n.toNat zd))] else none
@[go_sem] theorem U_mkSV (s:Get) (k z bytes:Nat) (zd:D) (l c:IOpd):stepU cfg orc dep s ⟨some k,none,.mkS z bytes zd l c⟩=((dat cfg s l).bind D.toInt?).bind fun n=>((dat cfg s c).bind D.toInt?).bind fun m=>mkSV k z bytes zd n m:=by
 rw[U_mkS];cases(dat cfg s l).bind D.toInt? with
 |none=>rfl
 |some n=>cases(dat cfg s c).bind D.toInt? <;>rfl
@[go_sem] theorem mkSV_ok (k z bytes:Nat) (zd:D) (n m:Int) (h0:0≤n) (h1:n≤m) (h2:m≤1000000000):mkSV k z bytes zd n m=if bytes≤2048∧zd.cells.length=z∧zd.storable=true then some [(.slot k,.own true z (List.replicate n.toNat zd))] else none:=by
 have h3:=most_of (n:=m.toNat) yp;have h4:m≤(bh:Int):=by
   have:m.toNat≤bh:=by simpa using h3
   omega
 unfold mkSV;by_cases h:bytes≤2048∧zd.cells.length=z∧zd.storable=true
 · rw[if_pos h,if_pos ⟨h0,h1,h4,h⟩]
 · rw[if_neg h,if_neg fun q=>h q.2.2.2]
attribute [go_sem] List.replicate_zero Int.toNat_zero
def topQ (len:Nat):Option Int→Option Nat
 |some n=>if 0≤n∧n≤len then some n.toNat else none
 |none=>none
@[go_sem] theorem topQ_ok {len:Nat} {n:Int} (h0:0≤n) (h1:n≤len):topQ len (some n)=some n.toNat:=if_pos ⟨h0,h1⟩
@[go_sem] theorem evSlice_mx (s:Get) (dst:Option Nat) (z:Nat) (x:IOpd) (v:V) (lo:Option IOpd) (h m:IOpd):fl cfg s dst z x v lo (some h) (some m)=
  (cont s v).bind fun es=>(topQ es.length ((dat cfg s m).bind D.toInt?)).bind fun top=>(bc cfg s top lo (some h)).bind fun lh=>slcV s dst z x lh.1 lh.2 v:=by
 unfold fl slcV slcB;cases cont s v with
 |none=>rfl
 | some es=>
  simp only[topOf,Option.bind_some];cases(dat cfg s m).bind D.toInt? with
  |none=>rfl
  | some n=>
   simp only[topQ];by_cases hc:0≤n∧n≤(es.length:Int)
   · simp only[if_pos hc,Option.bind_some]
     cases bc cfg s n.toNat lo (some h) with
     |none=>rfl
     |some lh=>obtain⟨l,hh⟩:=lh;simp only[Option.isSome_some,Option.isNone_some,Bool.and_false,zf,if_false,Option.bind_some];rfl
   · simp only[if_neg hc];rfl
def cpyB (dst:Option Nat) (z:Nat) (l:Loc) (off n:Nat) (ys:List D):Option V→Option (List (Loc×V))
 |some (.own false z' es)=>if z'=z∧off+n≤es.length then some ((l,.own false z (es.take off++ys.take n++es.drop (off+min n ys.length)))::put1 dst (.d (.int .i64 (min n ys.length:Nat)))) else none
 |_=>none
@[go_sem] theorem evCopy_bor (s:Get) (dst:Option Nat) (z:Nat) (x:IOpd) (l:Loc) (off n:Nat) (ys:List D):mc s dst z x (.bor l off n) ys=if allZ z ys=true then cpyB dst z l off n ys (s l) else none:=by
 unfold mc cpyB;cases x<;>rfl
theorem cpyB_own (dst:Option Nat) (z:Nat) (l:Loc) (off n:Nat) (ys es:List D) (h:off+n≤es.length):cpyB dst z l off n ys (some (.own false z es))=some ((l,.own false z (es.take off++ys.take n++es.drop (off+min n ys.length)))::put1 dst (.d (.int .i64 (min n ys.length:Nat)))):=if_pos ⟨rfl,h⟩
theorem qw (dst:Option Nat) (l:Loc) (off n:Nat) (a ys:List D) (k:Nat) (d:D) (ho:off=a.length) (hn:n=k) (hy:ys.length≤k):cpyB dst 1 l off n ys (some (.own false 1 (a++List.replicate k d)))=
  some ((l,.own false 1 (a++ys++List.replicate (k-ys.length) d))::put1 dst (.d (.int .i64 (ys.length:Nat)))):=by
 subst ho hn;rw[cpyB_own _ _ _ _ _ _ _ yt];have e:min n ys.length=ys.length:=yp;rw[e,List.take_left,aaz hy,List.drop_append];simp
@[go_sem] theorem evNil_ref (dst:Option Nat) (d k o:Nat):evNil dst (.ref d k o)=some (put1 dst (.ref d k o)):=rfl
@[go_sem] theorem evNil_bref (dst:Option Nat) (l:Loc) (i o:Nat):evNil dst (.bref l i o)=some (put1 dst (.bref l i o)):=rfl
@[go_sem] theorem evNil_iptr (dst:Option Nat) (e:D) (o:Nat):evNil dst (.iptr e o)=some (put1 dst (.iptr e o)):=rfl
@[go_sem] theorem evNil_ptr (dst:Option Nat) (e:D):evNil dst (.d (.ptr e))=some (put1 dst (.d (.ptr e))):=rfl
@[go_sem] theorem evNil_fn (dst:Option Nat) (f:FuncId):evNil dst (.d (.fn f))=some (put1 dst (.d (.fn f))):=rfl
@[go_sem] theorem evNil_clo (dst:Option Nat) (f:FuncId) (a b:List V):evNil dst (.clo f a b)=some (put1 dst (.clo f a b)):=rfl
@[go_sem] theorem evNil_vref (dst:Option Nat) (y:V):evNil dst (.vref y)=some (put1 dst (.vref y)):=rfl
@[go_sem] theorem evIdx_vec0 (s:Get) (dst:Option Nat) (x:IOpd) (y:V) (r:List V):evIdx s dst 1 x (.vec (y::r)) 0=some (put1 dst (.vref y)):=by
 cases x<;>rfl
@[go_sem] theorem evIdx_vec1 (s:Get) (dst:Option Nat) (x:IOpd) (a y:V) (r:List V):evIdx s dst 1 x (.vec (a::y::r)) 1=some (put1 dst (.vref y)):=by
 cases x<;>rfl
@[go_sem] theorem evIdx_vec2 (s:Get) (dst:Option Nat) (x:IOpd) (a b y:V) (r:List V):evIdx s dst 1 x (.vec (a::b::y::r)) 2=some (put1 dst (.vref y)):=by
 cases x<;>rfl
@[go_sem] theorem evIdx_vec3 (s:Get) (dst:Option Nat) (x:IOpd) (a b c y:V) (r:List V):evIdx s dst 1 x (.vec (a::b::c::y::r)) 3=some (put1 dst (.vref y)):=by
 cases x<;>rfl
@[go_sem] theorem evIdx_vec4 (s:Get) (dst:Option Nat) (x:IOpd) (a b c d y:V) (r:List V):evIdx s dst 1 x (.vec (a::b::c::d::y::r)) 4=some (put1 dst (.vref y)):=by
 cases x<;>rfl
@[go_sem] theorem evIdx_sl0 (s:Get) (dst:Option Nat) (z:Nat) (x:IOpd) (e:D) (r:List D):evIdx s dst z x (.d (.sl (e::r))) 0=if e.cells.length=z then some (put1 dst (.iptr e 0)) else none:=by
 cases x<;>rfl
@[go_sem] theorem evIdx_sl1 (s:Get) (dst:Option Nat) (z:Nat) (x:IOpd) (d e:D) (r:List D):evIdx s dst z x (.d (.sl (d::e::r))) 1=if e.cells.length=z then some (put1 dst (.iptr e 0)) else none:=by
 cases x<;>rfl
@[go_sem] theorem evIdx_slZ (s:Get) (dst:Option Nat) (z:Nat) (x:IOpd) (es:List D):evIdx s dst z x (.d (.sl es)) 0=(es[0]?).bind fun e=>if e.cells.length=z then some (put1 dst (.iptr e 0)) else none:=by
 cases es<;>cases x<;>rfl
def mkFV (k:Nat) (f:FuncId):List V→List V→Option (List (Loc×V))
 | [],[]=>some [(.slot k,.d (.fn f))]
 |xs,ys=>if xs.all V.plainV&&ys.all V.plainV then some [(.slot k,.clo f xs ys)] else none
@[go_sem] theorem U_mkF (s:Get) (k:Nat) (f:FuncId) (a b:List IOpd):stepU cfg orc dep s ⟨some k,none,.mkF f a b⟩=(vals cfg s a).bind fun xs=>(vals cfg s b).bind fun ys=>mkFV k f xs ys:=by
 show evOp cfg dep s (some k) (.mkF f a b)=_;simp only[evOp];cases vals cfg s a with
 |none=>rfl
 | some xs=>
  cases vals cfg s b with
  |none=>cases xs<;>rfl
  |some ys=>cases xs<;>cases ys<;>rfl
@[go_sem] theorem mkFV_0 (k:Nat) (f:FuncId):mkFV k f [] []=some [(.slot k,.d (.fn f))]:=rfl
@[go_sem] theorem mkFV_b (k:Nat) (f:FuncId) (xs:List V) (y:V) (ys:List V):mkFV k f xs (y::ys)=if xs.all V.plainV&&(y::ys).all V.plainV then some [(.slot k,.clo f xs (y::ys))] else none:=by
 cases xs<;>rfl
@[go_sem] theorem mkFV_a (k:Nat) (f:FuncId) (x:V) (xs ys:List V):mkFV k f (x::xs) ys=if(x::xs).all V.plainV&&ys.all V.plainV then some [(.slot k,.clo f (x::xs) ys)] else none:=by
 cases ys<;>rfl
def tgtV (own:Bool) (vs:List V):V→Option (Bool×FuncId×List V)
 | .d (.fn f)=>some (own,f,vs)
 | .clo f a b=>if a.all V.plainV&&b.all V.plainV then some (own,f,a++vs++b) else none
 |_=>none
def tgtI (cfg:Cfg) (own:Bool) (name:String) (vs:List V):V→Option (Bool×FuncId×List V)
 | .d (.ifc t d)=>(cfg.meth t name).map fun f=>(own,f,.d d::vs)
 | .ifc t v=>if v.plainV then(cfg.meth t name).map fun f=>(own,f,v::vs) else none
 |_=>none
@[go_sem] theorem tgtV_fn (own:Bool) (vs:List V) (f:FuncId):tgtV own vs (.d (.fn f))=some (own,f,vs):=rfl
@[go_sem] theorem tgtV_clo (own:Bool) (vs:List V) (f:FuncId) (a b:List V):tgtV own vs (.clo f a b)=if a.all V.plainV&&b.all V.plainV then some (own,f,a++vs++b) else none:=rfl
@[go_sem] theorem tgtI_d (own:Bool) (name:String) (vs:List V) (t:TypeId) (d:D):tgtI cfg own name vs (.d (.ifc t d))=(cfg.meth t name).map fun f=>(own,f,.d d::vs):=rfl
@[go_sem] theorem tgtI_v (own:Bool) (name:String) (vs:List V) (t:TypeId) (v:V):tgtI cfg own name vs (.ifc t v)=if v.plainV then(cfg.meth t name).map fun f=>(own,f,v::vs) else none:=rfl
theorem aj6 (s:Get) (own:Bool) (x:IOpd) (args:List IOpd):target cfg s (.callv own x args)=(val cfg s x).bind fun v=>(vals cfg s args).bind fun vs=>tgtV own vs v:=by
 simp only[target];cases val cfg s x with
 |none=>rfl
 | some v=>
  cases vals cfg s args with
  | none=>cases v with
   |d y=>cases y<;>rfl
   |_=>rfl
  | some vs=>cases v with
   |d y=>cases y<;>rfl
   |_=>rfl
theorem aj7 (s:Get) (own:Bool) (x:IOpd) (name:String) (args:List IOpd):target cfg s (.inv own x name args)=(val cfg s x).bind fun v=>(vals cfg s args).bind fun vs=>tgtI cfg own name vs v:=by
 simp only[target];cases val cfg s x with
 |none=>rfl
 | some v=>
  cases vals cfg s args with
  | none=>cases v with
   |d y=>cases y<;>rfl
   |_=>rfl
  | some vs=>cases v with
   |d y=>cases y<;>rfl
   |_=>rfl
@[go_sem] theorem U_callv (s:Get) (k:Nat) (own:Bool) (x:IOpd) (args:List IOpd):stepU cfg orc dep s ⟨some k,none,.callv own x args⟩=(val cfg s x).bind fun v=>(vals cfg s args).bind fun vs=>(tgtV own vs v).bind fun t=>callU orc s (some k) t.1 t.2.1 t.2.2:=by
 unfold stepU;simp only[guardOk,Option.isNone_some,Bool.false_and,zf,if_false,isCallOp,if_true,clipArg,aj6];cases val cfg s x with
 |none=>rfl
 | some v=>simp only[Option.bind_some];cases vals cfg s args with
  |none=>rfl
  | some vs=>simp only[Option.bind_some];cases tgtV own vs v with
   |none=>rfl
   |some t=>simp only[callR,Option.bind_some];cases callU orc s (some k) t.1 t.2.1 t.2.2<;>rfl
@[go_sem] theorem U_inv (s:Get) (k:Nat) (own:Bool) (x:IOpd) (name:String) (args:List IOpd):stepU cfg orc dep s ⟨some k,none,.inv own x name args⟩=(val cfg s x).bind fun v=>(vals cfg s args).bind fun vs=>(tgtI cfg own name vs v).bind fun t=>callU orc s (some k) t.1 t.2.1 t.2.2:=by
 unfold stepU;simp only[guardOk,Option.isNone_some,Bool.false_and,zf,if_false,isCallOp,if_true,clipArg,aj7];cases val cfg s x with
 |none=>rfl
 | some v=>simp only[Option.bind_some];cases vals cfg s args with
  |none=>rfl
  | some vs=>simp only[Option.bind_some];cases tgtI cfg own name vs v with
   |none=>rfl
   |some t=>simp only[callR,Option.bind_some];cases callU orc s (some k) t.1 t.2.1 t.2.2<;>rfl
@[go_sem] theorem argD_ref (s:Get) (d k o:Nat):argD s (.ref d k o)=none:=rfl
@[go_sem] theorem argD_clo (s:Get) (f:FuncId) (a b:List V):argD s (.clo f a b)=none:=rfl
@[go_sem] theorem argD_ifc (s:Get) (t:TypeId) (v:V):argD s (.ifc t v)=none:=rfl
noncomputable def goM (X:Kx) (r:List IOper) (keep:List Nat) (K:List Kf):Option St→Ans
 |some s'=>goR X r keep K s'
 |none=>none
@[go_sem] theorem goC_none (o:IOper) (r:List IOper) (keep:List Nat) (s:St):goC X o r keep K s none=goM X r keep K (stepM X.cfg (evL X.cfg) X.dep s o):=rfl
@[go_sem] theorem goM_some (r:List IOper) (keep:List Nat) (s:St):goM X r keep K (some s)=goR X r keep K s:=rfl
theorem M_call (s:St) (k:Nat) (own:Bool) (f:FuncId) (args:List IOpd) (hc:cfg.clip f=false):stepM cfg orc dep s ⟨some k,none,.call own f args⟩=(vals cfg s.get args).bind fun vs=>callM orc dep s (some k) own f vs:=by
 unfold stepM;simp only[guardOk,isCallOp,oa hc,target];cases vals cfg s.get args<;>rfl
@[go_sem] theorem M_callv (s:St) (k:Nat) (own:Bool) (x:IOpd) (args:List IOpd):stepM cfg orc dep s ⟨some k,none,.callv own x args⟩=(val cfg s.get x).bind fun v=>(vals cfg s.get args).bind fun vs=>(tgtV own vs v).bind fun t=>callM orc dep s (some k) t.1 t.2.1 t.2.2:=by
 unfold stepM;simp only[guardOk,isCallOp,clipArg,aj6];cases val cfg s.get x with
 |none=>rfl
 | some v=>simp only[Option.bind_some];cases vals cfg s.get args with
  |none=>rfl
  |some vs=>simp only[Option.bind_some];cases tgtV own vs v<;>rfl
@[go_sem] theorem M_inv (s:St) (k:Nat) (own:Bool) (x:IOpd) (name:String) (args:List IOpd):stepM cfg orc dep s ⟨some k,none,.inv own x name args⟩=(val cfg s.get x).bind fun v=>(vals cfg s.get args).bind fun vs=>(tgtI cfg own name vs v).bind fun t=>callM orc dep s (some k) t.1 t.2.1 t.2.2:=by
 unfold stepM;simp only[guardOk,isCallOp,clipArg,aj7];cases val cfg s.get x with
 |none=>rfl
 | some v=>simp only[Option.bind_some];cases vals cfg s.get args with
  |none=>rfl
  |some vs=>simp only[Option.bind_some];cases tgtI cfg own name vs v<;>rfl
def plusM (dep:Nat) (s:St) (dst:Option Nat) (r:V) (m:List (Cel×V)):Option (List (Loc×V))→Option St
 |some u=>some (St.upd ⟨dropBor dep s.env,m⟩ u)
 |none=>if r.upTo (dep+1)&&r.plainV then some (St.upd ⟨dropBor dep s.env,m⟩ (put1 dst r)) else none
def a4z (dep:Nat) (s:St) (dst:Option Nat) (own:Bool):Ans→Option St
 |some (r,m)=>if(cutMem dep m).all (fun p=>p.2.upTo (dep+1)) then plusM dep s dst r (cutMem dep m) (landed dst own false r) else none
 |none=>none
@[go_sem] theorem callM_def (s:St) (dst:Option Nat) (own:Bool) (f:FuncId) (vs:List V):callM orc dep s dst own f vs=if((argsD s.get vs).isNone&&vs.all V.plainV)=true then a4z dep s dst own (orc f (dep+1) vs s.mem) else none:=by
 unfold callM a4z plusM;split
 · cases orc f (dep+1) vs s.mem with
   |none=>rfl
   | some p=>
    obtain⟨r,m⟩:=p;simp only;split
    · cases landed dst own false r<;>rfl
    · rfl
 · rfl
@[go_sem] theorem callMQ_some (s:St) (dst:Option Nat) (own:Bool) (r:V) (m:List (Cel×V)):a4z dep s dst own (some (r,m))=if(cutMem dep m).all (fun p=>p.2.upTo (dep+1)) then plusM dep s dst r (cutMem dep m) (landed dst own false r) else none:=rfl
@[go_sem] theorem plusM_some (e:List (Nat×V)) (m0:List (Cel×V)) (dst:Option Nat) (r:V) (m:List (Cel×V)) (u:List (Loc×V)):plusM dep ⟨e,m0⟩ dst r m (some u)=some (St.upd ⟨dropBor dep e,m⟩ u):=rfl
@[go_sem] theorem plusM_none (e:List (Nat×V)) (m0:List (Cel×V)) (dst:Option Nat) (r:V) (m:List (Cel×V)):plusM dep ⟨e,m0⟩ dst r m none=if r.upTo (dep+1)&&r.plainV then some (St.upd ⟨dropBor dep e,m⟩ (put1 dst r)) else none:=rfl
@[go_sem] theorem landed_ref (dst:Option Nat) (own sh:Bool) (d k o:Nat):landed dst own sh (.ref d k o)=none:=rfl
@[go_sem] theorem landed_ifc (dst:Option Nat) (own sh:Bool) (t:TypeId) (v:V):landed dst own sh (.ifc t v)=none:=rfl
@[go_sem] theorem landed_clo (dst:Option Nat) (own sh:Bool) (f:FuncId) (a b:List V):landed dst own sh (.clo f a b)=none:=rfl
@[go_sem] theorem cutMem_nil:cutMem dep []=[]:=rfl
@[go_sem] theorem cutMem_cons (d k o:Nat) (v:V) (r:List (Cel×V)):cutMem dep ((⟨d,k,o⟩,v)::r)=if d≤dep then(⟨d,k,o⟩,v)::cutMem dep r else cutMem dep r:=rfl
@[go_sem] theorem dropBor_nil:dropBor dep []=[]:=rfl
@[go_sem] theorem dropBor_cons (k:Nat) (v:V) (r:List (Nat×V)):dropBor dep ((k,v)::r)=(k,v.unbor dep)::dropBor dep r:=rfl
@[go_sem] theorem unbor_d (x:D):V.unbor dep (.d x)= .d x:=rfl
@[go_sem] theorem unbor_own (nw:Bool) (z:Nat) (es:List D):V.unbor dep (.own nw z es)= .own nw z es:=rfl
@[go_sem] theorem unbor_iptr (e:D) (o:Nat):V.unbor dep (.iptr e o)= .iptr e o:=rfl
@[go_sem] theorem unbor_junk:V.unbor dep .junk= .junk:=rfl
@[go_sem] theorem unbor_borS (k a b:Nat):V.unbor dep (.bor (.slot k) a b)= .bor (.slot k) a b:=rfl
@[go_sem] theorem unbor_brefS (k a b:Nat):V.unbor dep (.bref (.slot k) a b)= .bref (.slot k) a b:=rfl
@[go_sem] theorem unbor_borC (c:Cel) (a b:Nat):V.unbor dep (.bor (.cell c) a b)= .junk:=rfl
@[go_sem] theorem unbor_brefC (c:Cel) (a b:Nat):V.unbor dep (.bref (.cell c) a b)= .junk:=rfl
@[go_sem] theorem unbor_ref (d k o:Nat):V.unbor dep (.ref d k o)=if decide (d<dep+1)=true then .ref d k o else .junk:=rfl
@[go_sem] theorem unbor_vec (ys:List V):V.unbor dep (.vec ys)=if V.upTos (dep+1) ys=true then .vec ys else .junk:=rfl
@[go_sem] theorem unbor_vref (y:V):V.unbor dep (.vref y)=if V.upTo (dep+1) y=true then .vref y else .junk:=rfl
@[go_sem] theorem unbor_clo (f:FuncId) (a b:List V):V.unbor dep (.clo f a b)=if(V.upTos (dep+1) a&&V.upTos (dep+1) b)=true then .clo f a b else .junk:=rfl
@[go_sem] theorem unbor_ifc (t:TypeId) (v:V):V.unbor dep (.ifc t v)=if V.upTo (dep+1) v=true then .ifc t v else .junk:=rfl
@[go_sem] theorem leaveM_nil:leaveM dep []=[]:=rfl
@[go_sem] theorem leaveM_cons (d k o:Nat) (v:V) (r:List (Cel×V)):leaveM dep ((⟨d,k,o⟩,v)::r)=if d<dep then(⟨d,k,o⟩,v.homeN dep)::leaveM dep r else leaveM dep r:=rfl
@[go_sem] theorem homeN_d (n:Nat) (x:D):V.homeN n (.d x)= .d x:=rfl
@[go_sem] theorem homeN_own (n:Nat) (nw:Bool) (z:Nat) (es:List D):V.homeN n (.own nw z es)= .own false z es:=rfl
@[go_sem] theorem homeN_ref (n d k o:Nat):V.homeN n (.ref d k o)=if decide (d<n)=true then .ref d k o else .junk:=rfl
@[go_sem] theorem homeN_vec (n:Nat) (ys:List V):V.homeN n (.vec ys)=if V.upTos n ys=true then .vec ys else .junk:=rfl
@[go_sem] theorem homeN_vref (n:Nat) (y:V):V.homeN n (.vref y)=if V.upTo n y=true then .vref y else .junk:=rfl
@[go_sem] theorem homeN_clo (n:Nat) (f:FuncId) (a b:List V):V.homeN n (.clo f a b)=if(V.upTos n a&&V.upTos n b)=true then .clo f a b else .junk:=rfl
def gatR (g:Option (List D)):Option D→Option (List D)
 |some x=>g.bind fun r=>if x.isCell then some (x::r) else none
 |none=>none
@[go_sem] theorem gatherR_z (s:Get) (d k off:Nat):gatherR s d k off 0=some []:=rfl
@[go_sem] theorem gatherR_s (s:Get) (d k off n:Nat):gatherR s d k off (n+1)=gatR (gatherR s d k (off+1) n) ((s (.cell ⟨d,k,off⟩)).bind resCell):=by
 rw[gatherR];unfold gatR;cases(s (.cell ⟨d,k,off⟩)).bind resCell with
 |none=>rfl
 |some x=>cases gatherR s d k (off+1) n<;>rfl
@[go_sem] theorem gatR_some (g:Option (List D)) (x:D):gatR g (some x)=g.bind fun r=>if x.isCell then some (x::r) else none:=rfl
def cellV:Option V→Option V
 |some (.own _ z es)=>some (.own false z es)
 |some v=>if v.plainV then some v else none
 |none=>none
def resC (dep:Nat) (s:Get) (z:Option Nat):Option V→Option V
 |some (.ref d j off)=>if dep≤d then match z with
   |none=>cellV (s (.cell ⟨d,j,off⟩))
   |some n=>(gatherR s d j off n).map fun cs=> .d (.agg cs)
  else none
 |_=>none
@[go_sem] theorem resV_cell (s:Get) (k:Nat) (z:Option Nat):resV dep s (.cell k z)=resC dep s z (s (.slot k)):=by
 simp only[resV,resC,cellV];cases s (.slot k) with
 |none=>rfl
 | some v=>
  cases v<;>first|rfl| (simp only;split<;>first|rfl| (cases z<;>first|rfl| (rename_i d j off _;cases s (.cell ⟨d,j,off⟩)<;>rfl)))
@[go_sem] theorem resC_N (s:Get) (n d j off:Nat):resC dep s (some n) (some (.ref d j off))=if dep≤d then(gatherR s d j off n).map fun cs=> .d (.agg cs) else none:=rfl
@[go_sem] theorem resC_1 (s:Get) (d j off:Nat):resC dep s none (some (.ref d j off))=if dep≤d then cellV (s (.cell ⟨d,j,off⟩)) else none:=rfl
@[go_sem] theorem cellV_own (nw:Bool) (z:Nat) (es:List D):cellV (some (.own nw z es))=some (.own false z es):=rfl
@[go_sem] theorem cellV_d (y:D):cellV (some (.d y))=some (.d y):=rfl
@[go_sem] theorem cellV_iptr (e:D) (o:Nat):cellV (some (.iptr e o))=some (.iptr e o):=rfl
@[go_sem] theorem cellV_ref (d j o:Nat):cellV (some (.ref d j o))=some (.ref d j o):=rfl
@[go_sem] theorem U_idxC (s:Get) (k n z:Nat) (g:Bool) (x i:IOpd):stepU cfg orc dep s ⟨some k,none,.idxC n z g x i⟩=match val cfg s x,(dat cfg s i).bind D.toInt? with
 |some (.d (.agg cs)),some j=>if 0≤j∧j<n then(ldD (if g then some z else none) (.agg cs) (j.toNat*z)).map fun r=>[(.slot k,.d r)] else none
 |_,_=>none:=rfl
@[go_sem] theorem evTass_nil (k:Nat) (t:TypeId) (zero:D):ael (some k) t zero true (.d .nilI)=some [(.slot k,.d (.tup [zero,.bool false]))]:=rfl
attribute [go_sem] Bool.not_true aa0 Bool.true_and Bool.false_and Bool.and_true Bool.and_false Bool.true_or Bool.false_or Bool.or_true Bool.or_false true_and and_true and_self Nat.zero_lt_succ Nat.lt_add_one Option.some.injEq Loc.slot.injEq beq_self_eq_true List.length_cons List.length_nil decide_true decide_false Bool.and_self bne_self_eq_false zf
attribute [go_sem] Cel.mk.injEq Loc.cell.injEq false_and and_false Nat.zero_add aa1 List.drop_zero Nat.sub_zero wrap_i64 oe yz zo
def V.dem:V→V
 | .own _ _ es=> .d (.sl es)
 |v=>v
@[go_sem] theorem dem_nil (e:List (Nat×V)):List.foldl (fun e k=>demoteE k e) e []=e:=rfl
@[go_sem] theorem dem_cons (e:List (Nat×V)) (k:Nat) (r:List Nat):List.foldl (fun e k=>demoteE k e) e (k::r)=List.foldl (fun e k=>demoteE k e) (demoteE k e) r:=rfl
@[go_sem] theorem demoteE_nil (k:Nat):demoteE k []=[]:=rfl
@[go_sem] theorem demoteE_cons (k k':Nat) (v:V) (r:List (Nat×V)):demoteE k ((k',v)::r)=if k'=k then(k',v.dem)::r else(k',v)::demoteE k r:=by
 cases v<;>rfl
@[go_sem] theorem dem_own (nw:Bool) (z:Nat) (es:List D):V.dem (.own nw z es)= .d (.sl es):=rfl
@[go_sem] theorem dem_d (x:D):V.dem (.d x)= .d x:=rfl
@[go_sem] theorem dem_ref (d k o:Nat):V.dem (.ref d k o)= .ref d k o:=rfl
@[go_sem] theorem dem_junk:V.dem .junk= .junk:=rfl
@[go_sem] theorem freeE_nil (d k:Nat):freeE d k []=[]:=rfl
@[go_sem] theorem freeE_cons (d k j:Nat) (v:V) (r:List (Nat×V)):freeE d k ((j,v)::r)=(j,v.free d k)::freeE d k r:=rfl
@[go_sem] theorem freeM_nil (d k:Nat):freeM d k []=[]:=rfl
@[go_sem] theorem freeM_cons (d k d' k' o:Nat) (v:V) (r:List (Cel×V)):freeM d k ((⟨d',k',o⟩,v)::r)=if d'=d∧k'=k then freeM d k r else(⟨d',k',o⟩,v.free d k)::freeM d k r:=rfl
@[go_sem] theorem free_d (d k:Nat) (x:D):V.free d k (.d x)= .d x:=rfl
@[go_sem] theorem free_own (d k:Nat) (nw:Bool) (z:Nat) (es:List D):V.free d k (.own nw z es)= .own nw z es:=rfl
@[go_sem] theorem free_ref (d k d' k' o:Nat):V.free d k (.ref d' k' o)=if d'=d∧k'=k then .junk else .ref d' k' o:=rfl
@[go_sem] theorem free_iptr (d k:Nat) (e:D) (o:Nat):V.free d k (.iptr e o)= .iptr e o:=rfl
@[go_sem] theorem free_junk (d k:Nat):V.free d k .junk= .junk:=rfl
@[go_sem] theorem free_bor (d k:Nat) (l:Loc) (a b:Nat):V.free d k (.bor l a b)= .bor l a b:=rfl
@[go_sem] theorem free_bref (d k:Nat) (l:Loc) (a b:Nat):V.free d k (.bref l a b)= .bref l a b:=rfl
@[go_sem] theorem free_vec (d k:Nat) (ys:List V):V.free d k (.vec ys)=if V.aparts d k ys=true then .vec ys else .junk:=rfl
@[go_sem] theorem free_vref (d k:Nat) (y:V):V.free d k (.vref y)=if y.apart d k=true then .vref y else .junk:=rfl
@[go_sem] theorem free_clo (d k:Nat) (f:FuncId) (a b:List V):V.free d k (.clo f a b)=if(V.aparts d k a&&V.aparts d k b)=true then .clo f a b else .junk:=rfl
@[go_sem] theorem free_ifc (d k:Nat) (t:TypeId) (v:V):V.free d k (.ifc t v)=if v.apart d k=true then .ifc t v else .junk:=rfl
@[go_sem] theorem aparts_nil (d k:Nat):V.aparts d k []=true:=rfl
@[go_sem] theorem aparts_cons (d k:Nat) (v:V) (r:List V):V.aparts d k (v::r)=(v.apart d k&&V.aparts d k r):=rfl
@[go_sem] theorem apart_ref (d k d' k' o:Nat):V.apart d k (.ref d' k' o)= !(decide (d'=d)&&decide (k'=k)):=rfl
@[go_sem] theorem apart_d (d k:Nat) (x:D):V.apart d k (.d x)=true:=rfl
@[go_sem] theorem apart_iptr (d k:Nat) (e:D) (o:Nat):V.apart d k (.iptr e o)=true:=rfl
@[go_sem] theorem gb_true (b:Bool):(b==true)=b:=by cases b<;>rfl
@[go_sem] theorem gb_false (b:Bool):(b==false)= !b:=by cases b<;>rfl
attribute [go_sem] aaw
@[go_sem] theorem setCells_nil (cs:List D) (off:Nat):setCells cs off []=cs:=rfl
@[go_sem] theorem setCells_cons (cs:List D) (off:Nat) (x:D) (r:List D):setCells cs off (x::r)=setCells (cs.set off x) (off+1) r:=rfl
attribute [go_sem] List.set_cons_zero List.set_cons_succ List.set_nil
end Go.Ev
namespace Go.Ev
open Go
variable {cfg:Cfg} {orc:Orc} {dep:Nat} {X:Kx} {K:List Kf} {s:St}
def idxBQ (k n z:Nat):Option V→Option Int→Option (List (Loc×V))
 |some v,some j=>if 0≤j∧j<n then match v with
  | .ref d b o=>some [(.slot k,.ref d b (o+j.toNat*z))]
  | .bref l i o=>some [(.slot k,.bref l i (o+j.toNat*z))]
  | .iptr e o=>some [(.slot k,.iptr e (o+j.toNat*z))]
  | .d (.ptr e)=>some [(.slot k,.iptr e (j.toNat*z))]
  |_=>none else none
 |_,_=>none
@[go_sem] theorem U_idxB (s:Get) (k n z:Nat) (x i:IOpd):stepU cfg orc dep s ⟨some k,none,.idxB n z x i⟩=idxBQ k n z (val cfg s x) ((dat cfg s i).bind D.toInt?):=by
 show evOp cfg dep s (some k) (.idxB n z x i)=_;unfold idxBQ;simp only[evOp];cases val cfg s x with
 |none=>rfl
 | some v=>cases(dat cfg s i).bind D.toInt? with
  |none=>rfl
  |some j=>rfl
@[go_sem] theorem idxBQ_ref (k n z d b o:Nat) (j:Int):idxBQ k n z (some (.ref d b o)) (some j)=if 0≤j∧j<n then some [(.slot k,.ref d b (o+j.toNat*z))] else none:=rfl
@[go_sem] theorem idxBQ_bref (k n z:Nat) (l:Loc) (i o:Nat) (j:Int):idxBQ k n z (some (.bref l i o)) (some j)=if 0≤j∧j<n then some [(.slot k,.bref l i (o+j.toNat*z))] else none:=rfl
@[go_sem] theorem idxBQ_iptr (k n z:Nat) (e:D) (o:Nat) (j:Int):idxBQ k n z (some (.iptr e o)) (some j)=if 0≤j∧j<n then some [(.slot k,.iptr e (o+j.toNat*z))] else none:=rfl
@[go_sem] theorem idxBQ_ptr (k n z:Nat) (e:D) (j:Int):idxBQ k n z (some (.d (.ptr e))) (some j)=if 0≤j∧j<n then some [(.slot k,.iptr e (j.toNat*z))] else none:=rfl
@[go_sem] theorem deqn_agg (ks:List Nat) (xs ys:List D):D.eqn cfg (.agg ks) (.agg xs) (.agg ys)=dh ks xs ys:=rfl
def andQ:Option Bool→Option Bool→Option Bool
 |some a,some b=>some (a&&b)
 |_,_=>none
@[go_sem] theorem cellsEq_nil:dh [] [] []=some true:=rfl
@[go_sem] theorem cellsEq_cons (n:Nat) (ns:List Nat) (a b:D) (r r':List D):dh (n::ns) (a::r) (b::r')=andQ (t7 n a b) (dh ns r r'):=by
 unfold andQ;rw[dh];cases t7 n a b<;>rfl
@[go_sem] theorem andQ_some (a b:Bool):andQ (some a) (some b)=some (a&&b):=rfl
@[go_sem] theorem cellEq_bool (a b:Bool):t7 1 (.bool a) (.bool b)=some (a==b):=rfl
@[go_sem] theorem cellEq_str (a b:List UInt8):t7 2 (.str a) (.str b)=some (a==b):=rfl
attribute [go_sem] go_each
@[go_sem] theorem goEQ_some (ps:List Nat) (a b:ICode) (l:List (List D)):goEQ X ps a b K s (some l)=goE X ps a b (dropBor X.dep s.env) K l s.mem:=rfl
@[go_sem] theorem goE_nil (ps:List Nat) (a b:ICode) (E:List (Nat×V)) (m:List (Cel×V)):goE X ps a b E K [] m=go X K ⟨E,m⟩:=rfl
theorem ka (ps:List Nat) (a b:ICode) (E:List (Nat×V)) (x:List D) (l:List (List D)) (m:List (Cel×V)):goE X ps a b E K (x::l) m=goPut X a b K E m (goE X ps a b E K l) (putPs ps x (roundE E)):=rfl
@[go_sem] theorem goPut_some (a b:ICode) (E e:List (Nat×V)) (m:List (Cel×V)) (f:List (Cel×V)→Ans):goPut X a b K E m f (some e)=go ⟨X.cfg,X.dep+1,goRnd X b K E f⟩ [.c a] ⟨e,m⟩:=rfl
@[go_sem] theorem goRnd_n (b:ICode) (E:List (Nat×V)) (f:List (Cel×V)→Ans) (s:St):goRnd X b K E f .normal s=go ⟨X.cfg,X.dep+1,goEnd X K E f⟩ [.c b] s:=rfl
@[go_sem] theorem goEnd_n (E:List (Nat×V)) (f:List (Cel×V)→Ans) (s:St):goEnd X K E f .normal s=f (leaveM (X.dep+1) s.mem):=rfl
@[go_sem] theorem goEnd_r (E:List (Nat×V)) (f:List (Cel×V)→Ans) (s:St):goEnd X K E f .ret s=X.k .ret ⟨E,leaveM (X.dep+1) s.mem⟩:=rfl
@[go_sem] theorem goEnd_x (E:List (Nat×V)) (f:List (Cel×V)→Ans) (s:St) (id:Nat):goEnd X K E f (.exit id) s=goX X id K ⟨E,leaveM (X.dep+1) s.mem⟩:=rfl
@[go_sem] theorem putPs_nil (e:List (Nat×V)):putPs [] [] e=some e:=rfl
@[go_sem] theorem putPs_cons (p:Nat) (ps:List Nat) (d:D) (ds:List D) (e:List (Nat×V)):putPs (p::ps) (d::ds) e=putPs ps ds (st e p (.d d)):=rfl
@[go_sem] theorem roundE_nil:roundE []=[]:=rfl
@[go_sem] theorem roundE_cons (k:Nat) (v:V) (r:List (Nat×V)):roundE ((k,v)::r)=(k,v.roundV)::roundE r:=rfl
@[go_sem] theorem roundV_d (x:D):(V.d x).roundV= .d x:=rfl
@[go_sem] theorem roundV_ref (d k o:Nat):(V.ref d k o).roundV= .ref d k o:=rfl
@[go_sem] theorem roundV_vec (ys:List V):(V.vec ys).roundV= .vec ys:=rfl
@[go_sem] theorem roundV_vref (y:V):(V.vref y).roundV= .vref y:=rfl
@[go_sem] theorem roundV_clo (f:FuncId) (a b:List V):(V.clo f a b).roundV= .clo f a b:=rfl
@[go_sem] theorem roundV_own (n:Bool) (z:Nat) (es:List D):(V.own n z es).roundV= .junk:=rfl
@[go_sem] theorem roundV_iptr (e:D) (o:Nat):(V.iptr e o).roundV= .iptr e o:=rfl
@[go_sem] theorem roundV_ifc (t:TypeId) (v:V):(V.ifc t v).roundV= .ifc t v:=rfl
@[go_sem] theorem roundV_junk:V.junk.roundV= .junk:=rfl
def a3d (cfg:Cfg) (f:FuncId):Option (List D)→Option (List (List D))
 |some ds=>(cfg.iter f).bind fun g=>g ds
 |none=>none
@[go_sem] theorem itemsOf_clo (f:FuncId) (caps:List V):itemsOf cfg (.clo f [] caps)=a3d cfg f (allD caps):=by
 unfold a3d itemsOf;cases h1:cfg.iter f with
 |none=>cases h2:allD caps<;>simp only[h1,h2]<;>rfl
 |some g=>cases h2:allD caps<;>simp only[h1,h2]<;>rfl
@[go_sem] theorem itemsQ_some (f:FuncId) (ds:List D):a3d cfg f (some ds)=(cfg.iter f).bind fun g=>g ds:=rfl
@[go_sem] theorem givesB_nil (s:St):givesB s []=s:=rfl
@[go_sem] theorem givesB_cons (s:St) (k:Nat) (r:List Nat):givesB s (k::r)=givesB (s.upd (givenB s.get k)) r:=rfl
def a3n (s:Get):Option V→List (Loc×V)
 | some (.ref d j off)=>match s (.cell ⟨d,j,off⟩) with
  |some (.own _ _ es)=>[(.cell ⟨d,j,off⟩,.d (.sl es))]
  |_=>[]
 |_=>[]
def a3m (d j off:Nat):Option V→List (Loc×V)
 |some (.own _ _ es)=>[(.cell ⟨d,j,off⟩,.d (.sl es))]
 |_=>[]
@[go_sem] theorem givenB_def (s:Get) (k:Nat):givenB s k=a3n s (s (.slot k)):=rfl
@[go_sem] theorem givenBQ_ref (s:Get) (d j off:Nat):a3n s (some (.ref d j off))=a3m d j off (s (.cell ⟨d,j,off⟩)):=rfl
@[go_sem] theorem givenR_own (d j off:Nat) (n:Bool) (z:Nat) (es:List D):a3m d j off (some (.own n z es))=[(.cell ⟨d,j,off⟩,.d (.sl es))]:=rfl
@[go_sem] theorem givenR_d (d j off:Nat) (x:D):a3m d j off (some (.d x))=[]:=rfl
end Go.Ev
namespace Go.Ev
open Go
abbrev oo (k:Nat) (op:IOp):IOper:=⟨some k,none,op⟩
abbrev og (k j:Nat) (b:Bool) (op:IOp):IOper:=⟨some k,some (j,b),op⟩
abbrev ow (op:IOp):IOper:=⟨none,none,op⟩
abbrev ci (n:Int):IOpd:= .c (.int .i64 n)
abbrev Ops:=List IOper
abbrev rg (l:Ops) (keep:List Nat):ICode:= .region l [] keep
abbrev Gr (X:Kx) (K:List Kf) (s:St) (r:ICode) (l:Ops) (keep:List Nat):Prop:=go X (.c r::K) s=goR X l keep K s
abbrev Gu (X:Kx) (K:List Kf) (s:St) (r:ICode) (n:List (Nat×Nat)) (l:Ops) (keep:List Nat):Prop:=go X (.c r::K) s=goRU X s.env true [] n l keep K s
abbrev Gn (X:Kx) (K:List Kf) (s:St) (r c:ICode):Prop:=go X (.c r::K) s=go X (.c c::K) s
abbrev Uc (cfg:Cfg) (f:FuncId):Prop:=(∀ (orc:Orc) (dep:Nat) (s:Get) (k:Nat) (own:Bool) (args:List IOpd),stepU cfg orc dep s ⟨some k,none,.call own f args⟩=(vals cfg s args).bind fun vs=>callW cfg orc s (some k) own f args vs)∧
 ∀ (orc:Orc) (dep:Nat) (s:St) (k:Nat) (own:Bool) (args:List IOpd),stepM cfg orc dep s ⟨some k,none,.call own f args⟩=(vals cfg s.get args).bind fun vs=>callM orc dep s (some k) own f vs
theorem uc {cfg:Cfg} {f:FuncId} (h:cfg.clip f=false):Uc cfg f:=⟨fun _ _ s k own args=>U_call' s k own f args h,fun _ _ s k own args=>M_call s k own f args h⟩
abbrev Uk (cfg:Cfg) (f:FuncId):Prop:=∀ (orc:Orc) (dep:Nat) (s:Get) (k:Nat) (own:Bool) (x:IOpd),stepU cfg orc dep s ⟨some k,none,.call own f [x]⟩=(val cfg s x).bind fun v=>evClip (some k) x v
theorem uk {cfg:Cfg} {f:FuncId} (h:cfg.clip f=true):Uk cfg f:=fun _ _ s k own x=>U_clip s k own f x h
abbrev Oe (cfg:Cfg) (f:FuncId) (ar:Nat) (res:List IRes) (c:ICode):Prop:=∀ (dep:Nat) (vs:List V) (m:List (Cel×V)),vs.length=ar→argsOk vs m=true→evL cfg f dep vs m=go (fx cfg dep res) [.c c] ⟨entry 0 vs,m⟩
abbrev Of (X:Kx) (f:FuncId) (vs:List V) (c:ICode):Prop:=evL X.cfg f 0 vs []=go X [.c c] ⟨entry 0 vs,[]⟩
theorem a4b (i:Nat):entry i []=[]:=rfl
theorem awt (i:Nat) (v:V) (r:List V):entry i (v::r)=(i,v)::entry (i+1) r:=rfl
attribute [go_sem] a4b awt
end Go.Ev
namespace Go.Ev
open Go
def cmpB (a b:List UInt8):Int:=if Op.bytesLess a b then -1 else if Op.bytesLess b a then 1 else 0
def xCompare:List D→Option V
 | [.sl a,.sl b]=>(bu a).bind fun a=>(bu b).map fun b=> .d (.int .i64 (cmpB a b))
 |_=>none
def dc:List D→Option V
 | [.int .i64 n]=>if 0≤n∧n≤1000000000 then some (.own false 1 (List.replicate n.toNat D.unk)) else none
 |_=>none
def mq:List D→Option (List UInt8)
 | []=>some []
 | .int .u8 n::r=>if 0≤n∧n<256 then(mq r).map (UInt8.ofNat n.toNat:: ·) else none
 |_=>none
def j4:List D→Option (List (List UInt8))
 | []=>some []
 | .sl e::r=>(mq e).bind fun b=>(j4 r).map (b:: ·)
 |_=>none
def txt (b:List UInt8):D:= .sl (b.map byteD)
end Go.Ev
namespace Go.Ev
open Go
theorem da {α:Type} {l:List α} {i:Nat} {c:α} {r:List α} (hr:l.drop i=c::r):i<l.length∧l[i]? =some c∧l.drop (i+1)=r:=by
 have hlt:i<l.length:=by
   apply Classical.byContradiction;intro h;rw[List.drop_of_length_le yp] at hr;cases hr
 refine⟨hlt,?_,?_⟩
 · have:=congrArg (·[0]?) hr
   simpa using this
 · rw[← List.drop_drop,hr];rfl
theorem cf {α:Type} {l:List α} {i:Nat} (hr:l.drop i=[]):l.length≤i:=by simpa using hr
@[go_sem] theorem cells_txt (b:List UInt8):(txt b).cells=[txt b]:=rfl
@[go_sem] theorem canon_txt (b:List UInt8):(txt b).canon=txt b:=rfl
@[go_sem] theorem can_txt (b:List UInt8):(txt b).can=txt b:=rfl
@[go_sem] theorem storable_txt (b:List UInt8):(txt b).storable=true:=rfl
@[go_sem] theorem len_txt (b:List UInt8):V.len? (.d (txt b))=some b.length:=by simp[txt,V.len?]
@[go_sem] theorem cont_txt (s:Get) (b:List UInt8):cont s (.d (txt b))=some (b.map byteD):=rfl
@[go_sem] theorem asD_txt (b:List UInt8):V.asD (.d (txt b))=some (txt b):=rfl
@[go_sem] theorem plain_txt (b:List UInt8):(txt b).plain=b.isEmpty:=by cases b<;>rfl
def ownL (acc:List D):V:=if acc.isEmpty then .d .nilS else .own false 1 acc
theorem ij:ownL []= .d .nilS:=rfl
theorem gr (d:D) (r:List D):ownL (d::r)= .own false 1 (d::r):=rfl
theorem adt (r:List D) (d:D):ownL (r++[d])= .own false 1 (r++[d]):=by cases r<;>rfl
theorem pi:∀ b:List UInt8,mq (b.map byteD)=some b
 | []=>rfl
 | x::b=>by
  have h:=x.toNat_lt;rw[List.map_cons,show byteD x= .int .u8 (x.toNat:Int) from rfl,mq,if_pos ⟨by omega,by omega⟩,pi b]
  simp
theorem pj:∀ {es:List D} {b:List UInt8},mq es=some b→es=b.map byteD
 | [],b,h=>by cases h;rfl
 | e::es,b,h=>by
  unfold mq at h;split at h
  · rename_i he;cases he
  · rename_i n r he
    cases he;split at h
    · rename_i hn
      simp only[yw] at h;obtain⟨b',h1,rfl⟩:=h;rw[List.map_cons,← pj h1,gc yp,Int.toNat_of_nonneg hn.1]
    · cases h
  · cases h
theorem pg:∀ {es:List D} {l:List (List UInt8)},j4 es=some l→es=l.map txt
 | [],l,h=>by cases h;rfl
 | e::es,l,h=>by
  unfold j4 at h;split at h
  · rename_i he;cases he
  · rename_i e r he
    cases he;simp only[y8,yw] at h;obtain⟨b,h1,l',h2,rfl⟩:=h;rw[List.map_cons,← pg h2,pj h1];rfl
  · cases h
end Go.Ev
namespace Go.Ev
open Go
abbrev Tx:=List UInt8
theorem au6 (x:Tx):Op.bytesLess x []=false:=by cases x<;>rfl
theorem nh (c d:UInt8) (x y:Tx):Op.bytesLess (c::x) (d::y)=(decide (c<d)||(c==d&&Op.bytesLess x y)):=rfl
theorem ud:∀ x:Tx,Op.bytesLess x x=false
 | []=>rfl
 |c::x=>by rw[nh,ud x];simp
theorem a46:∀ {x y:Tx},Op.bytesLess x y=true→Op.bytesLess y x=false
 |x,[],h=>by rw[au6] at h;cases h
 | [],d::y,h=>au6 _
 | c::x,d::y,h=>by
  rw[nh] at h ⊢;simp only[aa3,zh,ze,zt] at h;simp only[Bool.or_eq_false_iff,zb,Bool.and_eq_false_imp,zt];rcases h with h|⟨rfl,h⟩
  · refine⟨fun h2=>absurd (UInt8.lt_trans h h2) (UInt8.lt_irrefl _),fun e=> ?_⟩
    subst e;exact absurd h (UInt8.lt_irrefl _)
  · exact⟨UInt8.lt_irrefl _,fun _=>a46 h⟩
theorem ae6:∀ {x y:Tx},Op.bytesLess x y=false→Op.bytesLess y x=false→x=y
 | [],[],_,_=>rfl
 | [],d::y,h,_=>by cases h
 |c::x,[],_,h=>by cases h
 | c::x,d::y,h,h'=>by
  rw[nh] at h h';simp only[Bool.or_eq_false_iff,zb,Bool.and_eq_false_imp,zt] at h h';have e:c=d:=by
   have h1:=h.1;have h2:=h'.1;rw[UInt8.lt_iff_toNat_lt] at h1 h2;exact UInt8.toNat_inj.1 yp
  subst e;rw[ae6 (h.2 rfl) (h'.2 rfl)]
theorem kh:∀ {x y z:Tx},Op.bytesLess x y=true→Op.bytesLess y z=true→Op.bytesLess x z=true
 |x,[],z,h,_=>by rw[au6] at h;cases h
 |x,d::y,[],_,h=>by rw[au6] at h;cases h
 | [],d::y,e::z,_,_=>rfl
 | c::x,d::y,e::z,h,h'=>by
  rw[nh] at h h' ⊢;simp only[aa3,zh,ze,zt] at h h' ⊢;rcases h with h|⟨rfl,h⟩
  · rcases h' with h'|⟨rfl,h'⟩
    · exact .inl (UInt8.lt_trans h h')
    · exact .inl h
  · rcases h' with h'|⟨rfl,h'⟩
    · exact .inl h'
    · exact .inr ⟨rfl,kh h h'⟩
theorem re {x y z:Tx} (h:Op.bytesLess y x=false) (h':Op.bytesLess y z=true):Op.bytesLess x z=true:=by
 rcases y9 (Op.bytesLess x y) with a|a
 · exact kh a h'
 · rw[ae6 a h];exact h'
def Rise:List Tx→Prop
 | []=>True
 |x::r=>(∀ y∈r,Op.bytesLess x y=true)∧Rise r
def posT (x:Tx):List Tx→Nat
 | []=>0
 |y::r=>if Op.bytesLess y x then posT x r+1 else 0
def insP (x:Tx) (ws:List Tx):List Tx:=if ws[posT x ws]? =some x then ws else ws.take (posT x ws)++x::ws.drop (posT x ws)
theorem my (x:Tx):∀ ws,posT x ws≤ws.length
 | []=>y7 _
 | y::r=>by
  have:=my x r;rw[posT,List.length_cons];split<;>omega
theorem a2r {x:Tx}:∀ {ws:List Tx} {i:Nat} {y:Tx},i<posT x ws→ws[i]? =some y→Op.bytesLess y x=true
 | [],i,y,h,_=>by simp[posT] at h
 | z::r,0,y,h,e=>by
  rw[posT] at h;split at h
  · rename_i hz;simp at e;rw[← e];exact hz
  · omega
 | z::r,i+1,y,h,e=>by
  rw[posT] at h;split at h
  · exact a2r (x:=x) (ws:=r) (i:=i) yp (by simpa using e)
  · omega
theorem a2t {x:Tx}:∀ {ws:List Tx} {y:Tx},ws[posT x ws]? =some y→Op.bytesLess y x=false
 | [],y,e=>by simp at e
 | z::r,y,e=>by
  rw[posT] at e;split at e
  · exact a2t (by simpa using e)
  · rename_i hz;simp at e;rw[← e];simpa using hz
theorem aee (x y:Tx) (r:List Tx):insP x (y::r)=if Op.bytesLess y x then y::insP x r else if y=x then y::r else x::y::r:=by
 unfold insP;rw[posT];by_cases h:Op.bytesLess y x=true
 · rw[if_pos h,if_pos h]
   simp only[List.getElem?_cons_succ,List.take_succ_cons,List.drop_succ_cons,List.cons_append];split<;>rfl
 · rw[if_neg h,if_neg h]
   simp only[List.getElem?_cons_zero,Option.some.injEq,List.take_zero,List.drop_zero,List.nil_append]
theorem v7 {x z:Tx}:∀ {ws:List Tx},z∈insP x ws↔z=x∨z∈ws
 | []=>by simp[insP,posT]
 | y::r=>by
  rw[aee];split
  · rw[zr,zr,v7]
    constructor
    · rintro (h|h|h)
      · exact .inr (.inl h)
      · exact .inl h
      · exact .inr (.inr h)
    · rintro (h|h|h)
      · exact .inr (.inl h)
      · exact .inl h
      · exact .inr (.inr h)
  · split
    · rename_i e
      subst e;constructor
      · exact .inr
      · rintro (h|h)
        · rw[h];exact List.mem_cons_self
        · exact h
    · rw[zr]
theorem yj {x:Tx}:∀ {ws:List Tx},Rise ws→Rise (insP x ws)
 | [],_=>by
  simp only[insP,posT,List.getElem?_nil,reduceCtorEq,if_false,List.take_zero,List.drop_zero,List.nil_append];exact⟨by simp,trivial⟩
 | y::r,h=>by
  rw[aee];split
  · rename_i hy
    refine⟨fun z hz=> ?_,yj h.2⟩
    rcases v7.1 hz with e|e
    · rw[e];exact hy
    · exact h.1 z e
  · rename_i hy
    split
    · exact h
    · rename_i hne
      have hxy:Op.bytesLess x y=true:=by
        rcases y9 (Op.bytesLess x y) with a|a
        · exact a
        · exact absurd (ae6 (by simpa using hy) a) hne
      refine⟨fun z hz=> ?_,h⟩
      rcases zr.1 hz with e|e
      · rw[e];exact hxy
      · exact kh hxy (h.1 z e)
theorem akn:∀ {a b:List Tx},Rise a→Rise b→(∀ z,z∈a↔z∈b)→a=b
 | [],[],_,_,_=>rfl
 | [],y::b,_,_,h=>by have:=(h y).2 List.mem_cons_self;cases this
 |x::a,[],_,_,h=>by have:=(h x).1 List.mem_cons_self;cases this
 | x::a,y::b,ha,hb,h=>by
  have hxy:x=y:=by
    rcases zr.1 ((h x).1 List.mem_cons_self) with e|e
    · exact e
    · rcases zr.1 ((h y).2 List.mem_cons_self) with e'|e'
      · exact e'.symm
      · have h1:=hb.1 x e
        have h2:=ha.1 y e';rw[a46 h1] at h2;cases h2
  subst hxy
  congr 1
  refine akn ha.2 hb.2 fun z=>⟨fun hz=> ?_,fun hz=> ?_⟩
  · rcases zr.1 ((h z).1 (zq _ hz)) with e|e
    · subst e;have:=ha.1 _ hz;rw[ud] at this;cases this
    · exact e
  · rcases zr.1 ((h z).2 (zq _ hz)) with e|e
    · subst e;have:=hb.1 _ hz;rw[ud] at this;cases this
    · exact e
def riseT (l:List Tx):List Tx:=l.foldl (fun a x=>insP x a) []
theorem aej:∀ (l acc:List Tx),Rise acc→Rise (l.foldl (fun a x=>insP x a) acc)
 | [],acc,h=>h
 |x::l,acc,h=>aej l _ (yj h)
theorem aui {z:Tx}:∀ (l acc:List Tx),z∈l.foldl (fun a x=>insP x a) acc↔z∈acc∨z∈l
 | [],acc=>by simp
 | x::l,acc=>by
  rw[List.foldl_cons,aui l,v7,zr];constructor
  · rintro ((h|h)|h)
    · exact .inr (.inl h)
    · exact .inl h
    · exact .inr (.inr h)
  · rintro (h|h|h)
    · exact .inl (.inr h)
    · exact .inl (.inl h)
    · exact .inr h
theorem mt (l:List Tx):Rise (riseT l):=aej l [] trivial
theorem gu {z:Tx} {l:List Tx}:z∈riseT l↔z∈l:=by
 unfold riseT;rw[aui];simp
theorem yk {l ws:List Tx} (h:Rise ws) (hm:∀ z,z∈ws↔z∈l):riseT l=ws:=akn (mt l) h fun z=>by rw[gu,hm]
theorem ais (x:Tx) (ws:List Tx):(insP x ws).length≤ws.length+1:=by
 unfold insP;have:=my x ws;split
 · omega
 · simp;omega
theorem qq:∀ (l acc:List Tx),(l.foldl (fun a x=>insP x a) acc).length≤acc.length+l.length
 | [],acc=>by simp
 | x::l,acc=>by
  have:=qq l (insP x acc);have:=ais x acc;rw[List.foldl_cons,List.length_cons];omega
theorem bw (l:List Tx):(riseT l).length≤l.length:=by
 have:=qq l [];unfold riseT;simpa using this
theorem aua {x:Tx}:∀ {ws:List Tx},Rise ws→x∈ws→ws[posT x ws]? =some x
 | [],_,h=>by cases h
 | y::r,hr,h=>by
  rw[posT];rcases zr.1 h with e|e
  · subst e
    rw[ud];simp
  · rw[if_pos (hr.1 x e)]
    simpa using aua hr.2 e
theorem akm {i j:Nat} {x y:Tx}:∀ {ws:List Tx},Rise ws→ws[i]? =some x→ws[j]? =some y→i<j→Op.bytesLess x y=true:=by
 intro ws
 induction ws generalizing i j with
 |nil=>intro _ h;simp at h
 | cons z r ih=>
  intro hr hi hj hij;cases j with
  |zero=>omega
  | succ j=>
   cases i with
   | zero=>
    simp at hi hj;rw[← hi];exact hr.1 y (List.mem_of_getElem? hj)
   |succ i=>exact ih hr.2 (by simpa using hi) (by simpa using hj) yp
def mm:List D→Option V
 | [.sl []]=>some (.d (.sl []))
 | [.sl es]=>if es.length≤1000000 then(j4 es).map fun l=> .own false 1 ((riseT l).map txt) else none
 |_=>none
theorem pf:∀ l:List Tx,j4 (l.map txt)=some l
 | []=>rfl
 | x::l=>by
  rw[List.map_cons];simp only[txt,j4,pi,Option.bind_some];rw[pf l];rfl
theorem xj {l:List Tx} (h:l≠[]) (hl:l.length≤1000000):mm [.sl (l.map txt)]=some (.own false 1 ((riseT l).map txt)):=by
 cases l with
 |nil=>exact absurd rfl h
 | cons x l=>
  rw[List.map_cons];unfold mm;simp only;rw[← List.map_cons,pf,if_pos (by simpa using hl)]
  rfl
end Go.Ev
namespace Go.Ev
open Go
theorem a4i:∀ a b:Tx,Lib.compareBytes a b=cmpB a b
 | [],[]=>rfl
 | [],_::_=>rfl
 |_::_,[]=>rfl
 | c::a,d::b=>by
  have ih:=a4i a b;rw[Lib.compareBytes,ih];unfold cmpB;rw[nh,nh];by_cases h:c<d
  · simp[h]
  · by_cases h':d<c
    · have hne:¬ d=c:=fun e=>by subst e;exact UInt8.lt_irrefl _ h'
      have hne':¬ c=d:=fun e=>hne e.symm
      simp[h,h',hne']
    · have e:c=d:=by
       rw[UInt8.lt_iff_toNat_lt] at h h';exact UInt8.toNat_inj.1 yp
      subst e;simp[h]
section
variable {F:Nat→Prop} {w:World} {P:Program}
theorem Rd.nums_at {v:Value} {ns:List Int} (h:Rd F w v (.sl (ns.map (D.int .u8)))):∃ ad cap,v= .slice ad ns.length cap∧(ns≠[]→∃ c o,ad=some (ad3 c o)∧∀ (j:Nat) x,ns[j]? =some x→w.cell? (ad3 c (o+j))=some (.int .u8 x)):=by
 generalize hd:ns.map (D.int .u8)=es at h;cases h with
 | slA ad cap=>
  have:ns=[]:=by simpa using hd
  subst this;exact⟨ad,cap,rfl,fun h=>absurd rfl h⟩
 | sl c o len cap z es vs hlen hcap hz hc hm hr=>
  subst hd;rw[yz] at hlen;subst hlen;refine⟨some (ad3 c o),cap,rfl,fun hne=>⟨c,o,rfl,fun j x hj=> ?_⟩⟩
  have hz1:z=1:=by
   cases ns with
   |nil=>exact absurd rfl hne
   |cons y b=>exact(hz (.int .u8 y) yt).symm
  subst hz1;have he:(ns.map (D.int .u8))[j]? =some (.int .u8 x):=by rw[zg,hj];rfl
  have h1:=hm j _ he 0 (.int .u8 x) rfl;have h2:=hr j _ he 0 (.int .u8 x) rfl;have h3:vs j 0= .int .u8 x:=h2.int_inv;rw[h3] at h1;simpa using h1.2
theorem ye {v:Value} {ns:List Int} (h:Rd F w v (.sl (ns.map (D.int .u8)))) {src e:TypeId} (hs:P.underlying src=some (.slice e)) (he:P.underlying e=some (.int .u8)) {dst:TypeId} (hd:P.underlying dst=some .string):
  (convert src dst v).run P w= .ok (.string ⟨(Lib.bytesOf ns).toArray⟩) w:=by
 obtain⟨ad,cap,rfl,hb⟩:=h.nums_at;cases ns with
 | nil=>
  rw[run_convert_bytes_string w src dst e ad _ cap hs he hd];cases ad with
  |none=>rfl
  |some a0=>exact run_bytesToString w a0 _ cap [] (run_loadCells_list (P:=P) w a0 [] (fun m v hm=>by simp at hm))
 | cons x b=>
  obtain⟨c,o,rfl,hc⟩:=hb yt;exact run_convert_bytes_arg (P:=P) w src e hs he c o _ cap (x::b) rfl (fun i hi=>by
   have:=hc i _ (yy hi);rw[this,List.getD,yy hi];rfl) dst hd
theorem ko {v:Value} {ns:List Int} (h:Rd F w v (.sl (ns.map (D.int .u8)))):(Extern.Bytes.bytesOf v).run P w= .ok ⟨(Lib.bytesOf ns).toArray⟩ w:=by
 obtain⟨ad,cap,rfl,hb⟩:=h.nums_at;cases ns with
 | nil=>
  cases ad with
  |none=>rfl
  |some a=>rfl
 | cons x b=>
  obtain⟨c,o,rfl,hc⟩:=hb yt;have h1:=Lib.run_loadBytesX (P:=P) w (x::b) (ad3 c o) .empty (fun j y hy=>by
   have:=hc j y hy;rw[b8];exact this)
  show(Extern.Bytes.loadBytes (ad3 c o) (x::b).length .empty).run P w=_;rw[h1];simp[ByteArray.empty,ByteArray.emptyWithCapacity];rfl
theorem nr {v u:Value} {a b:List Int} (h:Rd F w v (.sl (a.map (D.int .u8)))) (k:Rd F w u (.sl (b.map (D.int .u8)))):(Extern.BytealgCompare.compare #[v,u]).run P w= .ok (.int .i64 (cmpB (Lib.bytesOf a) (Lib.bytesOf b))) w:=by
 change Sem.run P (do pure (goInt (Extern.BytealgCompare.cmp (← Extern.Bytes.bytesOf v) (← Extern.Bytes.bytesOf u)))) w=_
 simp only[Sem.run_bind,Sem.run_pure,ko h,ko k,Result.andThen];rw[Lib.cmp_eq,a4i];rfl
theorem uo (b:Tx):txt b= .sl ((b.map fun x=>(x.toNat:Int)).map (D.int .u8)):=by
 unfold txt;rw[List.map_map];rfl
theorem jy (b:Tx):Lib.bytesOf (b.map fun x=>(x.toNat:Int))=b:=by
 unfold Lib.bytesOf;rw[List.map_map]
 conv=>rhs;rw[← List.map_id b]
 exact List.map_congr_left fun x _=>by simp
theorem pp {v:Value} {b:Tx} (h:Rd F w v (txt b)) {src e:TypeId} (hs:P.underlying src=some (.slice e)) (he:P.underlying e=some (.int .u8)) {dst:TypeId} (hd:P.underlying dst=some .string):
  (convert src dst v).run P w= .ok (.string ⟨b.toArray⟩) w:=by
 rw[uo] at h;have:=ye h hs he hd
 rwa [jy] at this
theorem afo {v u:Value} {a b:Tx} (h:Rd F w v (txt a)) (k:Rd F w u (txt b)):(Extern.BytealgCompare.compare #[v,u]).run P w= .ok (.int .i64 (cmpB a b)) w:=by
 rw[uo] at h k;have:=nr (P:=P) h k
 rwa [jy,jy] at this
theorem wh {cfg:Cfg} {f:FuncId} {fn:Func} (hf:P.funcs[f]? =some fn) (hname:(fn.name=="runtime.NumGoroutine")=false) (hb:fn.body.isNone=true) (hn:Extern.findNext fn=none) (he:Extern.find fn=some Extern.BytealgCompare.compare):Gives P cfg f xCompare:=by
 intro ds r hr F args w h1 h2 _ _;unfold xCompare at hr;split at hr
 · rename_i a b
   simp only[y8,yw] at hr;obtain⟨a',ha,b',hb',rfl⟩:=hr;obtain⟨v,u,rfl,hv,hu⟩:=args_two h1 h2;obtain⟨ns,rfl,rfl⟩:=i6 ha;obtain⟨ms,rfl,rfl⟩:=i6 hb';refine .inl ⟨_,w,?_,y7 _,fun _ _=>rfl,SameIO.refl _,.int _ _⟩
   rw[run_callFunc_extern hf hname hb hn he,nr hv hu];rfl
 · cases hr
theorem tz:∀ (n t:Nat) (acc:Array Value),(∀ v∈acc.toList,v.oneCell'=true)→∀ v∈(Extern.BytealgMakeNoZero.digits n t acc).toList,v.oneCell'=true
 |0,_,acc,h=>h
 | n+1,t,acc,h=>tz n _ _ fun v hv=>by
  rw[Array.toList_push,aan,aal] at hv;rcases hv with hv|rfl
  · exact h v hv
  · rfl
theorem avm (ps:Array TypeId) {t e:TypeId} (ht:P.underlying t=some (.slice e)) (n:Nat) (hn:n≤1000000000):
   ∃ cs:Array Value,(Extern.BytealgMakeNoZero.makeNoZero ps #[t] #[.int .i64 n]).run P w= .ok (.slice (some (ad3 w.heap.size 0)) n cs.size) (w.drew.drew.alloc (.cells cs e))∧n≤cs.size∧∀ v∈cs.toList,v.oneCell'=true:=by
 refine⟨Extern.BytealgMakeNoZero.digits (grownCap w n 0 e) ((Question.extern "internal/bytealg.MakeNoZero.bytes" 0).cut (w.tape (w.drawn+1) (.extern "internal/bytealg.MakeNoZero.bytes" 0))) #[],?_,?_,tz _ _ _ yt⟩
 · have h1:¬ (n:Int)<0:=yp
   have h2:¬ (281474976710656:Int)<(n:Int):=yp;have hdef:Extern.BytealgMakeNoZero.makeNoZero ps #[t] #[.int .i64 n]=
    (do
     let .slice elem ←underlying t|stuck "bytealg.MakeNoZero: slice type expected"
     if(n:Int)<0||(n:Int)>2 ^ 48 then runtimePanic (.error "makeslice: len out of range")
     let cap ←choose (.appendCap (n:Int).toNat 0 elem)
     askRoom cap
     let bytes ←choose (.extern "internal/bytealg.MakeNoZero.bytes" 0)
     let a ←newRow elem (Extern.BytealgMakeNoZero.digits cap bytes #[])
     pure (.slice (some a) (n:Int).toNat cap)):=rfl
   rw[hdef];simp[run_underlying ht,h1,h2,Question.forced,newRow,Lib.size_digits,grownCap]
 · rw[Lib.size_digits]
   simpa using grownCap_ge w n 0 e
theorem od {cfg:Cfg} {f:FuncId} {fn:Func} {ps:Array TypeId} {t e:TypeId} (hf:P.funcs[f]? =some fn) (hname:(fn.name=="runtime.NumGoroutine")=false) (hb:fn.body.isNone=true) (hn:Extern.findNext fn=none)
   (he:Extern.find fn=some (Extern.BytealgMakeNoZero.makeNoZero ps #[t])) (ht:P.underlying t=some (.slice e)):Gives P cfg f dc:=by
 intro ds r hr F args w h1 h2 _ _;unfold dc at hr;split at hr
 · rename_i n
   split at hr
   · rename_i hn'
     cases hr;obtain⟨v,rfl,hv⟩:=o6 h1 h2;cases hv.int_inv;obtain⟨m,rfl⟩:∃ m:Nat,n=m:=⟨n.toNat,by omega⟩
     obtain⟨cs,hrun,hcap,hone⟩:=avm (P:=P) (w:=w) ps ht m yp;refine .inl ⟨_,w.drew.drew.alloc (.cells cs e),by rw[run_callFunc_extern hf hname hb hn he,hrun];rfl,by simp[World.alloc],fun b hb=> ?_,⟨rfl,rfl,rfl⟩,w.heap.size,0,cs.size,by simp,y7 _,by simp[World.alloc],by simpa using hcap,?_,?_⟩
     · show(w.heap.push _)[b]? =_
       rw[Array.getElem?_push,if_neg (Nat.ne_of_lt hb)]
     · intro c e' lo hi h hne
       have h':(w.heap.push (Obj.cells cs e))[w.heap.size]? =some (.cells c e' (lo,hi)):=h;rw[Array.getElem?_push,if_pos rfl] at h';cases h';exact absurd rfl hne
     · have hcell:∀ j,(w.drew.drew.alloc (.cells cs e)).cell? (ad3 w.heap.size j)=cs[j]? :=fun j=>by
         have:=World.cell?_alloc_mark w.drew.drew cs e (0,0) j;exact this
       refine⟨by decide,fun j hj=>⟨⟨cs[j]'(by omega),?_⟩,?_⟩,fun d hd=> ?_,fun d hd c hc=> ?_,fun i d hd j c hc=> ?_⟩
       · rw[Nat.zero_add,hcell];exact zm _
       · have:=World.frozen?_alloc_mark w.drew.drew cs e 0 0 j
         refine Eq.trans (b:=decide (0≤j∧j<0)) ?_ yt;rw[Nat.zero_add];exact this
       · obtain⟨_,rfl⟩:=List.mem_replicate.1 hd;rfl
       · obtain⟨_,rfl⟩:=List.mem_replicate.1 hd
         rw[aal.1 hc];rfl
       · have hlt:=(y4.1 hd).1
         rw[List.getElem?_replicate] at hd;split at hd
         · cases hd
           cases j with
           | zero=>
            simp[D.cells] at hc;subst hc;have hi:i<cs.size:=by simp at hlt;omega
            refine⟨cs[i],?_,.unk _ (hone _ yt)⟩;rw[show ad3 w.heap.size (0+i*1+0)=ad3 w.heap.size i by simp[ad3],hcell]
            exact zm _
           |succ j=>simp[D.cells] at hc
         · cases hd
   · cases hr
 · cases hr
end
end Go.Ev
namespace Go.Ev
open Go Go.RowKit
variable {P:Program} {W:World} {H:Type} {enc:TypeId×Value→H} {base:Nat} {spare:Nat→Bool} {held:Bool} {t e u:TypeId} {v:Value} {x:DataW H×List MemPlace}
theorem mh:∀ es:List D,(∀ d∈es,∃ m,d=D.int .u8 m∧(Lit.int .u8 m).wf=true)→∃ b:Tx,es=b.map byteD
 | [],_=>⟨[],rfl⟩
 | d::es,h=>by
  obtain⟨m,rfl,hw⟩:=h d yt;obtain⟨b,rfl⟩:=mh es fun d hd=>h d (by simp[hd])
  simp[Lit.wf,IntKind.min,IntKind.max,IntKind.signed,IntKind.bits] at hw;refine⟨UInt8.ofNat m.toNat::b,?_⟩;rw[List.map_cons,gc yp]
  congr 2
  omega
theorem isF_txt {n:Nat} (he:P.underlying e=some (.slice u)) (hu:P.underlying u=some (.int .u8)) (hz:P.cellsOf u=1):IsF P W n e fun xs=>∃ b:Tx,xs=[txt b]∧b.length≤maxLen:=by
 have h:=IsF.slice (P:=P) (w:=W) (n:=n) he yp (fun m _=>IsF.int hu) mkD (fun xs hx _=>by obtain⟨m,rfl,_⟩:=hx;rfl)
 intro H enc base spare held cs x hf;obtain⟨xs,hr,es,hxs,hlen,hes⟩:=h H enc base spare held cs x hf;obtain⟨b,rfl⟩:=mh es fun d hd=>by
  obtain⟨ys,⟨m,rfl,hw⟩,_,rfl⟩:=hes d hd;exact⟨m,rfl,hw⟩
 exact⟨xs,hr,b,hxs,by simpa using hlen⟩
theorem aj5:∀ es:List D,(∀ d∈es,∃ b:Tx,d=txt b)→∃ l:List Tx,es=l.map txt
 | [],_=>⟨[],rfl⟩
 | d::es,h=>by
  obtain⟨b,rfl⟩:=h d yt;obtain⟨l,rfl⟩:=aj5 es fun d hd=>h d (by simp[hd])
  exact⟨b::l,rfl⟩
theorem avv (ht:P.underlying t=some (.slice e)) (he:P.underlying e=some (.slice u)) (hu:P.underlying u=some (.int .u8)) (hz:P.cellsOf e=1) (hz':P.cellsOf u=1) (hv:v.cells.toList=[v]) (h:∃ fuel,DataW.trod enc P W base spare held fuel t v.cells.toList=some x):
  ∃ l:List Tx,l.length≤maxLen∧Rd anyB W v (.sl (l.map txt)):=by
 obtain⟨fuel,hf⟩:=h;obtain⟨d,⟨es,hd,hlen,hes⟩,hr⟩:=read_one (IsF.slice ht yp (fun m _=>isF_txt he hu hz') mkD (fun xs hx _=>by obtain⟨b,rfl,_⟩:=hx;rfl)) hf hv (fun xs hx=>by obtain⟨es,rfl,_⟩:=hx;exact⟨_,rfl⟩)
 cases hd;obtain⟨l,rfl⟩:=aj5 es fun d hd=>by
  obtain⟨ys,⟨b,rfl,_⟩,_,rfl⟩:=hes d hd;exact⟨b,rfl⟩
 exact⟨l,by simpa using hlen,hr⟩
end Go.Ev
namespace Go.Ev
open Go
def xFmtI:List D→Option V
 | [.int .i64 n,.int .i64 b]=>if -9223372036854775808≤n∧n≤9223372036854775807∧b=10 then some (.d (.str (itoaF n))) else none
 |_=>none
def ph:List D→Option (List (List UInt8))
 | []=>some []
 | .str b::r=>(ph r).map (b:: ·)
 |_=>none
def xJoin:List D→Option V
 | [.sl es,.str sep]=>(ph es).bind fun l=>if l.length≤1000000∧(Lib.join l sep).length≤1000000000 then some (.d (.str (Lib.join l sep))) else none
 |_=>none
def fe:List (List UInt8)→List (List UInt8)→Bool
 |_,[]=>true
 |had,s::r=> !(s.isEmpty||decide (100<s.length)||had.contains s)&&fe (s::had) r
def ajx:List D→Option V
 | [.sl es]=>(ph es).bind fun l=>if l.length≤1000000 then some (.d (.bool (fe [] l))) else none
 |_=>none
end Go.Ev
namespace Go.Ev
open Go
inductive Ty where
 |mk (kind:Int) (names:List Tx) (kids:List Ty) (len prec scale:Int)
inductive Va where
 |mk (null:Bool) (i n:Int) (b:Tx) (kids:List Va)
namespace Ty
def kind:Ty→Int| .mk k _ _ _ _ _=>k
def names:Ty→List Tx| .mk _ n _ _ _ _=>n
def kids:Ty→List Ty| .mk _ _ k _ _ _=>k
def len:Ty→Int| .mk _ _ _ l _ _=>l
def prec:Ty→Int| .mk _ _ _ _ p _=>p
def scale:Ty→Int| .mk _ _ _ _ _ s=>s
mutual
def d:Ty→D
 | .mk k ns ks l p s=> .agg [.int .i64 k,.sl (ns.map D.str),.sl (ds ks),.int .i64 l,.int .i64 p,.int .i64 s]
def ds:List Ty→List D
 | []=>[]
 |t::r=>t.d::ds r
end
theorem ds_map:∀ l,ds l=l.map d
 | []=>rfl
 |t::r=>by rw[ds,ds_map r,List.map_cons]
mutual
def size:Ty→Nat
 | .mk _ _ ks _ _ _=>1+sizes ks
def sizes:List Ty→Nat
 | []=>0
 |t::r=>t.size+sizes r
end
theorem d_eq:∀ t:Ty,t.d= .agg [.int .i64 t.kind,.sl (t.names.map D.str),.sl (t.kids.map d),.int .i64 t.len,.int .i64 t.prec,.int .i64 t.scale]
 | .mk k ns ks l p s=>by rw[d,ds_map];rfl
end Ty
namespace Va
def null:Va→Bool| .mk n _ _ _ _=>n
def i:Va→Int| .mk _ i _ _ _=>i
def n:Va→Int| .mk _ _ n _ _=>n
def b:Va→Tx| .mk _ _ _ b _=>b
def kids:Va→List Va| .mk _ _ _ _ k=>k
mutual
def d:Va→D
 | .mk nl i n b ks=> .agg [.bool nl,.int .i64 i,.int .i64 n,txt b,.sl (ds ks)]
def ds:List Va→List D
 | []=>[]
 |t::r=>t.d::ds r
end
theorem ds_map:∀ l,ds l=l.map d
 | []=>rfl
 |t::r=>by rw[ds,ds_map r,List.map_cons]
mutual
def size:Va→Nat
 | .mk _ _ _ _ ks=>1+sizes ks
def sizes:List Va→Nat
 | []=>0
 |t::r=>t.size+sizes r
end
theorem d_eq:∀ t:Va,t.d= .agg [.bool t.null,.int .i64 t.i,.int .i64 t.n,txt t.b,.sl (t.kids.map d)]
 | .mk nl i n b ks=>by rw[d,ds_map];rfl
end Va
@[go_sem] theorem cells_ty (t:Ty):t.d.cells=[.int .i64 t.kind,.sl (t.names.map D.str),.sl (t.kids.map Ty.d),.int .i64 t.len,.int .i64 t.prec,.int .i64 t.scale]:=by rw[t.d_eq];rfl
@[go_sem] theorem cells_va (v:Va):v.d.cells=[.bool v.null,.int .i64 v.i,.int .i64 v.n,txt v.b,.sl (v.kids.map Va.d)]:=by rw[v.d_eq];rfl
@[go_sem] theorem canon_ty (t:Ty):t.d.canon=t.d:=by rw[t.d_eq];rfl
@[go_sem] theorem canon_va (v:Va):v.d.canon=v.d:=by rw[v.d_eq];rfl
@[go_sem] theorem canA_ty (t:Ty):t.d.canA=t.d:=by rw[t.d_eq];rfl
@[go_sem] theorem canA_va (v:Va):v.d.canA=v.d:=by rw[v.d_eq];rfl
@[go_sem] theorem storable_ty (t:Ty):t.d.storable=true:=by rw[t.d_eq];rfl
@[go_sem] theorem storable_va (v:Va):v.d.storable=true:=by rw[v.d_eq];rfl
@[go_sem] theorem asD_ty (t:Ty):V.asD (.d t.d)=some t.d:=by rw[t.d_eq];rfl
@[go_sem] theorem asD_va (v:Va):V.asD (.d v.d)=some v.d:=by rw[v.d_eq];rfl
@[go_sem high] theorem ld_ty (t:Ty):ldD (some 6) t.d 0=some t.d:=by rw[t.d_eq];rfl
@[go_sem high] theorem ld_va (v:Va):ldD (some 5) v.d 0=some v.d:=by rw[v.d_eq];rfl
@[go_sem] theorem fldV_ty (k off:Nat) (z:Option Nat) (t:Ty):fldV k off z (.d t.d)=(ldD z t.d off).map fun r=>[(.slot k,.d r)]:=by rw[t.d_eq];rfl
@[go_sem] theorem fldV_va (k off:Nat) (z:Option Nat) (v:Va):fldV k off z (.d v.d)=(ldD z v.d off).map fun r=>[(.slot k,.d r)]:=by rw[v.d_eq];rfl
@[go_sem] theorem isCell_txt (b:Tx):(txt b).isCell=true:=rfl
end Go.Ev
namespace Go.Ev
open Go Go.RowKit
theorem sc:∀ {es:List D} {l:List Tx},ph es=some l→es=l.map D.str
 | [],l,h=>by cases h;rfl
 | e::es,l,h=>by
  unfold ph at h;split at h
  · rename_i he;cases he
  · rename_i b r he
    cases he;simp only[yw] at h;obtain⟨l',h2,rfl⟩:=h;rw[List.map_cons,← sc h2]
  · cases h
section
variable {F:Nat→Prop} {w:World}
theorem Rd.strs_at {v:Value} {l:List Tx} (h:Rd F w v (.sl (l.map D.str))):(l=[]∧∃ ad cap,v= .slice ad 0 cap)∨(l≠[]∧∃ b o cap,v= .slice (some (ad3 b o)) l.length cap∧l.length≤cap∧b<w.heap.size∧∀ (j:Nat) x,l[j]? =some x→w.cell? (ad3 b (o+j))=some (.string ⟨x.toArray⟩)):=by
 generalize hd:l.map D.str=es at h;cases h with
 |slA ad cap=>exact .inl ⟨by simpa using hd,ad,cap,rfl⟩
 | sl b o len cap z es vs hlen hcap hz hc hm hr=>
  subst hd;rw[yz] at hlen;subst hlen;cases l with
  |nil=>exact .inl ⟨rfl,_,_,rfl⟩
  | cons y r=>
   have hz1:z=1:=(hz (.str y) yt).symm;subst hz1;have hcell:∀ (j:Nat) x,(y::r)[j]? =some x→w.cell? (ad3 b (o+j))=some (.string ⟨x.toArray⟩):=fun j x hj=>by
    have he:((y::r).map D.str)[j]? =some (.str x):=by rw[zg,hj];rfl
    have h1:=hm j _ he 0 (.str x) rfl;have h2:=hr j _ he 0 (.str x) rfl;have h3:vs j 0= .string ⟨x.toArray⟩:=h2.str_inv;rw[h3] at h1;simpa using h1.2
   refine .inr ⟨by simp,b,o,cap,rfl,hcap,?_,hcell⟩
   have:=World.block_lt_of_cell? _ _ (hcell 0 y rfl);simpa using this
end
variable {P:Program} {cfg:Cfg} {f:FuncId} {fn:Func} {c:Code} (hf:P.funcs[f]? =some fn) (hname:(fn.name=="runtime.NumGoroutine")=false) (hb:fn.body=some c)
include hf hname hb
theorem ait (h0:∀ (a:Option Addr) (c:Nat) (w:World),Calls P f #[.slice a 0 c] w fun e w'=>e= .returned (.bool true)∧Below w.heap.size w w')
   (h:∀ (b o c:Nat) (l:List Tx) (w:World),l.length≤1000000→l.length≤c→b<w.heap.size→(∀ (j:Nat) x,l[j]? =some x→w.cell? ⟨b,o+j,none⟩=some (.string ⟨x.toArray⟩))→
     Calls P f #[.slice (some ⟨b,o,none⟩) l.length c] w fun e w'=>e= .returned (.bool (fe [] l))∧Below w.heap.size w w'):Gives P cfg f ajx:=by
 refine gives_of_calls hf hname hb fun ds r hr=> ?_
 unfold ajx at hr;split at hr
 · rename_i es
   simp only[y8] at hr;obtain⟨l,hl,hr⟩:=hr;split at hr
   · rename_i hn
     cases hr;refine⟨_,rfl,rfl,fun F args w h1 h2 h4=> ?_⟩
     obtain⟨v,rfl,hv⟩:=o6 h1 h2;rw[sc hl] at hv;rcases hv.strs_at with⟨rfl,ad,cap,rfl⟩|⟨hne,b,o,cap,rfl,hcap,hblk,hcell⟩
     · exact(h0 ad cap w).mono fun e w' ⟨e1,e2⟩=>⟨_,e1,.bool _,e2⟩
     · exact(h b o cap l w hn hcap hblk hcell).mono fun e w' ⟨e1,e2⟩=>⟨_,e1,.bool _,e2⟩
   · cases hr
 · cases hr
end Go.Ev
namespace Go.Ev
open Go
structure AF where
 f:FuncId
 F:Func
 ad:Advice
def autoL (P:Program):List AF→FuncId→Option IFunc
 | [],_=>none
 |a::r,f=>if a.f=f then cFunc P a.ad a.F else autoL P r f
def AOk (P:Program) (a:AF):Prop:=P.funcs[a.f]? =some a.F∧(a.F.name=="runtime.NumGoroutine")=false
def ATab (P:Program) (l:List AF):Prop:=∀ a∈l,AOk P a
theorem ATab.nil {P:Program}:ATab P []:=fun _ h=>by cases h
theorem ATab.cons {P:Program} {f:FuncId} {F:Func} {ad:Advice} {l:List AF} (h:P.funcs[f]? =some F) (hn:(F.name=="runtime.NumGoroutine")=false) (hl:ATab P l):ATab P (⟨f,F,ad⟩::l):=fun q hq=>by
 rcases zr.1 hq with rfl|hq
 · exact⟨h,hn⟩
 · exact hl q hq
theorem au8 {P:Program}:∀ {l:List AF},ATab P l→∀ {f:FuncId} {fn:IFunc},autoL P l f=some fn→∃ F ad c,P.funcs[f]? =some F∧(F.name=="runtime.NumGoroutine")=false∧F.body=some c∧cFunc P ad F=some fn
 | [],_,_,_,h=>by cases h
 | a::l,hl,f,fn,h=>by
  unfold autoL at h;split at h
  · rename_i e
    obtain⟨h1,h2⟩:=hl a yt;subst e;cases hb:a.F.body with
    |none=>unfold cFunc at h;rw[hb] at h;cases h
    |some c=>exact⟨a.F,a.ad,c,h1,h2,hb,h⟩
  · exact au8 (fun q hq=>hl q (zq _ hq)) h
def fnsOf (P:Program) (tbl:List (FuncId×IFunc)) (tab:List AF) (f:FuncId):Option IFunc:=match lk tbl f with
 |some fn=>some fn
 |none=>autoL P tab f
def xSeq (g:FuncId):List D→Option V
 | [.sl es]=>some (.clo g [] [.d (.ptr (.sl es))])
 |_=>none
def xSeqN (g:FuncId):List D→Option V
 | [.sl es,.int .i64 n]=>if 1≤n then some (.clo g [] [.d (.ptr (.sl es)),.d (.ptr (.int .i64 n))]) else none
 |_=>none
def b5:Nat→Nat→List D→List (List D)
 |0,_,_=>[]
 |_,_,[]=>[]
 |k+1,n,x::r=>[.sl ((x::r).take n)]::b5 k n ((x::r).drop n)
def kidAt:Nat→List Ty→List Nat
 |_,[]=>[]
 |i,k::r=>i::kidAt (i+k.size) r
mutual
def flatR (i:Nat) (parent deep:Int):Ty→List (Ty×List Nat×Int×Int)
 | .mk k ns ks l p s=>(.mk k ns ks l p s,kidAt (i+1) ks,parent,deep)::flatRs (i+1) i (deep+1) ks
def flatRs (i parent:Nat) (deep:Int):List Ty→List (Ty×List Nat×Int×Int)
 | []=>[]
 |k::r=>flatR i parent deep k++flatRs (i+k.size) parent deep r
end
end Go.Ev
namespace Go.Ev
open Go
abbrev a82 (k a:Nat):IOper:=oo k (.mv (.t a))
abbrev a88 (k a:Nat):IOper:=oo k (.asg (.t a))
abbrev a80 (k a:Nat):IOper:=oo k (.load none (.t a))
abbrev a8s (k i a:Nat):IOper:=oo k (.fieldA i (.t a))
abbrev a89 (k a i:Nat):IOper:=oo k (.ext (.t a) i)
abbrev a8q (k:Nat) (o:BinOp) (a b:Nat):IOper:=oo k (.bin o (.t a) (.t b))
abbrev a8p (k:Nat) (o:BinOp) (a:Nat) (b:Int):IOper:=oo k (.bin o (.t a) (ci b))
abbrev a8o (k:Nat) (n:Int):IOper:=oo k (.asg (ci n))
abbrev a8u (k j:Nat) (b:Bool) (a:Nat):IOper:=og k j b (.mv (.t a))
abbrev a86 (k a b:Nat):IOper:=oo k (.pick (.t a) (.c (.bool true)) (.t b))
abbrev a85 (k a b:Nat):IOper:=oo k (.pick (.t a) (.t b) (.c (.bool false)))
abbrev a8n (k:Nat) (b:Bool):IOper:=oo k (.asg (.c (.bool b)))
abbrev a84 (k a:Nat):IOper:=oo k (.un .not (.t a))
abbrev a81 (k z a:Nat):IOper:=oo k (.load (some z) (.t a))
abbrev a8z (k:Nat) (b:Bool) (a:Nat):IOper:=oo k (.len b (.t a))
abbrev a83 (k a:Nat):IOper:=oo k (.nilck (.t a))
abbrev a87 (n a b:Nat):IOper:=ow (.store n (.t a) (.t b))
abbrev a8x (k z a i:Nat):IOper:=oo k (.idxA z (.t a) (.t i))
def a8y:List (Nat×ICode)→List (Nat×List Nat)
 | []=>[]
 | (i,.region _ _ k)::l=>(i,k)::a8y l
 |_::l=>a8y l
def zzz (n:Nat):List ICode→List (Nat×List Nat)
 |[]=>[]
 |(.region _ _ k)::l=>(n,k)::zzz (n-1) l
 |_::l=>zzz (n-1) l
abbrev zzy (l:List (Nat×List Nat)):Advice:=⟨[],l,[],[],[],[]⟩
abbrev a8r (k:Nat) (f:FuncId) (l:List IOpd):IOper:=oo k (.call false f l)
theorem a8w {r:ICode} {o:List IOper} {k:List Nat} (h:r= .region o [] k):∀ (X:Kx) (K:List Kf) (s:St),go X (.c r::K) s=goR X o k K s:=fun _ _ _=>h ▸ go_region _ _
theorem a8t {r1 r2 r3 r4 r5 r6 r7 r8:ICode} {o1 o2 o3 o4 o5 o6 o7 o8:List IOper} {k1 k2 k3 k4 k5 k6 k7 k8:List Nat} (h1:r1= .region o1 [] k1) (h2:r2= .region o2 [] k2) (h3:r3= .region o3 [] k3) (h4:r4= .region o4 [] k4) (h5:r5= .region o5 [] k5) (h6:r6= .region o6 [] k6) (h7:r7= .region o7 [] k7) (h8:r8= .region o8 [] k8):(∀ (X:Kx) (K:List Kf) (s:St),go X (.c r1::K) s=goR X o1 k1 K s)∧(∀ (X:Kx) (K:List Kf) (s:St),go X (.c r2::K) s=goR X o2 k2 K s)∧(∀ (X:Kx) (K:List Kf) (s:St),go X (.c r3::K) s=goR X o3 k3 K s)∧(∀ (X:Kx) (K:List Kf) (s:St),go X (.c r4::K) s=goR X o4 k4 K s)∧(∀ (X:Kx) (K:List Kf) (s:St),go X (.c r5::K) s=goR X o5 k5 K s)∧(∀ (X:Kx) (K:List Kf) (s:St),go X (.c r6::K) s=goR X o6 k6 K s)∧(∀ (X:Kx) (K:List Kf) (s:St),go X (.c r7::K) s=goR X o7 k7 K s)∧(∀ (X:Kx) (K:List Kf) (s:St),go X (.c r8::K) s=goR X o8 k8 K s):=⟨a8w h1,a8w h2,a8w h3,a8w h4,a8w h5,a8w h6,a8w h7,a8w h8⟩
theorem a8v {r c:ICode} (h:r=c):∀ (X:Kx) (K:List Kf) (s:St),go X (.c r::K) s=go X (.c c::K) s:=fun _ _ _=>h ▸ rfl
end Go.Ev
namespace Go.Ev
attribute [go_sem_proc] Nat.reduceLeDiff Nat.reduceLT Nat.reduceAdd Int.reduceAdd Int.reduceSub Int.reduceNeg Nat.reduceEqDiff reduceCtorEq Int.reduceBEq Int.reduceBNe Nat.reduceBEq
attribute [go_sem_proc ↓] reduceIte
theorem yo {P:Prop} (h:P:=by first|omega| (simp only[go_sem,List.length_take,List.length_drop]<;>omega)|assumption|decide):P:=h
theorem yr {P:Prop} (h:P:=by kernel_rfl):P:=h
