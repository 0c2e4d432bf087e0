import Derived.Calls
import Derived.Laws.Cells
import Derived.Laws.Append
import Derived.Laws.IdiomCopy
namespace Go.Ev
open Go
theorem abu {P:Prop} (h:P:=by omega):P:=h
theorem abw {P:Prop} (h:P:=by simp):P:=h
theorem abx {P:Prop} (h:P:=by decide):P:=h
abbrev aby:= @List.length_map
abbrev abz:= @Option.map_eq_some_iff
abbrev ab0:= @List.getElem?_eq_getElem
abbrev ab1:= @List.getElem?_eq_some_iff
abbrev ab2:= @Bool.eq_false_or_eq_true
abbrev ab3:= @decide_eq_false_iff_not
abbrev ab4:= @decide_eq_true_eq
abbrev ab5:= @Nat.le_refl
abbrev ab6:= @beq_eq_false_iff_ne
abbrev ab7:= @Option.bind_eq_some_iff
abbrev aca:= @Bool.and_eq_true
abbrev acb:= @Bool.false_eq_true
abbrev acd:= @Bool.not_eq_true'
abbrev ace:= @Bool.not_eq_false'
abbrev acf:= @List.getElem?_map
abbrev acg:= @beq_iff_eq
abbrev ach:= @List.mem_cons
abbrev aci:= @List.length_append
abbrev acj:= @Bool.not_eq_false
abbrev ack:= @Bool.not_eq_true
abbrev acl:= @Option.isSome_iff_exists
abbrev acm:= @Array.getElem?_eq_getElem
abbrev acn:= @List.mem_cons_of_mem
abbrev aco:= @Nat.zero_le
abbrev act:= @Array.getElem?_eq_some_iff
abbrev acu:= @Bool.or_eq_true
abbrev acv:= @List.mem_singleton
abbrev acw:= @List.eq_nil_of_length_eq_zero
abbrev acx:= @List.getElem?_of_mem
abbrev acy:= @List.mem_flatMap
abbrev acz:= @List.mem_append
abbrev ac0:= @Nat.mul_le_mul_right
abbrev ac1:= @Nat.lt_of_lt_of_le
abbrev ac2:= @not_true_eq_false
abbrev ac3:= @Bool.or_eq_false_iff
abbrev ac4:= @List.append_assoc
abbrev ac5:= @Bool.and_eq_false_iff
abbrev ac6:= @Nat.add_mul
abbrev ac7:= @Nat.le_trans
abbrev ac8:= @not_false_eq_true
abbrev ac9:= @Bool.not_eq_eq_eq_not
abbrev ada:= @List.getElem?_append_left
abbrev adb:= @Bool.not_false
abbrev adc:= @List.mem_of_mem_drop
abbrev ade:= @List.mem_of_mem_take
abbrev adf:= @Bool.true_eq_false
abbrev adg:= @Bool.eq_iff_iff
abbrev adh:= @List.mem_or_eq_of_mem_set
abbrev adi:= @List.mem_append_right
abbrev adj:= @Bool.not_true
abbrev adk:= @List.not_mem_nil
abbrev adl:= @List.mem_map
abbrev adm:= @List.drop_eq_getElem_cons
abbrev adn:= @List.all_eq_true
abbrev ado:= @List.length_drop
abbrev adp:= @List.length_take
abbrev adq:= @Nat.le_max_left
abbrev adr:= @List.mem_replicate
abbrev ads:= @Nat.mod_eq_of_lt
abbrev adv:= @Int.toNat_natCast
abbrev adw:= @List.take_of_length_le
abbrev adz:= @List.getElem?_eq_none
abbrev ad0:= @List.mem_range
end Go.Ev
namespace Go.Ev
inductive D where
 |bool (b:Bool)
 |int (k:IntKind) (n:Int)
 |str (s:List UInt8)
 |AL|Bs|Be|CU|Dn
 |sl (es:List D)
 |agg (cs:List D)
 |ptr (e:D)
 |ifc (t:TypeId) (d:D)
 |fn (f:FuncId)
 |tup (ds:List D)
 |unk
 |Cy
 deriving Inhabited
def D.cells:D→List D
 | .agg cs=>cs
 |d=>[d]
def D.AP:D→Bool
 | .agg _| .tup _=>false
 |_=>true
def D.storable:D→Bool
 | .tup _=>false
 |_=>true
structure Cel where
 d:Nat
 k:Nat
 off:Nat
 deriving DecidableEq
inductive Loc where
 |slot (k:Nat)
 |cell (c:Cel)
 deriving DecidableEq
inductive V where
 |d (x:D)
 |own (new:Bool) (z:Nat) (es:List D)
 |bor (l:Loc) (off len:Nat)
 |Am (l:Loc) (i off:Nat)
 |Af (e:D) (off:Nat)
 |ref (d k off:Nat)
 |clo (f:FuncId) (first captured:List V)
 |ifc (t:TypeId) (v:V)
 |vec (ys:List V)
 |BB (y:V)
 |rcd (ys:List V)
 |AM
 deriving Inhabited
inductive AB where
 |t (k:Nat)
 |c (x:D)
 |g (n:Nat)
inductive QO where
 |bool|ptr|func|iface
 |FH
 |agg (ks:List Nat)
inductive IOp where
 |mv (x:AB)
 |asg (x:AB)
 |pick (c a b:AB)
 |alloc (zs:List D)
 |box (n:Nat) (x:AB)
 |build (zs:List D) (ps:List (Nat×Nat×AB))
 |Vz (n:Nat) (ps:List (Nat×Nat×AB))
 |lit (own:Bool) (z n:Nat) (zd:D) (ps:List (Nat×AB))
 |load (z:Option Nat) (a:AB)
 |store (n:Nat) (a x:AB)
 |FC (x:AB)
 |bin (op:BinOp) (x y:AB)
 |eqn (neg:Bool) (cls:QO) (x y:AB)
 |isNil (neg:Bool) (x:AB)
 |un (op:UnOp) (x:AB)
 |Aj (k:IntKind) (x:AB)
 |aR (x:AB)
 |b2s (x:AB)
 |s2b (own:Bool) (x:AB)
 |cvB (own:Bool) (x:AB)
 |mkI (t:TypeId) (x:AB)
 |mkF (f:FuncId) (first captured:List AB)
 |mkS (z bytes:Nat) (zd:D) (len cap:AB)
 |slice (z:Nat) (x:AB) (lo hi mx:Option AB)
 |GA (x:AB) (lo hi:Option AB)
 |AV (off:Nat) (x:AB)
 |field (off:Nat) (z:Option Nat) (x:AB)
 |Ch (z:Nat) (x i:AB)
 |P1 (x i:AB)
 |idxC (n z:Nat) (g:Bool) (x i:AB)
 |Fw (n z:Nat) (x i:AB)
 |ext (x:AB) (i:Nat)
 |len (isS:Bool) (x:AB)
 |B2 (mx:Bool) (xs:List AB)
 |append (z bytes:Nat) (x y:AB)
 |Ql (x y:AB)
 |copy (z:Nat) (x y:AB)
 |tass (t:TypeId) (zero:D) (ok:Bool) (x:AB)
 |call (own:Bool) (f:FuncId) (args:List AB)
 |Cr (own:Bool) (f:FuncId) (args:List AB) (i:Nat)
 |CD (own:Bool) (x:AB) (args:List AB)
 |inv (own:Bool) (x:AB) (name:String) (args:List AB)
 |bad
structure AS where
 dst:Option Nat
 guard:Option (Nat×Bool)
 op:IOp
inductive AA where
 |skip
 |region (ops:List AS) (unord:List (Nat×Nat)) (Ac:List Nat)
 |seq (a b:AA)
 |cond (x:AB) (a b:AA)
 |block (id:Nat) (b:AA)
 |loop (b:AA)
 |each (x:AB) (ps:List Nat) (a b:AA)
 |exit (id:Nat)
 |ret
 |BV (ls:List Nat)
 |AU (ls:List Nat)
 |free (k:Nat)
 |bad
inductive Dh where
 |t (k:Nat)
 |cell (k:Nat) (z:Option Nat)
structure AN where
 arity:Nat
 results:List Dh
 body:AA
structure Cfg where
 funcs:FuncId→Option AN
 GH:TypeId→String→Option FuncId
 H3:Nat→Option D
 CV:Nat→Option (Array Value):=fun _=>none
 Gk:TypeId→Bool
 clip:FuncId→Bool
 ext:FuncId→Option (List D→Option V)
 iter:FuncId→Option (List D→Option (List (List D))):=fun _=>none
 chg:FuncId→Option (List (Nat×Nat)):=fun _=>none
section maps
variable {α:Type} [DecidableEq α] {β:Type}
def lk:List (α×β)→α→Option β
 | [],_=>none
 | (k',v)::r,k=>if k'=k then some v else lk r k
def st:List (α×β)→α→β→List (α×β)
 | [],k,v=>[(k,v)]
 | (k',v')::r,k,v=>if k'=k then(k,v)::r else(k',v')::st r k v
end maps
structure St where
 env:List (Nat×V)
 mem:List (Cel×V)
def St.get (s:St):Loc→Option V
 | .slot k=>lk s.env k
 | .cell c=>lk s.mem c
def St.set (s:St) (l:Loc) (v:V):St:=
 match l with
 | .slot k=>{s with env:=st s.env k v}
 | .cell c=>{s with mem:=st s.mem c v}
def St.upd (s:St):List (Loc×V)→St
 | []=>s
 | (l,v)::r=>(s.set l v).upd r
abbrev Get:=Loc→Option V
def bh:Nat:=2 ^ 36
def blh:Nat:=2 ^ 60
def val (cfg:Cfg) (s:Get):AB→Option V
 | .t k=>s (.slot k)
 | .c x=>some (.d x)
 | .g n=>(cfg.H3 n).map fun e=> .Af e 0
def cont (s:Get):V→Option (List D)
 | .d .AL=>some []
 | .d (.sl es)=>some es
 | .own _ _ es=>some es
 | .bor l off n=>match s l with
  |some (.own false _ es)=>some ((es.drop off).take n)
  |_=>none
 |_=>none
def D.can:D→D
 | .AL=> .sl []
 |d=>d
def D.DF:D→D
 | .agg cs=> .agg (cs.map D.can)
 |d=>d.can
def D.canon:D→D
 | .tup cs=> .tup (cs.map D.DF)
 |d=>d.DF
def V.asD:V→Option D
 | .d x=>some x.canon
 | .Af e 0=>some (.ptr e)
 |_=>none
def dat (cfg:Cfg) (s:Get) (x:AB):Option D:=(val cfg s x).bind V.asD
def Ec (cfg:Cfg) (s:Get):List AB→Option (List D)
 | []=>some []
 | x::r=>match dat cfg s x,Ec cfg s r with
  |some d,some ds=>some (d::ds)
  |_,_=>none
def AG (dst:Option Nat) (v:V):List (Loc×V):=
 match dst with
 |some k=>[(.slot k,v)]
 |none=>[]
def setCells (cs:List D) (off:Nat):List D→List D
 | []=>cs
 |x::r=>setCells (cs.set off x) (off+1) r
def EJ (cs:List D):List (Nat×Nat×D)→Option (List D)
 | []=>some cs
 | (off,size,x)::r=>
  if x.cells.length=size∧off+size≤cs.length∧x.storable then EJ (setCells cs off x.cells) r else none
def Eo (z:Nat) (es:List D):List (Nat×D)→Option (List D)
 | []=>some es
 | (i,x)::r=>if x.cells.length=z∧i<es.length∧x.storable then Eo z (es.set i x) r else none
def ldD (z:Option Nat) (e:D) (off:Nat):Option D:=
 match z with
 |none=>e.cells[off]?
 |some z=>if off+z≤e.cells.length then some (.agg ((e.cells.drop off).take z)) else none
def aw (op:BinOp) (k:IntKind) (a:Int) (k':IntKind) (b:Int):Option D:=
 match op with
 | .shl=>if b<0 then none else some (.int k (k.wrap (a*2 ^ (min b.toNat k.bits))))
 | .shr=>if b<0 then none else some (.int k (a.fdiv (2 ^ (min b.toNat k.bits))))
 | .add=>if k=k' then some (.int k (k.wrap (a+b))) else none
 | .sub=>if k=k' then some (.int k (k.wrap (a-b))) else none
 | .mul=>if k=k' then some (.int k (k.wrap (a*b))) else none
 | .quo=>if k=k'∧b≠0 then some (.int k (k.wrap (a.tdiv b))) else none
 | .rem=>if k=k'∧b≠0 then some (.int k (a.tmod b)) else none
 | .and=>if k=k' then some (.int k (k.wrap (BitVec.ofInt k.bits a &&& BitVec.ofInt k.bits b).toNat)) else none
 | .or=>if k=k' then some (.int k (k.wrap (BitVec.ofInt k.bits a ||| BitVec.ofInt k.bits b).toNat)) else none
 | .xor=>if k=k' then some (.int k (k.wrap (BitVec.ofInt k.bits a ^^^ BitVec.ofInt k.bits b).toNat)) else none
 | .andNot=>if k=k' then some (.int k (k.wrap (BitVec.ofInt k.bits a &&& ~~~ BitVec.ofInt k.bits b).toNat)) else none
 | .eql=>if k=k' then some (.bool (a==b)) else none
 | .neq=>if k=k' then some (.bool (a !=b)) else none
 | .lss=>if k=k' then some (.bool (decide (a<b))) else none
 | .leq=>if k=k' then some (.bool (decide (a≤b))) else none
 | .gtr=>if k=k' then some (.bool (decide (a>b))) else none
 | .geq=>if k=k' then some (.bool (decide (a≥b))) else none
def f6 (op:BinOp) (a b:List UInt8):Option D:=
 match op with
 | .add=>if a.length+b.length≤blh then some (.str (a++b)) else none
 | .eql=>some (.bool (a==b))
 | .neq=>some (.bool !(a==b))
 | .lss=>some (.bool (_root_.Go.Op.bytesLess a b))
 | .leq=>some (.bool (_root_.Go.Op.bytesLess a b||a==b))
 | .gtr=>some (.bool !(_root_.Go.Op.bytesLess a b||a==b))
 | .geq=>some (.bool !(_root_.Go.Op.bytesLess a b))
 |_=>none
def D.bin (op:BinOp):D→D→Option D
 | .int k a,.int k' b=>aw op k a k' b
 | .str a,.str b=>f6 op a b
 |_,_=>none
def qe:Nat→D→D→Option Bool
 |0,.int k a,.int k' b=>if k=k' then some (a==b) else none
 |1,.bool a,.bool b=>some (a==b)
 |2,.str a,.str b=>some (a==b)
 |_,_,_=>none
def dm:List Nat→List D→List D→Option Bool
 | [],[],[]=>some true
 | n::ns,a::r,b::r'=>match qe n a b,dm ns r r' with
  |some t,some t'=>some (t&&t')
  |_,_=>none
 |_,_,_=>none
def D.eqn (cfg:Cfg):QO→D→D→Option Bool
 | .bool,.bool a,.bool b=>some (a==b)
 | .ptr,.Bs,.Bs=>some true
 | .ptr,.Bs,.ptr _=>some false
 | .ptr,.ptr _,.Bs=>some false
 | .agg ks,.agg xs,.agg ys=>dm ks xs ys
 | .func,.CU,.CU=>some true
 | .func,.CU,.fn _=>some false
 | .func,.fn _,.CU=>some false
 | .iface,.Be,.ifc _ _=>some false
 | .iface,.ifc _ _,.Be=>some false
 | .iface,.ifc t a,.ifc u b=>if t≠u then some false else match a,b with
  | .int k a,.int k' b=>if cfg.Gk t∧k=k' then some (a==b) else none
  |_,_=>none
 | .FH,.Be,_=>some true
 | .FH,.ifc _ _,_=>some false
 |_,_,_=>none
def V.eqn (cfg:Cfg):QO→V→V→Option Bool
 |c,.d a,.d b=>a.eqn cfg c b
 | .ptr,.ref _ _ _,.d .Bs=>some false
 | .ptr,.Af _ _,.d .Bs=>some false
 | .ptr,.Am _ _ _,.d .Bs=>some false
 | .func,.clo _ _ _,.d .CU=>some false
 | .iface,.ifc _ _,.d .Be=>some false
 | .FH,.ifc _ _,.d .Be=>some false
 |_,_,_=>none
def mj (neg:Bool):V→Option D
 | .d .AL| .d (.sl [])=>some .Cy
 | .d (.sl (_::_))| .own _ _ _| .bor _ _ _=>some (.bool neg)
 |_=>none
def D.un (op:UnOp):D→Option D
 | .int k n=>match op with
  | .neg=>some (.int k (k.wrap (0-n)))
  | .xor=>some (.int k (k.wrap (BitVec.ofInt k.bits (if k.signed then -1 else k.max) ^^^ BitVec.ofInt k.bits n).toNat))
  |_=>none
 | .bool b=>match op with
  | .not=>some (.bool !b)
  |_=>none
 |_=>none
def D.byte? :D→Option UInt8
 | .int .u8 n=>some (UInt8.ofNat n.toNat)
 |_=>none
def b7:List D→Option (List UInt8)
 | []=>some []
 | x::r=>match x.byte?,b7 r with
  |some b,some bs=>some (b::bs)
  |_,_=>none
def AD (b:UInt8):D:= .int .u8 b.toNat
def D.toInt? :D→Option Int
 | .int _ n=>some n
 |_=>none
def minD (mx:Bool):List D→Option D
 | []=>none
 | .int k a::r=>go k a r
 |_=>none
where
 go (k:IntKind) (a:Int):List D→Option D
  | []=>some (.int k a)
  | .int _ b::r=>go k (if mx then(if b>a then b else a) else(if b<a then b else a)) r
  |_=>none
def bf (cfg:Cfg) (s:Get) (len:Nat) (lo hi:Option AB):Option (Nat×Nat):=
 let h? :Option Nat:=match hi with
  |none=>some len
  | some x=>match(dat cfg s x).bind D.toInt? with
   |some n=>if 0≤n∧n≤len then some n.toNat else none
   |none=>none
 match h? with
 |none=>none
 | some h=>match lo with
  |none=>some (0,h)
  | some x=>match(dat cfg s x).bind D.toInt? with
   |some n=>if 0≤n∧n≤h then some (n.toNat,h) else none
   |none=>none
end Go.Ev
namespace Go.Ev
def B5 (z:Nat):List D→Bool
 | []=>true
 |e::r=>e.cells.length==z&&B5 z r
def BK (cfg:Cfg) (s:Get):List AB→Option (List V)
 | []=>some []
 | x::r=>match val cfg s x,BK cfg s r with
  |some v,some vs=>some (v::vs)
  |_,_=>none
def df (dep k:Nat):Nat→List V→List (Loc×V)
 |_,[]=>[]
 |off,v::r=>(.cell ⟨dep,k,off⟩,v)::df dep k (off+1) r
def c9 (s:Get) (d k off:Nat):Nat→Option (List D×List (Loc×V))
 |0=>some ([],[])
 | n+1=>match s (.cell ⟨d,k,off⟩),c9 s d k (off+1) n with
  |some (.d x),some (r,u)=>if x.AP then some (x.can::r,u) else none
  |some (.Af e 0),some (r,u)=>some (.ptr e::r,u)
  |some (.own _ _ es),some (r,u)=>some (.sl es::r,(.cell ⟨d,k,off⟩,.d (.sl es))::u)
  |_,_=>none
def alive (s:Get) (d k off:Nat):Nat→Bool
 |0=>true
 |n+1=>(s (.cell ⟨d,k,off⟩)).isSome&&alive s d k (off+1) n
def de (cfg:Cfg) (s:Get):List (Nat×Nat×AB)→Option (List (Nat×Nat×D))
 | []=>some []
 | (o,n,x)::r=>match dat cfg s x,de cfg s r with
  |some d,some ds=>some ((o,n,d)::ds)
  |_,_=>none
def f7 (cfg:Cfg) (s:Get):List (Nat×AB)→Option (List (Nat×D))
 | []=>some []
 | (i,x)::r=>match dat cfg s x,f7 cfg s r with
  |some d,some ds=>some ((i,d)::ds)
  |_,_=>none
def V.AZ:V→Bool
 | .d _| .Af _ _| .ref _ _ _| .clo _ _ _| .ifc _ _=>true
 |_=>false
def Dr (dst:Option Nat) (x:AB) (v:V):Option (List (Loc×V)):=
 match x,v with
 | .t k,.own false _ es=>some (AG dst (.bor (.slot k) 0 es.length))
 | .t k,.own true z es=>some (AG dst (.own true z es)++[(.slot k,.AM)])
 |_,.rcd _=>none
 |_,v=>some (AG dst v)
def Cz (s:Get) (dst:Option Nat) (x:AB) (v:V):Option (List (Loc×V)):=
 match x,v with
 | .t k,.own _ z es=>some (AG dst (.own true z es)++[(.slot k,.AM)])
 | _,.bor l off n=>match s l with
  |some (.own false z es)=>if off=0∧n=es.length then
   (if dst.map Loc.slot=some l then some [(l,.own true z es)] else some (AG dst (.own true z es)++[(l,.AM)])) else none
  |_=>none
 |_,.Am _ _ _=>none
 |_,.rcd _=>none
 |_,v=>some (AG dst v)
def Ep (dep:Nat) (s:Get) (k n:Nat) (v:V):Option (List (Loc×V)):=
 if(s (.cell ⟨dep,k,0⟩)).isSome then none else
 match v with
 | .d y=>if y.cells.length=n∧n≠0∧y.storable then some ((.slot k,.ref dep k 0)::df dep k 0 (y.cells.map .d)) else none
 |v=>if n=1∧v.AZ then some [(.slot k,.ref dep k 0),(.cell ⟨dep,k,0⟩,v)] else none
def ea (s:Get) (dst:Option Nat) (z:Option Nat) (v:V):Option (List (Loc×V)):=
 match v with
 | .Af e off=>(ldD z e off).map fun x=>AG dst (.d x)
 | .d (.ptr e)=>(ldD z e 0).map fun x=>AG dst (.d x)
 | .Am l i off=>match s l with
  |some (.own false _ es)=>(es[i]?).bind fun e=>(ldD z e off).map fun x=>AG dst (.d x)
  |_=>none
 | .BB y=>match z with
  |none=>if y.AZ then some (AG dst y) else none
  |some _=>none
 | .ref d k off=>match z with
  | none=>match s (.cell ⟨d,k,off⟩) with
   |some (.own false _ es)=>some (AG dst (.bor (.cell ⟨d,k,off⟩) 0 es.length))
   |some v=>if v.AZ then some (AG dst v) else none
   |none=>none
  |some n=>(c9 s d k off n).map fun(cs,u)=>u++AG dst (.d (.agg cs))
 |_=>none
def D.setAt (e:D) (off:Nat) (cs:List D):Option D:=
 if off+cs.length≤e.cells.length then
  match e with
  | .agg es=>some (.agg (setCells es off cs))
  | _=>match cs with
   | []=>some e
   |c::_=>if c.cells.length=1 then some c else none
 else none
def AK (s:Get):List (Loc×V)→Get
 | []=>s
 | (l,v)::r=>AK (fun l'=>if l'=l then some v else s l') r
def CJ (cfg:Cfg) (k:Nat):Get→Nat→List (Nat×Nat×AB)→Option (List V×List (Loc×V))
 |_,_,[]=>some ([],[])
 |s,i,(o,n,x)::r=>if o=i∧n=1 then
   match x,val cfg s x with
   | .t j,some (.own _ z es)=>if j=k then none else(CJ cfg k (AK s [(.slot j,.AM)]) (i+1) r).map fun p=>(.own true z es::p.1,(.slot j,.AM)::p.2)
   |_,some (.d y)=>if y.AP then(CJ cfg k s (i+1) r).map fun p=>(.d y.can::p.1,p.2) else none
   |_,_=>none
  else none
def gm (d k:Nat):Nat→List V→Option (List (Loc×V))
 |_,[]=>some []
 |off,.d y::r=>if y.AP then(gm d k (off+1) r).map fun u=>(.cell ⟨d,k,off⟩,.d y)::u else none
 |off,.own _ z es::r=>(gm d k (off+1) r).map fun u=>(.cell ⟨d,k,off⟩,.own true z es)::u
 |_,_::_=>none
def bz (s:Get) (n:Nat) (a:V) (x:AB) (v:V):Option (List (Loc×V)):=
 match a with
 | .ref d k off=>
  if alive s d k off n then
   match x,v with
   | .t j,.own _ z es=>if n=1 then some [(.cell ⟨d,k,off⟩,.own true z es),(.slot j,.AM)] else none
   | .t j,.rcd ys=>if n=ys.length∧n≠0 then(gm d k off ys).map fun u=>(.slot j,.AM)::u else none
   | _,.bor l o m=>match s l with
    |some (.own false z es)=>if o=0∧m=es.length∧n=1 then
     (if Loc.cell ⟨d,k,off⟩=l then some [(l,.own true z es)] else some [(.cell ⟨d,k,off⟩,.own true z es),(l,.AM)]) else none
    |_=>none
   |_,.d y=>if y.cells.length=n∧y.storable then some (df d k off (y.cells.map .d)) else none
   |_,v=>if n=1∧v.AZ then some [(.cell ⟨d,k,off⟩,v)] else none
  else none
 | .Am l i off=>match s l,v.asD with
  |some (.own false z es),some y=>if y.cells.length=n∧y.storable then
    (es[i]?).bind fun e=>(e.setAt off y.cells).map fun e'=>[(l,.own false z (es.set i e'))] else none
  |_,_=>none
 |_=>none
def EM (dst:Option Nat) (v:V):Option (List (Loc×V)):=
 match v with
 | .d (.ptr _)| .d (.fn _)| .d (.ifc _ _)| .Af _ _| .ref _ _ _| .Am _ _ _| .clo _ _ _| .ifc _ _| .BB _=>some (AG dst v)
 |_=>none
def Ek (cfg:Cfg) (s:Get) (len:Nat):Option AB→Option Nat
 |none=>some len
 | some m=>match(dat cfg s m).bind D.toInt? with
  |some n=>if 0≤n∧n≤len then some n.toNat else none
  |none=>none
def En (z:Nat):List D→Bool
 | []=>true
 |e::_=>e.cells.length==z
def gd (cfg:Cfg) (s:Get) (dst:Option Nat) (z:Nat) (x:AB) (v:V) (lo hi mx:Option AB):Option (List (Loc×V)):=
 match cont s v with
 |none=>none
 | some es=>
  match Ek cfg s es.length mx with
  |none=>none
  | some top=>match bf cfg s top lo hi with
   |none=>none
   | some (l,h)=>if mx.isSome&&hi.isNone then none else match x,v with
    |_,.d .AL=>some (AG dst (.d .AL))
    |_,.d (.sl es)=>if En z es then some (AG dst (.d (.sl ((es.take h).drop l)))) else none
    | .t k,.own false z' _=>if z'=z then some (AG dst (.bor (.slot k) l (h-l))) else none
    | .t k,.own true z' es=>if z'=z then some (AG dst (.own true z ((es.take h).drop l))++[(.slot k,.AM)]) else none
    | _,.bor loc off _=>match s loc with
     |some (.own false z' _)=>if z'=z then some (AG dst (.bor loc (off+l) (h-l))) else none
     |_=>none
    |_,_=>none
def Br (s:Get) (dst:Option Nat) (z:Nat) (x:AB) (v:V) (n:Int):Option (List (Loc×V)):=
 if n<0 then none else
 match x,v with
 |_,.d (.sl es)=>(es[n.toNat]?).bind fun e=>if e.cells.length=z then some (AG dst (.Af e 0)) else none
 | .t k,.own false z' es=>if n.toNat<es.length∧z'=z then some (AG dst (.Am (.slot k) n.toNat 0)) else none
 | _,.bor l off len=>match s l with
  |some (.own false z' _)=>if n.toNat<len∧z'=z then some (AG dst (.Am l (off+n.toNat) 0)) else none
  |_=>none
 |_,.vec ys=>(ys[n.toNat]?).bind fun y=>if z=1 then some (AG dst (.BB y)) else none
 |_,_=>none
def fh (s:Get) (dst:Option Nat) (z bytes:Nat) (x:AB) (v:V) (ys:List D):Option (List (Loc×V)):=
 if B5 z ys&&decide (bytes≤2048) then
  match x,v with
  | _,.d .AL=>match ys with
   | []=>some (AG dst (.d .AL))
   |_=>if ys.length≤bh then some (AG dst (.own true z ys)) else none
  | _,.d (.sl es)=>match ys with
   | []=>some (AG dst (.d (.sl es)))
   |_=>none
  | .t k,.own _ z' es=>if z'=z∧es.length+ys.length≤bh then some (AG dst (.own true z (es++ys))++[(.slot k,.AM)]) else none
  | _,.bor l off n=>match s l with
   |some (.own false z' es)=>if off=0∧n≤es.length∧z'=z∧n+ys.length≤bh then
    some (AG dst (.own true z (es.take n++ys))++[(l,.AM)]) else none
   |_=>none
  |_,_=>none
 else none
def nx (s:Get) (dst:Option Nat) (z:Nat) (x:AB) (v:V) (ys:List D):Option (List (Loc×V)):=
 if B5 z ys then
  let go (l:Loc) (off n:Nat):Option (List (Loc×V)):=match s l with
   |some (.own false z' es)=>if z'=z∧off+n≤es.length then
    some ((l,.own false z (es.take off++ys.take n++es.drop (off+min n ys.length)))::AG dst (.d (.int .i64 (min n ys.length:Nat)))) else none
   |_=>none
  match x,v with
  | .t k,.own false _ es=>go (.slot k) 0 es.length
  |_,.bor l off n=>go l off n
  |_,_=>none
 else none
def bmh (dst:Option Nat) (t:TypeId) (zero:D) (ok:Bool) (v:V):Option (List (Loc×V)):=
 match v with
 | .d (.ifc u x)=>
  if u=t then some (AG dst (.d (if ok then .tup [x,.bool true] else x)))
  else if ok then some (AG dst (.d (.tup [zero,.bool false]))) else none
 | .d .Be=>if ok then some (AG dst (.d (.tup [zero,.bool false]))) else none
 |_=>none
def dc (cfg:Cfg) (s:Get):Nat→List (Nat×AB)→Option (List V)
 |_,[]=>some []
 | i,(j,x)::r=>match val cfg s x with
  |some (.ref d k o)=>if j=i then(dc cfg s (i+1) r).map (.ref d k o:: ·) else none
  |_=>none
def H6 (cfg:Cfg) (s:Get) (dst:Option Nat) (z n:Nat) (ps:List (Nat×AB)):Option (List (Loc×V)):=
 match dc cfg s 0 ps with
 |some (y::ys)=>if z=1∧n=(y::ys).length then some (AG dst (.vec (y::ys))) else none
 |_=>none
def Al (cfg:Cfg) (dep:Nat) (s:Get) (dst:Option Nat):IOp→Option (List (Loc×V))
 | .mv x=>(val cfg s x).bind fun v=>Dr dst x v
 | .asg x=>(val cfg s x).bind fun v=>Cz s dst x v
 | .pick c a b=>match val cfg s c with
  | some (.d (.bool t))=>match val cfg s (if t then a else b) with
   |some (.d x)=>some (AG dst (.d x))
   |_=>none
  |_=>none
 | .alloc zs=>match dst with
  | some k=>if(s (.cell ⟨dep,k,0⟩)).isSome||zs.isEmpty then none
   else some ((.slot k,.ref dep k 0)::df dep k 0 (zs.map .d))
  |none=>none
 | .box n x=>match dst,val cfg s x with
  |some k,some v=>Ep dep s k n v
  |_,_=>none
 | .build zs ps=>(de cfg s ps).bind fun l=>(EJ zs l).map fun cs=>AG dst (.d (.agg cs))
 | .lit own z n zd ps=>match H6 cfg s dst z n ps with
  |some u=>some u
  | none=>(f7 cfg s ps).bind fun l=>
   if zd.cells.length=z∧n≤1000∧zd.storable then
    (Eo z (List.replicate n zd) l).map fun es=>AG dst (if n=0 then .d .AL else if own then .own true z es else .d (.sl es)) else none
 | .load z a=>(val cfg s a).bind fun v=>ea s dst z v
 | .store n a x=>match val cfg s a,val cfg s x with
  |some a,some v=>if dst.isSome then none else bz s n a x v
  |_,_=>none
 | .FC x=>(val cfg s x).bind fun v=>EM dst v
 | .bin op x y=>match val cfg s x,val cfg s y with
  |some (.d a),some (.d b)=>(D.bin op a b).map fun r=>AG dst (.d r)
  |_,_=>none
 | .eqn neg c x y=>match val cfg s x,val cfg s y with
  |some a,some b=>(V.eqn cfg c a b).map fun r=>AG dst (.d (.bool (if neg then !r else r)))
  |_,_=>none
 | .isNil neg x=>(val cfg s x).bind fun v=>(mj neg v).map fun r=>AG dst (.d r)
 | .un op x=>match val cfg s x with
  |some (.d a)=>(D.un op a).map fun r=>AG dst (.d r)
  |_=>none
 | .Aj k x=>match val cfg s x with
  |some (.d (.int _ n))=>some (AG dst (.d (.int k (k.wrap n))))
  |_=>none
 | .b2s x=>((val cfg s x).bind (cont s)).bind fun es=>(b7 es).map fun b=>AG dst (.d (.str b))
 | .s2b own x=>match val cfg s x with
  |some (.d (.str b))=>if b.length≤bh then some (AG dst (if own then .own true 1 (b.map AD) else .d (.sl (b.map AD)))) else none
  |_=>none
 | .cvB own x=>match x,val cfg s x with
  | .t k,some (.own _ z es)=>some (AG dst (if own then .own true z es else .d (.sl es))++[(.slot k,.AM)])
  |_,_=>none
 | .mkI t x=>match val cfg s x with
  |some (.d a)=>some (AG dst (.d (.ifc t a.canon)))
  |some (.ref d k off)=>some (AG dst (.ifc t (.ref d k off)))
  |some (.Af e 0)=>some (AG dst (.d (.ifc t (.ptr e))))
  |_=>none
 | .mkF f a b=>match BK cfg s a,BK cfg s b with
  |some [],some []=>some (AG dst (.d (.fn f)))
  |some xs,some ys=>if xs.all V.AZ&&ys.all V.AZ then some (AG dst (.clo f xs ys)) else none
  |_,_=>none
 | .mkS z bytes zd l c=>match(dat cfg s l).bind D.toInt?,(dat cfg s c).bind D.toInt? with
  |some n,some m=>if 0≤n∧n≤m∧m≤bh∧bytes≤2048∧zd.cells.length=z∧zd.storable then some (AG dst (.own true z (List.replicate n.toNat zd))) else none
  |_,_=>none
 | .slice z x lo hi mx=>(val cfg s x).bind fun v=>gd cfg s dst z x v lo hi mx
 | .GA x lo hi=>match val cfg s x with
  |some (.d (.str b))=>(bf cfg s b.length lo hi).map fun(l,h)=>AG dst (.d (.str ((b.take h).drop l)))
  |_=>none
 | .AV off x=>match val cfg s x with
  |some (.ref d k o)=>some (AG dst (.ref d k (o+off)))
  |some (.Am l i o)=>some (AG dst (.Am l i (o+off)))
  |some (.Af e o)=>some (AG dst (.Af e (o+off)))
  |some (.d (.ptr e))=>some (AG dst (.Af e off))
  |_=>none
 | .field off z x=>match val cfg s x with
  |some (.d (.agg cs))=>(ldD z (.agg cs) off).map fun r=>AG dst (.d r)
  |_=>none
 | .Ch z x i=>match val cfg s x,(dat cfg s i).bind D.toInt? with
  |some v,some n=>Br s dst z x v n
  |_,_=>none
 | .P1 x i=>match val cfg s x,(dat cfg s i).bind D.toInt? with
  |some (.d (.str b)),some n=>if n<0 then none else(b[n.toNat]?).map fun c=>AG dst (.d (AD c))
  |_,_=>none
 | .Fw n z x i=>match val cfg s x,(dat cfg s i).bind D.toInt? with
  |some v,some j=>if 0≤j∧j<n then match v with
    | .ref d k o=>some (AG dst (.ref d k (o+j.toNat*z)))
    | .Am l i o=>some (AG dst (.Am l i (o+j.toNat*z)))
    | .Af e o=>some (AG dst (.Af e (o+j.toNat*z)))
    | .d (.ptr e)=>some (AG dst (.Af e (j.toNat*z)))
    |_=>none else none
  |_,_=>none
 | .ext x i=>match val cfg s x with
  |some (.d (.tup ds))=>(ds[i]?).map fun r=>AG dst (.d r)
  |_=>none
 | .len true x=>match val cfg s x with
  |some (.d (.str b))=>some (AG dst (.d (.int .i64 b.length)))
  |_=>none
 | .len false x=>match val cfg s x with
  | some v=>match v with
   | .d .AL=>some (AG dst (.d (.int .i64 0)))
   | .d (.sl es)=>some (AG dst (.d (.int .i64 es.length)))
   | .own _ _ es=>some (AG dst (.d (.int .i64 es.length)))
   | .bor _ _ n=>some (AG dst (.d (.int .i64 n)))
   | .vec ys=>some (AG dst (.d (.int .i64 ys.length)))
   |_=>none
  |none=>none
 | .B2 mx xs=>(Ec cfg s xs).bind fun l=>(minD mx l).map fun r=>AG dst (.d r)
 | .append z bytes x y=>match val cfg s x,(val cfg s y).bind (cont s) with
  |some v,some ys=>fh s dst z bytes x v ys
  |_,_=>none
 | .copy z x y=>match val cfg s x,(val cfg s y).bind (cont s) with
  |some v,some ys=>nx s dst z x v ys
  |_,_=>none
 |_=>none
def DG (s:Get):V→Option (D×Bool)
 | .d x=>some (x.canon,false)
 | .Af e 0=>some (.ptr e,false)
 | .own _ _ es=>some (.sl es,true)
 | .bor l off n=>match s l with
  |some (.own false _ es)=>some (.sl ((es.drop off).take n),true)
  |_=>none
 |_=>none
def BJ (s:Get):List V→Option (List D×Bool)
 | []=>some ([],false)
 | v::r=>match DG s v,BJ s r with
  |some (x,a),some (xs,b)=>some (x::xs,a||b)
  |_,_=>none
mutual
def D.plain:D→Bool
 | .tup ds=>D.CT ds
 | .agg ds=>D.CT ds
 | .ifc _ d=>d.plain
 | .sl []=>true
 | .sl _| .ptr _=>false
 |_=>true
def D.CT:List D→Bool
 | []=>true
 |d::r=>d.plain&&D.CT r
end
def target (cfg:Cfg) (s:Get):IOp→Option (Bool×FuncId×List V)
 | .call own f args=>(BK cfg s args).map fun vs=>(own,f,vs)
 | .CD own x args=>match val cfg s x,BK cfg s args with
  |some (.d (.fn f)),some vs=>some (own,f,vs)
  |some (.clo f a b),some vs=>if a.all V.AZ&&b.all V.AZ then some (own,f,a++vs++b) else none
  |_,_=>none
 |_=>none
def CH (cfg:Cfg):IOp→Option AB
 | .call _ f [x]=>if cfg.clip f then some x else none
 |_=>none
def D2 (dst:Option Nat) (x:AB) (v:V):Option (List (Loc×V)):=
 match v with
 | .d .AL| .d (.sl _)| .own _ _ _| .bor _ _ _=>Dr dst x v
 |_=>none
def B6:List V→Option (List D)
 | []=>some []
 | .d x::r=>(B6 r).map (x:: ·)
 |_=>none
def Hx (dst:Option Nat) (shared:Bool):V→Option (List (Loc×V))
 | .clo f [] b=>if shared||(B6 b).isNone then none else some (AG dst (.clo f [] b))
 |_=>none
def BC (dst:Option Nat) (own shared:Bool):V→Option (List (Loc×V))
 |V.d r=>if shared&& !r.plain then none else some (AG dst (.d (if own then r else r.canon)))
 | .own _ z es=>if shared&& !D.CT es then none else some (AG dst (if own then .own true z es else .d (.sl es)))
 |_=>none
mutual
def V.A4 (n:Nat):V→Bool
 | .d _| .own _ _ _| .AM| .Af _ _=>true
 | .ref e _ _=>decide (e<n)
 | .ifc _ v=>v.A4 n
 | .clo _ a b=>V.CA n a&&V.CA n b
 | .vec ys=>V.CA n ys
 | .BB y=>y.A4 n
 | .bor _ _ _| .Am _ _ _| .rcd _=>false
def V.CA (n:Nat):List V→Bool
 | []=>true
 |v::r=>v.A4 n&&V.CA n r
end
def IOp.Dz:IOp→Bool
 | .store _ _ _=>true
 |_=>false
def BE:IOp→Bool
 | .call _ _ _| .CD _ _ _| .inv _ _ _ _=>true
 |_=>false
def Ao (dep:Nat):List (Cel×V)→List (Cel×V)
 | []=>[]
 | (c,v)::r=>if c.d≤dep then(c,v)::Ao dep r else Ao dep r
abbrev Orc:=FuncId→Nat→List V→List (Cel×V)→Option (V×List (Cel×V))
def Ay (s:Get):Option (Nat×Bool)→Option Bool
 |none=>some true
 | some (k,b)=>match s (.slot k) with
  |some (.d (.bool t))=>some (t==b)
  |some (.d (.tup []))=>some false
  |_=>none
def Bb (AY:Orc) (s:Get) (dst:Option Nat) (own:Bool) (f:FuncId) (vs:List V):Option (List (Loc×V)):=
 match BJ s vs with
 | some (ds,shared)=>match AY f 0 (ds.map .d) [] with
  | some (r,_)=>match BC dst own shared r with
   |some u=>some u
   |none=>Hx dst shared r
  |none=>none
 |none=>none
def B3 (s:Get) (x:AB) (v:V):Option (List (Loc×V)×V):=
 match x,v with
 |_,.d .AL=>some ([],.d .AL)
 |_,.d y=>some ([],.d y.canon)
 | .t k,.own _ z es=>some ([(.slot k,.AM)],.own false z es)
 | _,.bor l off n=>match s l with
  |some (.own false z es)=>if off=0∧n≤es.length then some ([(l,.AM)],.own false z (es.take n)) else none
  |_=>none
 |_,_=>none
def C8 (cfg:Cfg) (AY:Orc) (s:Get) (dst:Option Nat) (own:Bool) (f:FuncId) (args:List AB) (i:Nat):Option (List (Loc×V)):=
 (args[i]?).bind fun x=>(val cfg s x).bind fun v=>(B3 s x v).bind fun g=>
  (BK cfg (AK s g.1) (args.set i (.c .AL))).bind fun vs=>(BJ (AK s g.1) vs).bind fun q=>
   (AY f 0 ((q.1.map .d).set i g.2) []).bind fun r=>(BC dst own q.2 r.1).map fun u=>g.1++u
def BZ (s:Get):List AB→List (Loc×V)
 | []=>[]
 | .t k::r=>match s (.slot k) with
  |some (.own _ _ es)=>(.slot k,.d (.sl es))::BZ s r
  | some (.bor l _ _)=>match s l with
   |some (.own false _ es)=>(l,.d (.sl es))::BZ s r
   |_=>BZ s r
  |_=>BZ s r
 | .c _::r=>BZ s r
 | .g _::r=>BZ s r
def CC (s:Get):List AB→List (Loc×V)
 | []=>[]
 | .t k::r=>match s (.slot k) with
  | some (.bor l off n)=>match s l with
   |some (.own false _ es)=>(.slot k,.d (.sl ((es.drop off).take n)))::CC s r
   |_=>CC s r
  |_=>CC s r
 | .c _::r=>CC s r
 | .g _::r=>CC s r
def giveUp (s:Get) (l:List AB):List (Loc×V):=BZ s l++CC s l
def gives (cfg:Cfg) (s:Get):IOp→Bool
 | .lit _ _ _ _ _=>true
 | .build _ _=>true
 | .store _ a _=>match val cfg s a with
  |some (.Am _ _ _)=>true
  |_=>false
 |_=>false
def Gw (op:IOp):List AB:=match op with
 | .lit _ _ _ _ ps=>ps.map fun p=>p.2
 | .build _ ps=>ps.map fun p=>p.2.2
 | .store _ a x=>[a,x]
 |_=>[]
def Fp (cfg:Cfg) (dep:Nat) (s:Get) (dst:Option Nat) (op:IOp):Option (List (Loc×V)):=
 if gives cfg s op then(Al cfg dep (AK s (giveUp s (Gw op))) dst op).map (giveUp s (Gw op)++ ·) else Al cfg dep s dst op
def Dq (cfg:Cfg) (AY:Orc) (dep:Nat) (s:Get) (dst:Option Nat):IOp→Option (List (Loc×V))
 | .Cr own f args i=>C8 cfg AY s dst own f args i
 |op=>Fp cfg dep s dst op
def CK (cfg:Cfg) (AY:Orc) (s:Get) (dst:Option Nat) (own:Bool) (f:FuncId) (args:List AB):Option (List (Loc×V)):=
 (BK cfg (AK s (giveUp s args)) args).bind fun vs=>(Bb AY (AK s (giveUp s args)) dst own f vs).map (giveUp s args++ ·)
def C1 (cfg:Cfg) (AY:Orc) (s:Get) (dst:Option Nat) (op:IOp) (vs:List V):Option (List (Loc×V)):=
 match op with
 | .call own f args=>match BJ s vs with
  | some (ds,true)=>match AY f 0 (ds.map .d) [] with
   |some _=>CK cfg AY s dst own f args
   |none=>none
  |_=>none
 |_=>none
def IA (cfg:Cfg) (AY:Orc) (s:Get) (dst:Option Nat) (own:Bool) (f:FuncId) (args:List AB) (vs:List V):Option (List (Loc×V)):=
 match Bb AY s dst own f vs with
 |some u=>some u
 |none=>C1 cfg AY s dst (.call own f args) vs
def V.BX (dep:Nat) (v:V):V:=
 match v with
 | .bor (.slot _) _ _=>v
 | .Am (.slot _) _ _=>v
 |v=>if v.A4 (dep+1) then v else .AM
def Ab (dep:Nat):List (Nat×V)→List (Nat×V)
 | []=>[]
 | (k,v)::r=>(k,v.BX dep)::Ab dep r
def B0 (AY:Orc) (dep:Nat) (s:St) (dst:Option Nat) (own:Bool) (f:FuncId) (vs:List V):Option St:=
 if(BJ s.get vs).isNone&&vs.all V.AZ then
  match AY f (dep+1) vs s.mem with
  | some (r,m)=>
   if(Ao dep m).all (fun p=>p.2.A4 (dep+1)) then
    match BC dst own false r with
    |some u=>some (St.upd ⟨Ab dep s.env,Ao dep m⟩ u)
    |none=>if r.A4 (dep+1)&&r.AZ then some (St.upd ⟨Ab dep s.env,Ao dep m⟩ (AG dst r)) else none
   else none
  |none=>none
 else none
def Ae (cfg:Cfg) (AY:Orc) (dep:Nat) (s:Get) (o:AS):Option (List (Loc×V)):=
 match Ay s o.guard with
 |none=>none
 |some false=>some (AG o.dst (.d (.tup [])))
 | some true=>
  if o.dst.isNone&& !o.op.Dz then none else
  if BE o.op then
   match CH cfg o.op with
   |some x=>(val cfg s x).bind fun v=>D2 o.dst x v
   | none=>match target cfg s o.op with
    | some (own,f,vs)=>match Bb AY s o.dst own f vs with
     |some u=>some u
     |none=>C1 cfg AY s o.dst o.op vs
    |none=>none
  else Dq cfg AY dep s o.dst o.op
def BN (cfg:Cfg) (AY:Orc) (dep:Nat) (s:St) (o:AS):Option St:=
 match Ay s.get o.guard with
 | some true=>
  if o.dst.isSome&&BE o.op&&(CH cfg o.op).isNone then
   match target cfg s.get o.op with
   |some (own,f,vs)=>B0 AY dep s o.dst own f vs
   |none=>none
  else none
 |_=>none
def CX (cfg:Cfg) (AY:Orc) (dep:Nat) (s:St) (o:AS):Option St:=
 match Ae cfg AY dep s.get o with
 |some u=>some (s.upd u)
 |none=>BN cfg AY dep s o
def CY (cfg:Cfg) (AY:Orc) (dep:Nat):List AS→St→Option St
 | [],s=>some s
 | o::r,s=>match CX cfg AY dep s o with
  |some s'=>CY cfg AY dep r s'
  |none=>none
def V.home (dep:Nat):V→V
 | .own _ z es=> .own false z es
 |v=>if v.A4 (dep+1) then v else .AM
def Bc (dep:Nat):List Nat→List (Nat×V)→List (Nat×V)
 | [],_=>[]
 | k::r,e=>match lk e k with
  |some v=>(k,v.home dep)::Bc dep r e
  |none=>Bc dep r e
def BG (dep:Nat):List (Cel×V)→List (Cel×V)
 | []=>[]
 | (k,v)::r=>(k,v.home dep)::BG dep r
def settle (dep:Nat) (Ac:List Nat) (s:St):St:=⟨Bc dep Ac s.env,BG dep s.mem⟩
inductive Ex where
 |normal|ret|exit (id:Nat)
def BS (k:Nat):List (Nat×V)→List (Nat×V)
 | []=>[]
 | (k',v)::r=>if k'=k then(match v with| .own _ _ es=>(k',.d (.sl es))|v=>(k',v))::r else(k',v)::BS k r
end Go.Ev
namespace Go.Ev
def IOp.operands:IOp→List AB
 | .isNil _ x=>[x]
 | .mv x| .asg x| .box _ x| .load _ x| .FC x| .un _ x| .Aj _ x| .aR x| .b2s x| .s2b _ x| .cvB _ x| .mkI _ x| .AV _ x| .field _ _ x
 | .ext x _| .len _ x| .tass _ _ _ x=>[x]
 | .pick c a b=>[c,a,b]
 | .alloc _| .bad=>[]
 | .build _ ps| .Vz _ ps=>ps.map fun p=>p.2.2
 | .lit _ _ _ _ ps=>ps.map fun p=>p.2
 | .store _ a x=>[a,x]
 | .bin _ x y| .eqn _ _ x y| .append _ _ x y| .Ql x y| .copy _ x y=>[x,y]
 | .mkF _ a b=>a++b
 | .mkS _ _ _ l c=>[l,c]
 | .slice _ x lo hi mx=>[x]++lo.toList++hi.toList++mx.toList
 | .GA x lo hi=>[x]++lo.toList++hi.toList
 | .Ch _ x i| .P1 x i| .idxC _ _ _ x i| .Fw _ _ x i=>[x,i]
 | .B2 _ xs=>xs
 | .call _ _ args=>args
 | .Cr _ _ args _=>args
 | .CD _ x args| .inv _ x _ args=>x::args
def IOp.span:IOp→Nat
 | .load z _=>z.getD 1
 | .store n _ _=>n
 |_=>0
def gp (d k off:Nat):Nat→List Loc
 |0=>[]
 |n+1=> .cell ⟨d,k,off⟩::gp d k (off+1) n
def aa (s:Get) (span:Nat):AB→List Loc
 | .t k=> .slot k::(match s (.slot k) with
  |some (.bor l _ _)=>[l]
  |some (.Am l _ _)=>[l]
  |some (.ref d j off)=>gp d j off span
  |_=>[])
 |_=>[]
def b9 (dep:Nat) (s:Get) (o:AS):List Loc:=
 (match o.guard with|some (k,_)=>[.slot k]|none=>[])++
 (match o.op,o.dst with
  | .alloc _,some k| .box _ _,some k=>[.cell ⟨dep,k,0⟩]
  |_,_=>[])++o.op.operands.flatMap (aa s o.op.span)
def Rz (a b:List Loc):Bool:=a.all fun l=> !b.contains l
mutual
def D.eqb:D→D→Bool
 | .bool a,y=>match y with| .bool b=>a==b|_=>false
 | .int k a,y=>match y with| .int k' b=>decide (k=k')&&a==b|_=>false
 | .str a,y=>match y with| .str b=>a==b|_=>false
 | .AL,y=>match y with| .AL=>true|_=>false
 | .Bs,y=>match y with| .Bs=>true|_=>false
 | .Be,y=>match y with| .Be=>true|_=>false
 | .CU,y=>match y with| .CU=>true|_=>false
 | .Dn,y=>match y with| .Dn=>true|_=>false
 | .sl a,y=>match y with| .sl b=>D.DT a b|_=>false
 | .agg a,y=>match y with| .agg b=>D.DT a b|_=>false
 | .tup a,y=>match y with| .tup b=>D.DT a b|_=>false
 | .ptr a,y=>match y with| .ptr b=>D.eqb a b|_=>false
 | .ifc t a,y=>match y with| .ifc u b=>t==u&&D.eqb a b|_=>false
 | .fn f,y=>match y with| .fn g=>f==g|_=>false
 | .unk,y=>match y with| .unk=>true|_=>false
 | .Cy,y=>match y with| .Cy=>true|_=>false
def D.DT:List D→List D→Bool
 | [],y=>match y with| []=>true|_=>false
 |a::r,y=>match y with|b::r'=>D.eqb a b&&D.DT r r'|_=>false
end
mutual
def V.eqb:V→V→Bool
 | .d a,y=>match y with| .d b=>D.eqb a b|_=>false
 | .own n z a,y=>match y with| .own n' z' b=>n==n'&&(z==z'&&D.DT a b)|_=>false
 | .Af a o,y=>match y with| .Af b o'=>D.eqb a b&&o==o'|_=>false
 | .ref e k o,y=>match y with| .ref e' k' o'=>e==e'&&(k==k'&&o==o')|_=>false
 | .clo f a b,y=>match y with| .clo g a' b'=>f==g&&(V.DT a a'&&V.DT b b')|_=>false
 | .ifc t a,y=>match y with| .ifc u b=>t==u&&V.eqb a b|_=>false
 | .AM,y=>match y with| .AM=>true|_=>false
 | .bor l a b,y=>match y with| .bor l' a' b'=>decide (l=l')&&(a==a'&&b==b')|_=>false
 | .Am l a b,y=>match y with| .Am l' a' b'=>decide (l=l')&&(a==a'&&b==b')|_=>false
 | .vec a,y=>match y with| .vec b=>V.DT a b|_=>false
 | .BB a,y=>match y with| .BB b=>V.eqb a b|_=>false
 | .rcd a,y=>match y with| .rcd b=>V.DT a b|_=>false
def V.DT:List V→List V→Bool
 | [],y=>match y with| []=>true|_=>false
 |a::r,y=>match y with|b::r'=>V.eqb a b&&V.DT r r'|_=>false
end
def V.calm (dep:Nat):V→Bool
 | .bor (.slot _) _ _=>true
 | .Am (.slot _) _ _=>true
 |v=>v.A4 (dep+1)
def D7 (dep:Nat):List (Nat×V)→Bool
 | []=>true
 | (_,v)::r=>v.calm dep&&D7 dep r
def BL (cs:Option (List Cel)):List (Cel×V)→List (Cel×V)→Option (List (Loc×V))
 | [],[]=>some []
 | (c,v)::r,(c',v')::r'=>if c=c' then
   match cs with
   |none=>(BL cs r r').map fun u=>u++[(.cell c,v')]
   |some l=>if l.contains c then(BL cs r r').map fun u=>u++[(.cell c,v')] else if v.eqb v' then(BL cs r r').map fun u=>u.filter fun p=> !decide (p.1= .cell c) else none
  else none
 |_,_=>none
def CZ (vs:List V):List (Nat×Nat)→List Cel
 | []=>[]
 | (i,o)::r=>match vs[i]? with
  |some (.ref d k off)=>⟨d,k,off+o⟩::CZ vs r
  |_=>CZ vs r
def Er (cfg:Cfg) (s:Get) (op:IOp):Option (List Cel):=
 match target cfg s op with
 |some (_,f,vs)=>(cfg.chg f).map (CZ vs)
 |none=>none
def Bt (cfg:Cfg) (AY:Orc) (dep:Nat) (e0:List (Nat×V)) (pre:Bool) (s:St) (o:AS):Option (Bool×List (Loc×V)):=
 match Ae cfg AY dep s.get o with
 |some u=>some (false,u)
 |none=>if D7 dep e0&&pre then
   match BN cfg AY dep s o with
   | some s'=>match o.dst with
    | some k=>match BL (Er cfg s.get o.op) s.mem s'.mem,lk s'.env k with
     |some ch,some v=>some (true,ch++[(.slot k,v)])
     |_,_=>none
    |none=>none
   |none=>none
  else none
abbrev Rec:=Bool×Bool×List Loc×List Loc
def Bf (cfg:Cfg) (AY:Orc) (dep:Nat) (e0:List (Nat×V)):Bool→List AS→St→Option (List Rec×St)
 |_,[],s=>some ([],s)
 | pre,o::r,s=>match Bt cfg AY dep e0 pre s o with
  | some (b,u)=>match Bf cfg AY dep e0 (pre&&u.all fun p=>p.2.calm dep) r (s.upd u) with
   |some (l,s')=>some ((b,u.all (fun p=>p.2.calm dep),b9 dep s.get o,u.map (·.1))::l,s')
   |none=>none
  |none=>none
def noCell:List Loc→Bool
 | []=>true
 | .slot _::r=>noCell r
 | .cell _::_=>false
def Du (b c:Bool) (w:List Loc):Bool:= !b||(c&&noCell w)
def DW (l:List Rec):List (Nat×Nat)→Bool
 | []=>true
 | (i,j)::r=>match l[i]?,l[j]? with
  |some (bi,ci,ri,wi),some (bj,cj,rj,wj)=>Rz wi (rj++wj)&&Rz wj ri&&Du bi cj wj&&Du bj ci wi&&DW l r
  |_,_=>false
def A9 (cfg:Cfg) (AY:Orc) (dep:Nat) (ops:List AS) (un:List (Nat×Nat)) (s:St):Option St:=
 match un with
 | []=>CY cfg AY dep ops s
 | un=>match Bf cfg AY dep s.env true ops s with
  |some (l,s')=>if DW l un then some s' else none
  |none=>none
def Bj (f:St→Option (Ex×St)):Nat→St→Option (Ex×St)
 |0,_=>none
 | n+1,s=>match f s with
  |some (.normal,s')=>Bj f n s'
  |r=>r
mutual
def V.apart (d k:Nat):V→Bool
 | .ref d' k' _=> !(decide (d'=d)&&decide (k'=k))
 | .ifc _ v=>v.apart d k
 | .clo _ a b=>V.B4 d k a&&V.B4 d k b
 | .vec ys=>V.B4 d k ys
 | .BB y=>y.apart d k
 | .rcd ys=>V.B4 d k ys
 |_=>true
def V.B4 (d k:Nat):List V→Bool
 | []=>true
 |v::r=>v.apart d k&&V.B4 d k r
end
def V.free (d k:Nat):V→V
 | .ref d' k' off=>if d'=d∧k'=k then .AM else .ref d' k' off
 | .ifc t v=>if v.apart d k then .ifc t v else .AM
 | .clo f a b=>if V.B4 d k a&&V.B4 d k b then .clo f a b else .AM
 | .vec ys=>if V.B4 d k ys then .vec ys else .AM
 | .BB y=>if y.apart d k then .BB y else .AM
 | .rcd _=> .AM
 |v=>v
def Da (d k:Nat):List (Nat×V)→List (Nat×V)
 | []=>[]
 | (j,v)::r=>(j,v.free d k)::Da d k r
def Bv (d k:Nat):List (Cel×V)→List (Cel×V)
 | []=>[]
 | (c,v)::r=>if c.d=d∧c.k=k then Bv d k r else(c,v.free d k)::Bv d k r
def D.same:D→D→Bool
 | .AL,.AL=>true
 | .sl [],.sl []=>true
 | .Cy,.Cy=>true
 | .bool a,.bool b=>a==b
 | .int k a,.int k' b=>decide (k=k')&&a==b
 | .str a,.str b=>a==b
 |_,_=>false
def DD:List (Nat×V)→List (Nat×V)→Bool
 | [],[]=>true
 | (k,.d a)::r,(k',.d b)::r'=>k==k'&&a.same b&&DD r r'
 |_,_=>false
def P5:Ex→Ex→Bool
 | .normal,.normal=>true
 | .ret,.ret=>true
 | .exit a,.exit b=>a==b
 |_,_=>false
def DO (a b:Option (Ex×St)):Option (Ex×St):=
 match a,b with
 |some (e,s),some (e',s')=>if P5 e e'&&DD s.env s'.env&&s.mem.isEmpty&&s'.mem.isEmpty then some (e,s) else none
 |_,_=>none
def V.C3:V→V
 | .own _ _ _| .bor _ _ _| .Am _ _ _| .rcd _=> .AM
 |v=>v
def Bu:List (Nat×V)→List (Nat×V)
 | []=>[]
 | (k,v)::r=>(k,v.C3)::Bu r
def D6:List Nat→List D→List (Nat×V)→Option (List (Nat×V))
 | [],[],e=>some e
 |p::ps,d::ds,e=>D6 ps ds (st e p (.d d))
 |_,_,_=>none
def V.Co (n:Nat):V→V
 | .own _ z es=> .own false z es
 |v=>if v.A4 n then v else .AM
def Ak (dep:Nat):List (Cel×V)→List (Cel×V)
 | []=>[]
 | (c,v)::r=>if c.d<dep then(c,v.Co dep)::Ak dep r else Ak dep r
def Bk (f:List D→List (Cel×V)→Option (Ex×List (Cel×V))):List (List D)→List (Cel×V)→Option (Ex×List (Cel×V))
 | [],m=>some (.normal,m)
 | x::r,m=>match f x m with
  |some (.normal,m')=>Bk f r m'
  |y=>y
def Bd (ca cb:St→Option (Ex×St)) (dep:Nat) (ps:List Nat) (e:List (Nat×V)) (x:List D) (m:List (Cel×V)):Option (Ex×List (Cel×V)):=
 match D6 ps x (Bu e) with
 | some e1=>match ca ⟨e1,m⟩ with
  | some (.normal,s1)=>match cb s1 with
   |some (r,s2)=>some (r,Ak (dep+1) s2.mem)
   |none=>none
  |_=>none
 |none=>none
def DC (cfg:Cfg):V→Option (List (List D))
 | .clo f [] caps=>match cfg.iter f,B6 caps with
  |some g,some ds=>g ds
  |_,_=>none
 |_=>none
def Fc (s:Get) (k:Nat):List (Loc×V):=
 match s (.slot k) with
 | some (.ref d j off)=>match s (.cell ⟨d,j,off⟩) with
  |some (.own _ _ es)=>[(.cell ⟨d,j,off⟩,.d (.sl es))]
  |_=>[]
 |_=>[]
def DL (s:St) (ls:List Nat):St:=ls.foldl (fun s k=>s.upd (Fc s.get k)) s
def AH (cfg:Cfg) (AY:Orc) (dep n:Nat):AA→St→Option (Ex×St)
 | .skip,s=>some (.normal,s)
 | .region ops un Ac,s=>match A9 cfg AY dep ops un s with
  |some s'=>some (.normal,settle dep Ac s')
  |none=>none
 | .seq a b,s=>match AH cfg AY dep n a s with
  |some (.normal,s')=>AH cfg AY dep n b s'
  |r=>r
 | .cond x a b,s=>match val cfg s.get x with
  |some (.d (.bool t))=>if t then AH cfg AY dep n a s else AH cfg AY dep n b s
  |some (.d .Cy)=>DO (AH cfg AY dep n a s) (AH cfg AY dep n b s)
  |_=>none
 | .block id b,s=>match AH cfg AY dep n b s with
  |some (.exit id',s')=>if id'=id then some (.normal,s') else some (.exit id',s')
  |r=>r
 | .loop b,s=>Bj (AH cfg AY dep n b) n s
 | .each x ps a b,s=>match(val cfg s.get x).bind (DC cfg) with
  | some l=>match Bk (Bd (AH cfg AY (dep+1) n a) (AH cfg AY (dep+1) n b) dep ps (Ab dep s.env)) l s.mem with
   |some (e,m)=>some (e,⟨Ab dep s.env,m⟩)
   |none=>none
  |none=>none
 | .exit id,s=>some (.exit id,s)
 | .bad,_=>none
 | .ret,s=>some (.ret,s)
 | .BV ls,s=>some (.normal,{s with env:=ls.foldl (fun e k=>BS k e) s.env})
 | .AU ls,s=>some (.normal,DL s ls)
 | .free k,s=>some (.normal,⟨Da dep k s.env,Bv dep k s.mem⟩)
def entry (i:Nat):List V→List (Nat×V)
 | []=>[]
 |v::r=>(i,v)::entry (i+1) r
def CR:V→Option D
 | .d x=>some x.canon
 | .own _ _ es=>some (.sl es)
 | .Af e 0=>some (.ptr e)
 |_=>none
def CW (s:Get) (d k off:Nat):Nat→Option (List D)
 |0=>some []
 | n+1=>match(s (.cell ⟨d,k,off⟩)).bind CR,CW s d k (off+1) n with
  |some x,some r=>if x.AP then some (x::r) else none
  |_,_=>none
def FV (dep:Nat) (s:Get):Dh→Option V
 | .t k=>match s (.slot k) with
  |some (.own _ z es)=>some (.own false z es)
  |some v=>if v.AZ then some v else none
  |none=>none
 | .cell k z=>match s (.slot k) with
  | some (.ref d j off)=>if dep≤d then match z with
   | none=>match s (.cell ⟨d,j,off⟩) with
    |some (.own _ z es)=>some (.own false z es)
    |some v=>if v.AZ then some v else none
    |none=>none
   |some n=>(CW s d j off n).map fun cs=> .d (.agg cs)
   else none
  |_=>none
def GB (dep:Nat) (s:Get):List Dh→Option (List D)
 | []=>some []
 | r::rs=>match(FV dep s r).bind CR,GB dep s rs with
  |some d,some ds=>some (d::ds)
  |_,_=>none
def Cs (dep:Nat) (s:Get):List Dh→Option V
 | [r]=>FV dep s r
 |rs=>(GB dep s rs).map fun ds=> .d (.tup ds)
def C4 (dep:Nat) (v:V) (m:List (Cel×V)):Option (V×List (Cel×V)):=
 if v.A4 dep then some (v,Ak dep m) else none
def V.isD:V→Bool
 | .d _=>true
 |_=>false
def GD:List V→Bool
 | .own false _ _::r=>r.all V.isD
 | .d _::r=>GD r
 |_=>false
def E7 (vs:List V) (m:List (Cel×V)):Bool:=vs.all V.AZ||(m.isEmpty&&GD vs)
def DM (cfg:Cfg) (AY:Orc) (n:Nat) (fn:AN) (dep:Nat) (vs:List V) (m:List (Cel×V)):Option (V×List (Cel×V)):=
 if vs.length=fn.arity∧E7 vs m then
  match AH cfg AY dep n fn.body ⟨entry 0 vs,m⟩ with
  |some (.normal,s)|some (.ret,s)=>(Cs dep s.get fn.results).bind fun v=>C4 dep v s.mem
  |_=>none
 else none
def BU (cfg:Cfg):Nat→Orc
 |0=>fun _ _ _ _=>none
 | n+1=>fun f dep vs m=>match cfg.ext f with
  |some g=>((B6 vs).bind g).map fun v=>(v,m)
  | none=>match cfg.funcs f with
   |some fn=>DM cfg (BU cfg n) n fn dep vs m
   |none=>none
end Go.Ev
namespace Go.Ev
structure AJ where
 own:List Nat
 Ac:List (Nat×List Nat)
 BV:List (Nat×List Nat)
 free:List (Nat×List Nat)
 AU:List (Nat×Nat):=[]
 VT:List (Nat×List Nat):=[]
def Fl:Value→Option D
 | .bool b=>some (.bool b)
 | .int k n=>some (.int k n)
 | .string s=>some (.str s.data.toList)
 | .slice none 0 0=>some .AL
 | .pointer none=>some .Bs
 | .map none=>some .Dn
 | .nilFunc=>some .CU
 | .nilIface=>some .Be
 |_=>none
def Hb:List Value→Option (List D)
 | []=>some []
 | v::r=>match Fl v,Hb r with
  |some d,some ds=>some (d::ds)
  |_,_=>none
def Gv:Value→Option D
 | .agg cs=>(Hb cs.toList).map .agg
 |v=>Fl v
def Ah:Operand→Option AB
 | .tmp t=>some (.t t)
 | .const v=>(Gv v).map .c
 | .global g=>some (.g g)
 | .func f=>some (.c (.fn f))
def BM:List Operand→Option (List AB)
 | []=>some []
 | x::r=>match Ah x,BM r with
  |some a,some b=>some (a::b)
  |_,_=>none
def Ca:Option Operand→Option (Option AB)
 |none=>some none
 |some x=>(Ah x).map some
def ej:List (Nat×Operand)→Option (List (Nat×AB))
 | []=>some []
 | (i,x)::r=>match Ah x,ej r with
  |some a,some b=>some ((i,a)::b)
  |_,_=>none
def BO (P:Program) (t:TypeId):Option Nat:=(P.info? t).map (·.size)
def Eu (P:Program) (t:TypeId):Option (Option Nat):=
 match P.underlying t,BO P t with
 |some (.struct _),some n=>some (some n)
 |some (.array _ _),some n=>some (some n)
 |some _,some n=>if n=1 then some none else none
 |_,_=>none
def bL (v:Value):Option D:=(Gv v).map D.canon
def Ei (P:Program) (t:TypeId):Option D:=((P.info? t).bind (·.zero)).bind bL
def Cj (P:Program) (t:TypeId):Option D:=((P.info? t).bind (·.zero)).bind Gv
def oy (P:Program):List Field→Option (List (Nat×Nat))
 | []=>some []
 | f::r=>match BO P f.type,oy P r with
  |some n,some l=>some ((f.offset,n)::l)
  |_,_=>none
def kr (pl:List (Nat×Nat)):List (Nat×Operand)→Option (List (Nat×Nat×AB))
 | []=>some []
 | (i,x)::r=>match pl[i]?,Ah x,kr pl r with
  |some (o,n),some a,some b=>some ((o,n,a)::b)
  |_,_,_=>none
def db (P:Program) (b:Builtin) (args:List AB) (ts:List TypeId):Option IOp:=
 match b,args,ts with
 | .len,[x],[t]=>match P.underlying t with
  |some .string=>some (.len true x)
  |some (.slice _)=>some (.len false x)
  |_=>none
 | .min,xs,_=>some (.B2 false xs)
 | .max,xs,_=>some (.B2 true xs)
 | .append,[x,y],[t,u]=>match P.underlying t,P.underlying u with
  | some (.slice e),some (.slice e')=>match P.info? e,Cj P e with
   |some i,some zd=>if e=e'∧i.size≠0∧i.bytes≠0∧zd.cells.length=i.size then some (.append i.size i.bytes x y) else none
   |_,_=>none
  |_,_=>none
 | .copy,[x,y],[t,u]=>match P.underlying t,P.underlying u with
  | some (.slice e),some (.slice e')=>match BO P e,BO P e' with
   |some z,some z'=>if z=z'∧z≠0 then some (.copy z x y) else none
   |_,_=>none
  |_,_=>none
 |_,_,_=>none
def kh:TypeDesc→Option QO
 | .bool=>some .bool
 | .pointer _=>some .ptr
 | .func _ _ _=>some .func
 | .interface _=>some .iface
 |_=>none
def Qd (P:Program) (f:Field):Option Nat:=
 match P.underlying f.type with
 |some (.int _)=>some 0
 |some .bool=>some 1
 |some .string=>some 2
 |_=>none
def a9w (P:Program) (i:Nat):List Field→Option (List Nat)
 | []=>some []
 | f::r=>match Qd P f,a9w P (i+1) r with
  |some k,some ks=>if f.name≠"_"∧ f.offset=i∧Eu P f.type=some none then some (k::ks) else none
  |_,_=>none
def a9x (P:Program) (t:TypeId) (fs:Array Field):Option (List Nat):=if P.stoodInHeld t∨P.eqGuardType P.depth t then none else a9w P 0 fs.toList
def cOp (P:Program) (own:Bool):Op→Option IOp
 | .move x=>(Ah x).map .mv
 | .assign x=>(Ah x).map .asg
 | .pick c a b=>match Ah c,Ah a,Ah b with
  |some c,some a,some b=>some (.pick c a b)
  |_,_,_=>none
 | .alloc t=>match Cj P t,BO P t with
  |some z,some n=>if z.cells.length=n∧n≠0 then some (.alloc z.cells) else none
  |_,_=>none
 | .box t x=>match Ah x,BO P t with
  |some x,some n=>if n≠0 then some (.box n x) else none
  |_,_=>none
 | .build t ps=>match P.underlying t,Cj P t with
  | some (.struct fs),some (.agg zs)=>match oy P fs.toList with
   |some pl=>(kr pl ps.toList).map (.build zs)
   |none=>none
  | some (.array _ e),some (.agg zs)=>match BO P e with
   |some z=>(ej ps.toList).map fun l=> .build zs (l.map fun p=>(p.1*z,z,p.2))
   |none=>none
  |_,_=>none
 | .buildSlice t n ps=>match P.underlying t with
  | some (.slice e)=>match BO P e,Ei P e,ej ps.toList with
   |some z,some zd,some l=>if z≠0∧z≤1000∧n≤1000 then some (.lit own z n zd l) else none
   |_,_,_=>none
  |_=>none
 | .load t a=>match Eu P t,Ah a with
  |some z,some a=>some (.load z a)
  |_,_=>none
 | .store t a x=>match BO P t,Ah a,Ah x with
  |some n,some a,some x=>some (.store n a x)
  |_,_,_=>none
 | .nilCheck x=>(Ah x).map .FC
 | .binOp op t x y _=>match Ah x,Ah y,P.underlying t with
  |some x,some y,some (.int _)=>some (.bin op x y)
  |some x,some y,some .string=>some (.bin op x y)
  | some x,some (.c .AL),some (.slice _)=>match op with
   | .eql=>some (.isNil false x)
   | .neq=>some (.isNil true x)
   |_=>none
  | some x,some (.c .Be),some (.interface _)=>match op with
   | .eql=>some (.eqn false .FH x (.c .Be))
   | .neq=>some (.eqn true .FH x (.c .Be))
   |_=>none
  | some x,some y,some (.struct fs)=>match a9x P t fs,op with
   |some ks,.eql=>some (.eqn false (.agg ks) x y)
   |some ks,.neq=>some (.eqn true (.agg ks) x y)
   |_,_=>none
  | some x,some y,some d=>match kh d,op with
   |some c,.eql=>some (.eqn false c x y)
   |some c,.neq=>some (.eqn true c x y)
   |_,_=>none
  |_,_,_=>none
 | .unOp op _ x=>(Ah x).map (.un op)
 | .convert s d x=>match P.underlying s,P.underlying d,Ah x with
  |some (.int _),some (.int k),some x=>some (.Aj k x)
  | some (.slice e),some .string,some x=>match P.underlying e with
   |some (.int .u8)=>some (.b2s x)
   |_=>none
  | some .string,some (.slice e),some x=>match P.underlying e,BO P e with
   |some (.int .u8),some 1=>some (.s2b own x)
   |_,_=>none
  | some (.slice _),some (.slice e),some x=>match P.underlying e with
   |some (.int .u8)=>if s=d∧BO P e=some 1 then some (.cvB own x) else none
   |_=>none
  |_,_,_=>none
 | .makeInterface t x=>match P.underlying t,Ah x with
  |some (.interface _),_=>none
  |some _,some x=>some (.mkI t x)
  |_,_=>none
 | .makeFunc (.func f) a b=>match BM a.toList,BM b.toList with
  |some a,some b=>some (.mkF f a b)
  |_,_=>none
 | .makeSlice t l c=>match P.underlying t with
  | some (.slice e)=>match P.info? e,Ei P e,Ah l,Ah c with
   |some i,some zd,some l,some c=>if i.size≠0 then some (.mkS i.size i.bytes zd l c) else none
   |_,_,_,_=>none
  |_=>none
 | .slice t x lo hi mx=>match P.underlying t,Ah x,Ca lo,Ca hi,Ca mx with
  | some (.slice e),some x,some lo,some hi,some mx=>match BO P e with
   |some z=>if z≠0 then some (.slice z x lo hi mx) else none
   |none=>none
  |some .string,some x,some lo,some hi,some none=>some (.GA x lo hi)
  |_,_,_,_,_=>none
 | .fieldAddr t x f=>match P.underlying t,Ah x with
  | some (.struct fs),some x=>match fs[f]? with
   | some fd=>match BO P fd.type with
    |some n=>if n≠0 then some (.AV fd.offset x) else none
    |none=>none
   |none=>none
  |_,_=>none
 | .field t x f=>match P.underlying t,Ah x with
  | some (.struct fs),some x=>match fs[f]? with
   |some fd=>(Eu P fd.type).map fun z=> .field fd.offset z x
   |none=>none
  |_,_=>none
 | .indexAddr t x i=>match P.underlying t,Ah x,Ah i with
  | some (.slice e),some x,some i=>match BO P e with
   |some z=>if z≠0 then some (.Ch z x i) else none
   |none=>none
  | some (.array n e),some x,some i=>match BO P e with
   |some z=>if z≠0 then some (.Fw n z x i) else none
   |none=>none
  |_,_,_=>none
 | .index t x i=>match P.underlying t,Ah x,Ah i with
  |some .string,some x,some i=>some (.P1 x i)
  |_,_,_=>none
 | .extract x i=>(Ah x).map fun x=> .ext x i
 | .call c=>match BM c.args.toList with
  | some args=>match c.callee with
   | .value (.func f)=>some (.call own f args)
   | .value x=>(Ah x).map fun x=> .CD own x args
   | .invoke _ _=>none
   | .builtin b=>db P b args c.argTypes.toList
  |none=>none
 |_=>none
def Zv (nt:Nat):Option Nat→Bool
 |some k=>decide (k<nt)
 |none=>true
def gOp (g:Option Nat) (io:IOp):IOp:=
 match g,io with
 |some i,.call own f args=> .Cr own f args i
 |_,io=>io
def an (P:Program) (ad:AJ) (nt:Nat) (dsts:List (Option Nat)) (o:Oper):Option AS:=
 let io:=gOp (o.dst.bind (lk ad.AU)) ((cOp P ((o.dst.map ad.own.contains).getD false) o.op).getD .bad)
 if Zv nt o.dst then match o.guard with
  |none=>some ⟨o.dst,none,io⟩
  | some (j,b)=>match dsts[j]? with
   |some (some k)=>some ⟨o.dst,some (k,b),io⟩
   |_=>none
  else none
def tw (P:Program) (ad:AJ) (nt:Nat) (dsts:List (Option Nat)):List Oper→Option (List AS)
 | []=>some []
 | o::r=>match an P ad nt dsts o,tw P ad nt dsts r with
  |some a,some b=>some (a::b)
  |_,_=>none
def uadd (x:Nat) (u:List Nat):List Nat:=if u.contains x then u else x::u
def uniq:List Nat→List Nat
 | []=>[]
 |x::r=>uadd x (uniq r)
def a7:List (List Nat)→List (List Nat)→List (List Nat)
 |acc,[]=>acc
 |acc,es::r=>a7 (acc++[uniq (es.foldl (fun a e=>e::((acc[e]?).getD []++a)) [])]) r
def ao (o:Oper):List Nat:=(o.after.toList.filter (Region.binds .any)).map (·.on)
def az (bs:List (List Nat)):List (Nat×Nat):=
 (List.range bs.length).flatMap fun j=>((List.range j).filter fun i=> !((bs[j]?).getD []).contains i).map fun i=>(i,j)
def Et:Nat→List (List Nat)→Bool
 |_,[]=>true
 |i,es::r=>es.all (fun e=>decide (e<i))&&Et (i+1) r
def look (l:List (Nat×List Nat)) (k:Nat):List Nat:=(lk l k).getD []
def ig:Code→Bool
 | .region _ ops _=>ops.toList.all fun o=>match o.op with
  | .defer _=>false
  |_=>true
 | .seq a b| .cond _ a b=>ig a&&ig b
 | .block _ b| .loop b=>ig b
 | .skip| .exit _| .ret=>true
 |_=>false
def Bm (P:Program) (ad:AJ) (nt:Nat):Code→Option AA
 | .skip=>some .skip
 | .region id ops draw=>match tw P ad nt (ops.toList.map (·.dst)) ops.toList with
  | some l=>
   if draw&& !Et 0 (ops.toList.map ao) then some .bad else
   let un:=if draw then az (a7 [] (ops.toList.map ao)) else[]
   let r:=AA.region l un (look ad.Ac id)
   let r:=if(look ad.VT id).isEmpty then r else .seq (.AU (look ad.VT id)) r
   let r:=if(look ad.BV id).isEmpty then r else .seq (.BV (look ad.BV id)) r
   some ((look ad.free id).foldl (fun c k=> .seq (.free k) c) r)
  |none=>none
 | .seq a b=>match Bm P ad nt a,Bm P ad nt b with
  |some a,some b=>some (.seq a b)
  |_,_=>none
 | .cond x a b=>match Ah x,Bm P ad nt a,Bm P ad nt b with
  |some x,some a,some b=>some (.cond x a b)
  |_,_,_=>none
 | .block id b=>(Bm P ad nt b).map (.block id)
 | .loop b=>(Bm P ad nt b).map .loop
 | .rangeFunc g ps a b=>if ig a&&ig b&&ps.toList.all (fun p=>decide (p<nt)) then match Ah g,Bm P ad nt a,Bm P ad nt b with
   |some x,some a,some b=>some (.each x ps.toList a b)
   |_,_,_=>none
  else some .bad
 | .exit id=>some (.exit id)
 | .ret=>some .ret
 |_=>some .bad
def zq:Code→Bool
 | .ret=>true
 | .seq _ b=>zq b
 |_=>false
def QG (P:Program) (ad:AJ) (nt:Nat):Code→Option AA
 | .seq (.seq a (.cond x p .skip)) b=>
  if zq p then match Bm P ad nt a,Ah x,Bm P ad nt p,QG P ad nt b with
   |some a,some x,some p,some b=>some (.seq a (.cond x p b))
   |_,_,_,_=>none
  else match Bm P ad nt (.seq a (.cond x p .skip)),QG P ad nt b with
   |some a,some b=>some (.seq a b)
   |_,_=>none
 | .seq a b=>match Bm P ad nt a,QG P ad nt b with
  |some a,some b=>some (.seq a b)
  |_,_=>none
 |c=>Bm P ad nt c
def IF (P:Program):List ResultVar→Option (List Dh)
 | []=>some []
 | .tmp t::r=>(IF P r).map (.t t:: ·)
 | .cell a t::r=>match Eu P t,IF P r with
  |some z,some l=>some (.cell a z::l)
  |_,_=>none
def AQ (P:Program) (ad:AJ) (fn:Func):Option AN:=
 match fn.body with
 | some c=>match QG P ad fn.ntmps c,IF P fn.results.toList with
  |some b,some rs=>if fn.params.size+fn.nfree≤fn.ntmps then some ⟨fn.params.size+fn.nfree,rs,b⟩ else none
  |_,_=>none
 |none=>none
end Go.Ev
namespace Go.Ev
open Go
inductive Own where
 |outer
 |box (d k:Nat)
 |at(l:Loc)
 |res
 deriving DecidableEq
structure Cx where
 ow:Nat→Option Own
 ad:Nat→Nat→Nat
 base:Nat:=0
abbrev ad3 (b o:Nat):Addr:=⟨b,o,none⟩
inductive Rd (F:Nat→Prop) (w:World):Value→D→Prop
 |bool (b:Bool):Rd F w (.bool b) (.bool b)
 |int (k:IntKind) (n:Int):Rd F w (.int k n) (.int k n)
 |str (s:List UInt8):Rd F w (.string ⟨s.toArray⟩) (.str s)
 |AL (ad:Option Addr):Rd F w (.slice ad 0 0) .AL
 |Cy (b:Bool):Rd F w (.bool b) .Cy
 |Bs:Rd F w (.pointer none) .Bs
 |Be:Rd F w .nilIface .Be
 |CU:Rd F w .nilFunc .CU
 |Dn:Rd F w (.map none) .Dn
 |fn (f:FuncId):Rd F w (.func (.func f) #[] #[]) (.fn f)
 |unk (v:Value) (h:v.oneCell'=true):Rd F w v .unk
 |ifc (t:TypeId) (v:Value) (d:D) (h:Rd F w v d):Rd F w (.iface t v) (.ifc t d)
 |agg (vs:List Value) (cs:List D) (hl:vs.length=cs.length) (hc:∀ c∈cs,c.AP=true)
  (h:∀ (i:Nat) v c,vs[i]? =some v→cs[i]? =some c→Rd F w v c):Rd F w (.agg vs.toArray) (.agg cs)
 |tup (vs:List Value) (cs:List D) (hl:vs.length=cs.length)
  (h:∀ (i:Nat) v c,vs[i]? =some v→cs[i]? =some c→Rd F w v c):Rd F w (.tuple vs.toArray) (.tup cs)
 |ptr (b o:Nat) (e:D) (vs:Nat→Value) (hc:∀ c∈e.cells,c.AP=true)
  (hm:∀ (j:Nat) c,e.cells[j]? =some c→F b∧w.cell? (ad3 b (o+j))=some (vs j))
  (h:∀ (j:Nat) c,e.cells[j]? =some c→Rd F w (vs j) c):Rd F w (.pointer (some (ad3 b o))) (.ptr e)
 |slA (ad:Option Addr) (cap:Nat):Rd F w (.slice ad 0 cap) (.sl [])
 |sl (b o len cap z:Nat) (es:List D) (vs:Nat→Nat→Value) (hlen:es.length=len) (Ad:len≤cap)
  (hz:∀ e∈es,e.cells.length=z) (hc:∀ e∈es,∀ c∈e.cells,c.AP=true)
  (hm:∀ (i:Nat) e,es[i]? =some e→∀ (j:Nat) c,e.cells[j]? =some c→F b∧w.cell? (ad3 b (o+i*z+j))=some (vs i j))
  (h:∀ (i:Nat) e,es[i]? =some e→∀ (j:Nat) c,e.cells[j]? =some c→Rd F w (vs i j) c):Rd F w (.slice (some (ad3 b o)) len cap) (.sl es)
def C9 (F:Nat→Prop) (w:World) (b o:Nat) (e:D):Prop:=
 (∀ c∈e.cells,c.AP=true)∧∀ (j:Nat) c,e.cells[j]? =some c→∃ v,F b∧w.cell? (ad3 b (o+j))=some v∧Rd F w v c
theorem Rd.mono {F F':Nat→Prop} {w w':World} {v:Value} {d:D} (h:Rd F w v d)
  (hc:∀ b o u,F b→w.cell? (ad3 b o)=some u→F' b∧w'.cell? (ad3 b o)=some u):Rd F' w' v d:=by
 induction h with
 |bool b=>exact .bool b
 |int k n=>exact .int k n
 |str s=>exact .str s
 |AL ad=>exact .AL ad
 |Cy b=>exact .Cy b
 |slA ad cap=>exact .slA ad cap
 |Bs=>exact .Bs
 |Be=>exact .Be
 |CU=>exact .CU
 |Dn=>exact .Dn
 |fn f=>exact .fn f
 |unk v h=>exact .unk v h
 |ifc t v d _ ih=>exact .ifc t v d ih
 |agg vs cs hl hcc _ ih=>exact .agg vs cs hl hcc ih
 |tup vs cs hl _ ih=>exact .tup vs cs hl ih
 |ptr b o e vs hcc hm _ ih=>exact .ptr b o e vs hcc (fun j c hj=>hc b _ _ (hm j c hj).1 (hm j c hj).2) ih
 | sl b o len cap z es vs hlen Ad hz hcc hm _ ih=>
  exact .sl b o len cap z es vs hlen Ad hz hcc (fun i e he j c hj=>hc b _ _ (hm i e he j c hj).1 (hm i e he j c hj).2) ih
theorem C9.mono {F F':Nat→Prop} {w w':World} {b o:Nat} {e:D} (h:C9 F w b o e)
  (hc:∀ b o u,F b→w.cell? (ad3 b o)=some u→F' b∧w'.cell? (ad3 b o)=some u):C9 F' w' b o e:=
 ⟨h.1,fun j c hj=>let⟨v,h0,h1,h2⟩:=h.2 j c hj;⟨v,(hc b _ _ h0 h1).1,(hc b _ _ h0 h1).2,h2.mono hc⟩⟩
structure Arr (F:Nat→Prop) (w:World) (b o cap z:Nat) (es:List D):Prop where
 pos:z≠0
 room:∀ j,j<cap*z→(∃ u,w.cell? (ad3 b (o+j))=some u)∧w.frozen? (ad3 b (o+j))=false
 wid:∀ e∈es,e.cells.length=z
 cel:∀ e∈es,∀ c∈e.cells,c.AP=true
 els:∀ (i:Nat) e,es[i]? =some e→∀ (j:Nat) c,e.cells[j]? =some c→∃ v,w.cell? (ad3 b (o+i*z+j))=some v∧Rd F w v c
def AE (x:Cx) (b:Nat):Prop:=x.ow b=none
def Aa (x:Cx) (a:Act) (w:World):Loc→Option Value
 | .slot k=>some (a.tmps.getD k undef)
 | .cell c=>w.cell? (ad3 (x.ad c.d c.k) c.off)
inductive RdV (x:Cx) (s:Get) (cv:Loc→Option Value) (w:World):Option Loc→Value→V→Prop
 |d (l:Option Loc) (v:Value) (y:D) (h:Rd (AE x) w v y):RdV x s cv w l v (.d y)
 |own (l:Loc) (b o len cap z:Nat) (nw:Bool) (es:List D) (how:x.ow b=some (.at l)) (hlen:es.length=len) (Ad:len≤cap)
  (h:Arr (AE x) w b o cap z es):RdV x s cv w (some l) (.slice (some (ad3 b o)) len cap) (.own nw z es)
 |bor (l:Option Loc) (l':Loc) (off len b o' cap':Nat) (Ad:len≤cap')
  (h:∀ z es,s l'=some (.own false z es)→∃ o L C,cv l'=some (.slice (some (ad3 b o)) L C)∧
   off+len≤es.length∧(len=0∧cap'=0∨o'=o+off*z)∧
   (∀ j,j<cap'*z→(∃ u,w.cell? (ad3 b (o'+j))=some u)∧w.frozen? (ad3 b (o'+j))=false)):
  RdV x s cv w l (.slice (some (ad3 b o')) len cap') (.bor l' off len)
 |Am (l:Option Loc) (l':Loc) (i off b o':Nat)
  (h:∀ z es,s l'=some (.own false z es)→∃ o L C,cv l'=some (.slice (some (ad3 b o)) L C)∧o'=o+i*z+off):
  RdV x s cv w l (.pointer (some (ad3 b o'))) (.Am l' i off)
 |Af (l:Option Loc) (b o off:Nat) (e:D) (h:C9 (AE x) w b o e):RdV x s cv w l (.pointer (some (ad3 b (o+off)))) (.Af e off)
 |ref (l:Option Loc) (d k off:Nat) (h:(s (.cell ⟨d,k,0⟩)).isSome):RdV x s cv w l (.pointer (some (ad3 (x.ad d k) off))) (.ref d k off)
 |clo (l:Option Loc) (f:FuncId) (va vb:List Value) (xs ys:List V) (hl:va.length=xs.length) (A6:vb.length=ys.length)
  (h:∀ (i:Nat) v y,va[i]? =some v→xs[i]? =some y→RdV x s cv w none v y)
  (h':∀ (i:Nat) v y,vb[i]? =some v→ys[i]? =some y→RdV x s cv w none v y):
  RdV x s cv w l (.func (.func f) va.toArray vb.toArray) (.clo f xs ys)
 |ifc (l:Option Loc) (t:TypeId) (v:Value) (y:V) (h:RdV x s cv w none v y):RdV x s cv w l (.iface t v) (.ifc t y)
 |vec (l:Option Loc) (b o cap:Nat) (ys:List V) (vs:Nat→Value) (Ad:ys.length≤cap)
  (hm:∀ (i:Nat) y,ys[i]? =some y→AE x b∧w.cell? (ad3 b (o+i))=some (vs i)) (h:∀ (i:Nat) y,ys[i]? =some y→RdV x s cv w none (vs i) y):
  RdV x s cv w l (.slice (some (ad3 b o)) ys.length cap) (.vec ys)
 |BB (l:Option Loc) (b o:Nat) (v:Value) (y:V) (hb:AE x b) (hm:w.cell? (ad3 b o)=some v) (h:RdV x s cv w none v y):
  RdV x s cv w l (.pointer (some (ad3 b o))) (.BB y)
 |rcd (l:Loc) (vs:List Value) (ys:List V) (hl:vs.length=ys.length) (h:∀ (i:Nat) v y,vs[i]? =some v→ys[i]? =some y→RdV x s cv w (some l) v y)
  (hd:∀ (i j:Nat) (p q:Addr) (L C L' C':Nat) (n n':Bool) (z z':Nat) (es B8:List D),i≠j→ys[i]? =some (.own n z es)→ys[j]? =some (.own n' z' B8)→
   vs[i]? =some (.slice (some p) L C)→vs[j]? =some (.slice (some q) L' C')→p.block≠q.block):RdV x s cv w (some l) (.agg vs.toArray) (.rcd ys)
 |AM (l:Option Loc) (v:Value):RdV x s cv w l v .AM
def DQ (w:World) (b:Nat):Prop:=∀ c e lo hi,w.heap[b]? =some (.cells c e (lo,hi))→lo≠hi→c.size≤lo
def IQ (o:Option Own):Prop:=o=some .res∨∃ l,o=some (.at l)
theorem DQ.heap {w w':World} {b:Nat} (h:DQ w b) (e:w'.heap[b]? =w.heap[b]?):DQ w' b:=fun c t lo hi h1=>h c t lo hi (by rw[← e];exact h1)
def Cf (w:World) (n:Nat) (cs:Array Value):Prop:=∃ t fr,w.heap[n]? =some (.cells cs t fr)
theorem Cf.heap {w w':World} {n:Nat} {cs:Array Value} (h:Cf w n cs) (e:w'.heap[n]? =w.heap[n]?):Cf w' n cs:=let⟨t,fr,h⟩:=h;⟨t,fr,e.trans h⟩
theorem Cf.lt {w:World} {n:Nat} {cs:Array Value} (h:Cf w n cs):n<w.heap.size:=let⟨_,_,h⟩:=h;(act.1 h).1
abbrev GI (D:Nat):Deferred:={target:= .collected D,args:= #[]}
def E9 (x:Cx) (a:Act) (w:World):Prop:=∃ l:List Nat,a.defers=l.map GI∧l.Nodup∧∀ D∈l,x.base≤D∧x.ow D=some .outer∧w.heap[D]? =some (.deferred (some []))
theorem E9.nil {x:Cx} {a:Act} {w:World} (h:a.defers=[]):E9 x a w:=⟨[],h,.nil,by simp⟩
theorem E9.mono {x x':Cx} {a a':Act} {w w':World} (h:E9 x a w) (hb:∀ b,x.ow b≠none→b<w.heap.size) (ha:a'.defers=a.defers) (hz:x'.base=x.base)
  (hG:∀ b,x.ow b=some .outer→b<w.heap.size→x'.ow b=x.ow b∧w'.heap[b]? =w.heap[b]?):E9 x' a' w':=by
 obtain⟨l,h1,h2,h3⟩:=h;refine⟨l,ha.trans h1,h2,fun D hD=> ?_⟩
 obtain⟨g0,g1,g2⟩:=h3 D hD;obtain⟨g3,g4⟩:=hG D g1 (hb D (by rw[g1];simp))
 exact⟨by rw[hz];exact g0,g3.trans g1,g4.trans g2⟩
structure Rel (cfg:Cfg) (x:Cx) (N:Nat) (s:Get) (a:Act) (w:World):Prop where
 size:a.tmps.size=N
 defs:E9 x a w
 bound:∀ b,x.ow b≠none→b<w.heap.size
 Bl:∀ l v,s l=some v→∃ u,Aa x a w l=some u∧RdV x s (Aa x a w) w (some l) u v
 CB:∀ k v,s (.slot k)=some v→k<N
 box:∀ c v,s (.cell c)=some v→x.ow (x.ad c.d c.k)=some (.box c.d c.k)∧(s (.cell ⟨c.d,c.k,0⟩)).isSome∧w.frozen? (ad3 (x.ad c.d c.k) c.off)=false
 C7:∀ n e,cfg.H3 n=some e→C9 (AE x) w n 0 e
 Bo:∀ b,IQ (x.ow b)→DQ w b
 CV:∀ n ob,cfg.CV n=some ob→x.ow n=none∧Cf w n ob
def Bh (w w':World):Prop:=w'.os=w.os∧w'.tape=w.tape∧w'.output=w.output
theorem Bh.refl (w:World):Bh w w:=⟨rfl,rfl,rfl⟩
theorem Bh.trans {w w' w'':World} (h:Bh w w') (k:Bh w' w''):Bh w w'':=⟨k.1.trans h.1,k.2.1.trans h.2.1,k.2.2.trans h.2.2⟩
def Room (w w':World):Prop:=∀ b o u,w.cell? (ad3 b o)=some u→w.frozen? (ad3 b o)=false→(∃ u',w'.cell? (ad3 b o)=some u')∧w'.frozen? (ad3 b o)=false
theorem Room.refl (w:World):Room w w:=fun _ _ u h1 h2=>⟨⟨u,h1⟩,h2⟩
theorem Room.trans {w w' w'':World} (h:Room w w') (k:Room w' w''):Room w w'':=fun b o u h1 h2=>let⟨⟨u',h3⟩,h4⟩:=h b o u h1 h2;k b o u' h3 h4
structure Fr (dep:Nat) (x x':Cx) (w w':World):Prop where
 size:w.heap.size≤w'.heap.size
 same:∀ b,b<w.heap.size→x.ow b=none∨x.ow b=some .outer→w'.heap[b]? =w.heap[b]? ∧x'.ow b=x.ow b
 ad:∀ d k,d<dep→x'.ad d k=x.ad d k
 io:Bh w w'
 room:Room w w'
 base:x'.base=x.base
theorem Fr.refl (dep:Nat) (x:Cx) (w:World):Fr dep x x w w:=⟨ab5 _,fun _ _ _=>⟨rfl,rfl⟩,fun _ _ _=>rfl,.refl _,.refl _,rfl⟩
theorem Fr.trans {dep:Nat} {x x' x'':Cx} {w w' w'':World} (h:Fr dep x x' w w') (h':Fr dep x' x'' w' w''):Fr dep x x'' w w'':=
 ⟨ac7 h.size h'.size,fun b hb ho=>
  let⟨h1,h2⟩:=h.same b hb ho
  let⟨h3,h4⟩:=h'.same b (ac1 hb h.size) (by rw[h2];exact ho)
  ⟨h3.trans h1,h4.trans h2⟩,fun d k hd=>(h'.ad d k hd).trans (h.ad d k hd),h.io.trans h'.io,h.room.trans h'.room,h'.base.trans h.base⟩
structure FrK (K dep:Nat) (x x':Cx) (w w':World):Prop where
 size:w.heap.size≤w'.heap.size
 same:∀ b,b<w.heap.size→x.ow b=none∨x.ow b=some .outer→(b≠K→w'.heap[b]? =w.heap[b]?)∧x'.ow b=x.ow b
 ad:∀ d k,d<dep→x'.ad d k=x.ad d k
 io:Bh w w'
 room:Room w w'
 base:x'.base=x.base
theorem Fr.toK {dep:Nat} {x x':Cx} {w w':World} (h:Fr dep x x' w w') (K:Nat):FrK K dep x x' w w':=⟨h.size,fun b hb ho=>⟨fun _=>(h.same b hb ho).1,(h.same b hb ho).2⟩,h.ad,h.io,h.room,h.base⟩
theorem FrK.bW {K dep:Nat} {x x':Cx} {w w':World} (h:FrK K dep x x' w w') (hK:w.heap.size≤K):Fr dep x x' w w':=⟨h.size,fun b hb ho=>⟨(h.same b hb ho).1 abu,(h.same b hb ho).2⟩,h.ad,h.io,h.room,h.base⟩
theorem FrK.trans {K dep:Nat} {x x' x'':Cx} {w w' w'':World} (h:FrK K dep x x' w w') (h':FrK K dep x' x'' w' w''):FrK K dep x x'' w w'':=
 ⟨ac7 h.size h'.size,fun b hb ho=>
  let⟨h1,h2⟩:=h.same b hb ho
  let⟨h3,h4⟩:=h'.same b (ac1 hb h.size) (by rw[h2];exact ho)
  ⟨fun e=>(h3 e).trans (h1 e),h4.trans h2⟩,fun d k hd=>(h'.ad d k hd).trans (h.ad d k hd),h.io.trans h'.io,h.room.trans h'.room,h'.base.trans h.base⟩
theorem RdV.mono {x x':Cx} {s s':Get} {cv cv':Loc→Option Value} {w w':World} {l:Option Loc} {v:Value} {y:V} (h:RdV x s cv w l v y)
  (hc:∀ b o u,x.ow b=none→w.cell? (ad3 b o)=some u→x'.ow b=none∧w'.cell? (ad3 b o)=some u)
  (hR:∀ b o u,w.cell? (ad3 b o)=some u→w.frozen? (ad3 b o)=false→(∃ u',w'.cell? (ad3 b o)=some u')∧w'.frozen? (ad3 b o)=false)
  (hS:∀ l' z es,s' l'=some (.own false z es)→∃ es0,s l'=some (.own false z es0)∧es0.length=es.length∧
    ∀ b o L C,cv l'=some (.slice (some (ad3 b o)) L C)→∃ L' C',cv' l'=some (.slice (some (ad3 b o)) L' C'))
  (hB:∀ d k,(s (.cell ⟨d,k,0⟩)).isSome→(s' (.cell ⟨d,k,0⟩)).isSome∧x'.ad d k=x.ad d k)
  (hO:∀ l0,l=some l0→∀ b,x.ow b=some (.at l0)→x'.ow b=some (.at l0)∧∀ o u,w.cell? (ad3 b o)=some u→w'.cell? (ad3 b o)=some u):
  RdV x' s' cv' w' l v y:=by
 induction h with
 |d l v y h=>exact .d l v y (h.mono hc)
 | own l b o len cap z nw es how hlen Ad h=>
  obtain⟨ho1,ho2⟩:=hO l rfl b how;refine .own l b o len cap z nw es ho1 hlen Ad ⟨h.pos,fun j hj=> ?_,h.wid,h.cel,fun i e he j c hj=> ?_⟩
  · obtain⟨⟨u,hu⟩,hf⟩:=h.room j hj
    exact hR b _ u hu hf
  · obtain⟨v,h1,h2⟩:=h.els i e he j c hj
    exact⟨v,ho2 _ _ h1,h2.mono hc⟩
 | bor l l' off len b o' cap' Ad h=>
  refine .bor l l' off len b o' cap' Ad fun z es hs=> ?_
  obtain⟨es0,h0,hl,CQ⟩:=hS l' z es hs;obtain⟨o,L,C,h1,h3,h5,h6⟩:=h z es0 h0;obtain⟨L',C',h7⟩:=CQ b o L C h1;refine⟨o,L',C',h7,hl ▸ h3,h5,fun j hj=> ?_⟩
  obtain⟨⟨u,hu⟩,hf⟩:=h6 j hj;exact hR b _ u hu hf
 | Am l l' i off b o' h=>
  refine .Am l l' i off b o' fun z es hs=> ?_
  obtain⟨es0,h0,_,CQ⟩:=hS l' z es hs;obtain⟨o,L,C,h1,h2⟩:=h z es0 h0;obtain⟨L',C',h7⟩:=CQ b o L C h1;exact⟨o,L',C',h7,h2⟩
 |Af l b o off e h=>exact .Af l b o off e (h.mono hc)
 | ref l d k off h=>
  obtain⟨h1,h2⟩:=hB d k h;rw[← h2];exact .ref l d k off h1
 | clo l f va vb xs ys hl A6 _ _ ih ih'=>
  exact .clo l f va vb xs ys hl A6 (fun i v y h1 h2=>ih i v y h1 h2 abw) (fun i v y h1 h2=>ih' i v y h1 h2 abw)
 |ifc l t v y _ ih=>exact .ifc l t v y (ih abw)
 |vec l b o cap ys vs Ad hm _ ih=>exact .vec l b o cap ys vs Ad (fun i y hy=>hc b _ _ (hm i y hy).1 (hm i y hy).2) (fun i y hy=>ih i y hy abw)
 |rcd l vs ys hl _ hd ih=>exact .rcd l vs ys hl (fun i v y h1 h2=>ih i v y h1 h2 hO) hd
 |BB l b o v y hb hm _ ih=>exact .BB l b o v y (hc b _ _ hb hm).1 (hc b _ _ hb hm).2 (ih abw)
 |AM l v=>exact .AM l v
def V.A5:V→Bool
 | .own _ _ _| .rcd _=>true
 |_=>false
theorem RdV.Cm {x:Cx} {s:Get} {cv:Loc→Option Value} {w:World} {l l':Option Loc} {v:Value} {y:V} (h:RdV x s cv w l v y) (hn:y.A5=false):
  RdV x s cv w l' v y:=by
 cases h with
 |d l v y h=>exact .d _ _ _ h
 |own=>simp[V.A5] at hn
 |rcd=>simp[V.A5] at hn
 |bor l l' off len b o' cap' Ad h=>exact .bor _ _ _ _ _ _ _ Ad h
 |Am l l' i off b o' h=>exact .Am _ _ _ _ _ _ h
 |Af l b o off e h=>exact .Af _ _ _ _ _ h
 |ref l d k off h=>exact .ref _ _ _ _ h
 |clo l f va vb xs ys hl A6 h h'=>exact .clo _ _ _ _ _ _ hl A6 h h'
 |ifc l t v y h=>exact .ifc _ _ _ _ h
 |vec l b o cap ys vs Ad hm h=>exact .vec _ _ _ _ _ _ Ad hm h
 |BB l b o v y hb hm h=>exact .BB _ _ _ _ _ hb hm h
 |AM l v=>exact .AM _ _
theorem Rel.step {cfg:Cfg} {x x':Cx} {N:Nat} {s s':Get} {a a':Act} {w w':World} (R:Rel cfg x N s a w) (U:List Loc)
   (h1:a'.tmps.size=N) (h2:a'.defers=a.defers) (hz:x'.base=x.base)
   (hb:∀ b,x'.ow b≠none→b<w'.heap.size)
   (hs:∀ l,l ∉ U→∀ v,s' l=some v→s l=some v∧∀ u,Aa x a w l=some u→Aa x' a' w' l=some u)
   (hU:∀ l,l∈U→∀ v,s' l=some v→∃ u,Aa x' a' w' l=some u∧RdV x' s' (Aa x' a' w') w' (some l) u v)
   (hn:∀ k,.slot k∈U→k<N)
   (hc:∀ b o u,x.ow b=none→w.cell? (ad3 b o)=some u→x'.ow b=none∧w'.cell? (ad3 b o)=some u)
   (hR:∀ b o u,w.cell? (ad3 b o)=some u→w.frozen? (ad3 b o)=false→(∃ u',w'.cell? (ad3 b o)=some u')∧w'.frozen? (ad3 b o)=false)
   (hS:∀ l',l'∈U→∀ z es,s' l'=some (.own false z es)→∃ es0,s l'=some (.own false z es0)∧es0.length=es.length∧
     ∀ b o L C,Aa x a w l'=some (.slice (some (ad3 b o)) L C)→∃ L' C',Aa x' a' w' l'=some (.slice (some (ad3 b o)) L' C'))
   (hB:∀ d k,(s (.cell ⟨d,k,0⟩)).isSome→(s' (.cell ⟨d,k,0⟩)).isSome∧x'.ad d k=x.ad d k)
   (hO:∀ l0,l0 ∉ U→∀ b,x.ow b=some (.at l0)→x'.ow b=some (.at l0)∧∀ o u,w.cell? (ad3 b o)=some u→w'.cell? (ad3 b o)=some u)
   (hx:∀ c v,s' (.cell c)=some v→x'.ow (x'.ad c.d c.k)=some (.box c.d c.k)∧(s' (.cell ⟨c.d,c.k,0⟩)).isSome∧w'.frozen? (ad3 (x'.ad c.d c.k) c.off)=false) (hZ:∀ b,IQ (x'.ow b)→DQ w' b)
   (hG:∀ b,x.ow b=none∨x.ow b=some .outer→b<w.heap.size→x'.ow b=x.ow b∧w'.heap[b]? =w.heap[b]?):
   Rel cfg x' N s' a' w':=by
 refine⟨h1,R.defs.mono R.bound h2 hz (fun b h hb=>hG b (.inr h) hb),hb,fun l v hl=> ?_,fun k v hk=> ?_,hx,fun n e hg=>(R.C7 n e hg).mono hc,hZ,fun n ob hg=> ?_⟩
 rotate_left 2
 · obtain⟨g1,g2⟩:=R.CV n ob hg
   obtain⟨g3,g4⟩:=hG n (.inl g1) g2.lt;exact⟨g3.trans g1,g2.heap g4⟩
 · by_cases hm:l∈U
   · exact hU l hm v hl
   · obtain⟨h3,h4⟩:=hs l hm v hl
     obtain⟨u,hu,hr⟩:=R.Bl l v h3;refine⟨u,h4 u hu,hr.mono hc hR (fun l' z es hs'=> ?_) hB (fun l0 e=> ?_)⟩
     · by_cases hm':l'∈U
       · exact hS l' hm' z es hs'
       · obtain⟨h5,h6⟩:=hs l' hm' _ hs'
         exact⟨es,h5,rfl,fun b o L C CQ=>⟨L,C,h6 _ CQ⟩⟩
     · cases e
       exact hO l hm
 · by_cases hm:Loc.slot k∈U
   · exact hn k hm
   · exact R.CB k v (hs _ hm v hk).1
end Go.Ev
namespace Go.Ev
open Go
@[simp] theorem mp (s:Get):AK s []=s:=rfl
theorem bc (s:Get) (l:Loc) (v:V) (r:List (Loc×V)):AK s ((l,v)::r)=AK (fun l'=>if l'=l then some v else s l') r:=rfl
theorem a8 (s:Get) (l:Loc) (v:V) (l':Loc):AK s [(l,v)] l'=if l'=l then some v else s l':=rfl
theorem bo (s:Get) (u v:List (Loc×V)):AK s (u++v)=AK (AK s u) v:=by
 induction u generalizing s with
 |nil=>rfl
 |cons p r ih=>obtain⟨l,y⟩:=p;simp only[List.cons_append,bc];exact ih _
theorem jl {x:Cx} {a:Act} {w:World} {k:Nat} {v:Value} (h:k<a.tmps.size):Aa x (a.put (some k) v) w (.slot k)=some v:=by
 simp[Aa,Act.put,h]
theorem zx {x:Cx} {a:Act} {w:World} {k j:Nat} {v:Value} (h:j≠k):Aa x (a.put (some k) v) w (.slot j)=Aa x a w (.slot j):=by
 simp[Aa,Act.put,Array.getElem?_setIfInBounds_ne (Ne.symm h)]
theorem tm {x:Cx} {a:Act} {w:World} {k:Nat} {v:Value} {l:Loc} (h:l≠ .slot k):Aa x (a.put (some k) v) w l=Aa x a w l:=by
 cases l with
 |slot j=>exact zx (fun e=>h (e ▸ rfl))
 |cell c=>rfl
theorem asc (a:Act) (d:Option Nat) (v:Value):(a.put d v).tmps.size=a.tmps.size:=by cases d<;>simp[Act.put]
theorem a93 (a:Act) (d:Option Nat) (v:Value):(a.put d v).defers=a.defers:=by cases d<;>rfl
def Cx.AU (x:Cx) (b:Nat) (o:Option Own):Cx:={x with ow:=fun b'=>if b'=b then o else x.ow b'}
@[simp] theorem Cx.EZ (x:Cx) (b:Nat) (o:Option Own):(x.AU b o).ow b=o:=by simp[Cx.AU]
theorem Cx.AO (x:Cx) {b b':Nat} (o:Option Own) (h:b'≠b):(x.AU b o).ow b'=x.ow b':=by simp[Cx.AU,h]
@[simp] theorem Cx.D0 (x:Cx) (b:Nat) (o:Option Own):(x.AU b o).ad=x.ad:=rfl
section
variable {cfg:Cfg} {x:Cx} {N:Nat} {s:Get} {a:Act} {w:World}
theorem Rel.Ct (R:Rel cfg x N s a w) {b:Nat} {o:Option Own} (h:IQ o→IQ (x.ow b)):∀ b',IQ ((x.AU b o).ow b')→DQ w b':=fun b' h'=>by
 by_cases e:b'=b
 · subst e
   simp only[Cx.AU,if_true] at h';exact R.Bo _ (h h')
 · rw[Cx.AO _ _ e] at h'
   exact R.Bo _ h'
theorem Rel.putAt (R:Rel cfg x N s a w) {k:Nat} (hk:k<N) {v:Value} {y:V} (hy:∀ z es,y≠ .own false z es) (hv:RdV x s (Aa x a w) w (some (.slot k)) v y):
   Rel cfg x N (AK s [(.slot k,y)]) (a.put (some k) v) w:=by
 have hs':∀ l',AK s [(.slot k,y)] l'=if l'= .slot k then some y else s l':=fun l'=>rfl
 have CQ:∀ l',l'≠ .slot k→Aa x (a.put (some k) v) w l'=Aa x a w l':=fun l' h=>tm h
 have hkk:Aa x (a.put (some k) v) w (.slot k)=some v:=jl (by rw[R.size];exact hk)
 have hS:∀ l' z es,AK s [(.slot k,y)] l'=some (.own false z es)→s l'=some (.own false z es)∧Aa x (a.put (some k) v) w l'=Aa x a w l':=by
   intro l' z es h;rw[hs'] at h;split at h
   · cases h;exact absurd rfl (hy z es)
   · rename_i Ai;exact⟨h,CQ l' Ai⟩
 have hB:∀ d j,(s (.cell ⟨d,j,0⟩)).isSome→(AK s [(.slot k,y)] (.cell ⟨d,j,0⟩)).isSome∧x.ad d j=x.ad d j:=by
   intro d j h;rw[hs'];simp[h]
 refine R.step [.slot k] (by rw[asc];exact R.size) (by rw[a93]) rfl R.bound (fun l' A6 v' h=> ?_) (fun l' A6 v' h=> ?_) (fun j hj=> ?_)
   (fun b o u h1 h2=>⟨h1,h2⟩) (fun b o u h1 h2=>⟨⟨u,h1⟩,h2⟩) (fun l' A6 z es h=> ?_) hB (fun l0 _ b h=>⟨h,fun _ _ h=>h⟩) (fun c v' h=> ?_) R.Bo (fun _ _ _=>⟨rfl,rfl⟩)
 · have Ai:l'≠ .slot k:=by simpa using A6
   rw[hs',if_neg Ai] at h;exact⟨h,fun u hu=>by rw[CQ l' Ai];exact hu⟩
 · have he:l'= .slot k:=by simpa using A6
   subst he;rw[hs',if_pos rfl] at h;cases h;refine⟨v,hkk,hv.mono (fun b o u h1 h2=>⟨h1,h2⟩) (fun b o u h1 h2=>⟨⟨u,h1⟩,h2⟩) (fun l' z es h=> ?_) hB (fun l0 _ b h=>⟨h,fun _ _ h=>h⟩)⟩
   obtain⟨h1,h2⟩:=hS l' z es h;exact⟨es,h1,rfl,fun b o L C CQ=>⟨L,C,by rw[h2];exact CQ⟩⟩
 · have:j=k:=by simpa using hj
   omega
 · obtain⟨h1,h2⟩:=hS l' z es h
   exact⟨es,h1,rfl,fun b o L C CQ=>⟨L,C,by rw[h2];exact CQ⟩⟩
 · rw[hs',if_neg abw] at h
   obtain⟨h1,h2,h3⟩:=R.box c v' h;exact⟨h1,by rw[hs',if_neg abw];exact h2,h3⟩
theorem Rel.put (R:Rel cfg x N s a w) {k:Nat} (hk:k<N) {v:Value} {y:V} (hy:y.A5=false) {l:Option Loc} (hv:RdV x s (Aa x a w) w l v y):
  Rel cfg x N (AK s [(.slot k,y)]) (a.put (some k) v) w:=
 R.putAt hk (fun z es e=>by subst e;simp[V.A5] at hy) (hv.Cm hy)
theorem Rel.congr (R:Rel cfg x N s a w) {s':Get} (h:∀ l,s' l=s l):Rel cfg x N s' a w:=by
 have:s'=s:=funext h;subst this;exact R
theorem Arr.mono {F F':Nat→Prop} {w w':World} {b o cap z:Nat} {es:List D} (h:Arr F w b o cap z es)
  (hc:∀ b o u,F b→w.cell? (ad3 b o)=some u→F' b∧w'.cell? (ad3 b o)=some u)
  (hb:∀ o u,w.cell? (ad3 b o)=some u→w'.cell? (ad3 b o)=some u)
  (hR:∀ o u,w.cell? (ad3 b o)=some u→w.frozen? (ad3 b o)=false→w'.frozen? (ad3 b o)=false):Arr F' w' b o cap z es:=
 ⟨h.pos,fun j hj=>let⟨⟨u,hu⟩,hf⟩:=h.room j hj;⟨⟨u,hb _ _ hu⟩,hR _ u hu hf⟩,h.wid,h.cel,fun i e he j c hj=>
  let⟨v,h1,h2⟩:=h.els i e he j c hj
  ⟨v,hb _ _ h1,h2.mono hc⟩⟩
theorem Arr.rd {F:Nat→Prop} {w:World} {b o cap z len:Nat} {es:List D} (h:Arr F w b o cap z es) (hb:F b) (hl:es.length=len) (Ad:len≤cap):
  Rd F w (.slice (some (ad3 b o)) len cap) (.sl es):=by
 have hv:∀ i j,∃ v,∀ e,es[i]? =some e→∀ c,e.cells[j]? =some c→w.cell? (ad3 b (o+i*z+j))=some v∧Rd F w v c:=by
  intro i j;cases he:es[i]? with
  |none=>exact⟨undef,fun e h=>by cases h⟩
  | some e=>
   cases hc:e.cells[j]? with
   |none=>exact⟨undef,fun e' h c h'=>by cases h;rw[hc] at h';cases h'⟩
   | some c=>
    obtain⟨v,h1,h2⟩:=h.els i e he j c hc;exact⟨v,fun e' h c' h'=>by cases h;rw[hc] at h';cases h';exact⟨h1,h2⟩⟩
 exact .sl b o len cap z es (fun i j=>(hv i j).choose) hl Ad h.wid h.cel
  (fun i e he j c hc=>⟨hb,((hv i j).choose_spec e he c hc).1⟩) (fun i e he j c hc=>((hv i j).choose_spec e he c hc).2)
theorem Rel.forget (R:Rel cfg x N s a w) {l0:Loc} (h0:(s l0).isSome):Rel cfg x N (AK s [(l0,.AM)]) a w:=by
 have hs':∀ l',AK s [(l0,.AM)] l'=if l'=l0 then some .AM else s l':=fun l'=>rfl
 have hB:∀ d j,(s (.cell ⟨d,j,0⟩)).isSome→(AK s [(l0,.AM)] (.cell ⟨d,j,0⟩)).isSome∧x.ad d j=x.ad d j:=by
   intro d j h;rw[hs'];split<;>simp[h]
 refine R.step [l0] R.size rfl rfl R.bound (fun l' A6 v' h=> ?_) (fun l' A6 v' h=> ?_) (fun j hj=> ?_)
   (fun b o u h1 h2=>⟨h1,h2⟩) (fun b o u h1 h2=>⟨⟨u,h1⟩,h2⟩) (fun l' A6 z es h=> ?_) hB (fun l0 _ b h=>⟨h,fun _ _ h=>h⟩) (fun c v' h=> ?_) R.Bo (fun _ _ _=>⟨rfl,rfl⟩)
 · have Ai:l'≠l0:=by simpa using A6
   rw[hs',if_neg Ai] at h;exact⟨h,fun u hu=>hu⟩
 · have he:l'=l0:=by simpa using A6
   subst he;rw[hs',if_pos rfl] at h;cases h;obtain⟨v0,hv0⟩:=acl.1 h0;obtain⟨u,hu,_⟩:=R.Bl l' v0 hv0;exact⟨u,hu,.AM _ _⟩
 · obtain⟨v0,hv0⟩:=acl.1 h0
   have:l0= .slot j:=(acv.1 hj).symm;exact R.CB j v0 (this ▸ hv0)
 · have he:l'=l0:=by simpa using A6
   subst he;rw[hs',if_pos rfl] at h;cases h
 · obtain⟨v0,hv0⟩:=acl.1 h0
   rw[hs'] at h;split at h
   · rename_i he
     obtain⟨h1,h2,h3⟩:=R.box c v0 (he ▸ hv0);exact⟨h1,(hB _ _ h2).1,h3⟩
   · obtain⟨h1,h2,h3⟩:=R.box c v' h
     exact⟨h1,(hB _ _ h2).1,h3⟩
theorem Rel.hand (R:Rel cfg x N s a w) {k:Nat} (hk:k<N) {l0:Loc} (Ai:l0≠ .slot k) {nw:Bool} {z:Nat} {es:List D} (h0:s l0=some (.own nw z es))
   {b:Nat} (how:x.ow b=some (.at l0)) {o len cap:Nat} {B8:List D} (hA:Arr (AE x) w b o cap z B8) (hl:B8.length=len) (Ad:len≤cap):
   Rel cfg (x.AU b (some (.at (.slot k)))) N (AK s [(.slot k,.own true z B8),(l0,.AM)]) (a.put (some k) (.slice (some (ad3 b o)) len cap)) w:=by
 have hs':∀ l',AK s [(.slot k,.own true z B8),(l0,.AM)] l'=if l'=l0 then some .AM else if l'= .slot k then some (.own true z B8) else s l':=fun l'=>rfl
 have hx:∀ b',x.ow b'=none→(x.AU b (some (.at (.slot k)))).ow b'=none:=fun b' h=>by
   rw[Cx.AO];· exact h
   intro e;rw[e,how] at h;cases h
 have hB:∀ d j,(s (.cell ⟨d,j,0⟩)).isSome→(AK s [(.slot k,.own true z B8),(l0,.AM)] (.cell ⟨d,j,0⟩)).isSome∧(x.AU b (some (.at (.slot k)))).ad d j=x.ad d j:=by
   intro d j h;rw[hs'];split<;>simp[h]
 have hkk:Aa (x.AU b (some (.at (.slot k)))) (a.put (some k) (.slice (some (ad3 b o)) len cap)) w (.slot k)=some (.slice (some (ad3 b o)) len cap):=
   jl (by rw[R.size];exact hk)
 have CQ:∀ l',l'≠ .slot k→Aa (x.AU b (some (.at (.slot k)))) (a.put (some k) (.slice (some (ad3 b o)) len cap)) w l'=Aa x a w l':=fun l' h=>by
   rw[tm h];cases l'<;>rfl
 refine R.step [.slot k,l0] (by rw[asc];exact R.size) (by rw[a93]) rfl (fun b' hb'=> ?_) (fun l' A6 v' h=> ?_) (fun l' A6 v' h=> ?_) (fun j hj=> ?_)
   (fun b o u h1 h2=>⟨hx b h1,h2⟩) (fun b o u h1 h2=>⟨⟨u,h1⟩,h2⟩) (fun l' A6 z es h=> ?_) hB (fun l1 hl1 b1 h1=>⟨?_,fun _ _ h=>h⟩) (fun c v' h=> ?_) (R.Ct (fun _=> .inr ⟨_,how⟩)) (fun b' h _=>⟨Cx.AO _ _ (fun e=>by subst e;rw[how] at h;rcases h with h|h<;>cases h),rfl⟩)
 · by_cases e:b'=b
   · subst e;exact R.bound _ (by rw[how];simp)
   · rw[Cx.AO _ _ e] at hb';exact R.bound _ hb'
 · simp only[ach,adk,or_false,not_or] at A6
   rw[hs',if_neg A6.2,if_neg A6.1] at h;exact⟨h,fun u hu=>by rw[CQ l' A6.1];exact hu⟩
 · rw[hs'] at h
   simp only[ach,adk,or_false] at A6;by_cases e:l'=l0
   · rw[if_pos e] at h
     cases h;obtain⟨u,hu,_⟩:=R.Bl l0 _ h0;exact⟨u,by rw[e,CQ l0 Ai];exact hu,.AM _ _⟩
   · rw[if_neg e] at h
     rcases A6 with A6|A6
     · subst A6
       rw[if_pos rfl] at h;cases h;exact⟨_,hkk,.own _ b o len cap z true B8 abw hl Ad (hA.mono (fun b o u h1 h2=>⟨hx b h1,h2⟩) (fun _ _ h=>h) (fun _ _ _ h=>h))⟩
     · exact absurd A6 e
 · simp only[ach,adk,or_false] at hj
   rcases hj with hj|hj
   · cases hj;exact hk
   · exact R.CB j _ (hj ▸ h0)
 · rw[hs'] at h
   split at h
   · cases h
   · split at h
     · cases h
     · simp_all
 · simp only[ach,adk,or_false,not_or] at hl1
   rw[Cx.AO];· exact h1
   intro e;rw[e,how] at h1;cases h1;exact hl1.2 rfl
 · have key:∀ v0,s (.cell c)=some v0→(x.AU b (some (.at (.slot k)))).ow (x.ad c.d c.k)=some (.box c.d c.k)∧
       (AK s [(.slot k,.own true z B8),(l0,.AM)] (.cell ⟨c.d,c.k,0⟩)).isSome∧w.frozen? (ad3 (x.ad c.d c.k) c.off)=false:=fun v0 hv0=>by
     obtain⟨h1,h2,h3⟩:=R.box c v0 hv0;refine⟨?_,(hB _ _ h2).1,h3⟩;rw[Cx.AO];· exact h1
     intro e;rw[e,how] at h1;cases h1
   rw[hs'] at h;split at h
   · rename_i e;exact key _ (e ▸ h0)
   · rw[if_neg abw] at h;exact key _ h
theorem Rel.release (R:Rel cfg x N s a w) {l0:Loc} {nw:Bool} {z:Nat} {es:List D} (h0:s l0=some (.own nw z es)):
   ∃ b,x.ow b=some (.at l0)∧(∃ o L C,Aa x a w l0=some (.slice (some (ad3 b o)) L C))∧Rel cfg (x.AU b none) N (AK s [(l0,.d (.sl es))]) a w:=by
 obtain⟨u,hu,hr⟩:=R.Bl l0 _ h0;cases hr with
 |own l b o len cap z nw es how hlen Ad hA=>
 refine⟨b,how,⟨o,len,cap,hu⟩,?_⟩;have hs':∀ l',AK s [(l0,.d (.sl es))] l'=if l'=l0 then some (.d (.sl es)) else s l':=fun l'=>rfl
 have hx:∀ b',x.ow b'=none→(x.AU b none).ow b'=none:=fun b' h=>by
   simp only[Cx.AU];split<;>simp_all
 have hB:∀ d j,(s (.cell ⟨d,j,0⟩)).isSome→(AK s [(l0,.d (.sl es))] (.cell ⟨d,j,0⟩)).isSome∧(x.AU b none).ad d j=x.ad d j:=by
   intro d j h;rw[hs'];split<;>simp[h]
 have CQ:∀ l',Aa (x.AU b none) a w l'=Aa x a w l':=fun l'=>by cases l'<;>rfl
 refine R.step [l0] R.size rfl rfl (fun b' hb'=> ?_) (fun l' A6 v' h=> ?_) (fun l' A6 v' h=> ?_) (fun j hj=> ?_)
   (fun b o u h1 h2=>⟨hx b h1,h2⟩) (fun b o u h1 h2=>⟨⟨u,h1⟩,h2⟩) (fun l' A6 z es h=> ?_) hB (fun l1 hl1 b1 h1=>⟨?_,fun _ _ h=>h⟩) (fun c v' h=> ?_) (R.Ct (fun h=>by rcases h with h|⟨_,h⟩<;>cases h)) (fun b' h _=>⟨Cx.AO _ _ (fun e=>by subst e;rw[how] at h;rcases h with h|h<;>cases h),rfl⟩)
 · by_cases e:b'=b
   · subst e;simp at hb'
   · rw[Cx.AO _ _ e] at hb';exact R.bound _ hb'
 · have Ai:l'≠l0:=by simpa using A6
   rw[hs',if_neg Ai] at h;exact⟨h,fun u hu=>by rw[CQ];exact hu⟩
 · have he:l'=l0:=by simpa using A6
   subst he;rw[hs',if_pos rfl] at h;cases h;exact⟨_,by rw[CQ];exact hu,.d _ _ _ ((hA.mono (fun b o u h1 h2=>⟨hx b h1,h2⟩) (fun _ _ h=>h) (fun _ _ _ h=>h)).rd (Cx.EZ _ _ _) hlen Ad)⟩
 · have:l0= .slot j:=(acv.1 hj).symm
   exact R.CB j _ (this ▸ h0)
 · have he:l'=l0:=by simpa using A6
   subst he;rw[hs',if_pos rfl] at h;cases h
 · have Ai:l1≠l0:=by simpa using hl1
   rw[Cx.AO];· exact h1
   intro e;rw[e,how] at h1;cases h1;exact Ai rfl
 · have key:∀ v0,s (.cell c)=some v0→(x.AU b none).ow (x.ad c.d c.k)=some (.box c.d c.k)∧
      (AK s [(l0,.d (.sl es))] (.cell ⟨c.d,c.k,0⟩)).isSome∧w.frozen? (ad3 (x.ad c.d c.k) c.off)=false:=fun v0 hv0=>by
     obtain⟨h1,h2,h3⟩:=R.box c v0 hv0;refine⟨?_,(hB _ _ h2).1,h3⟩;rw[Cx.AO];· exact h1
     intro e;rw[e,how] at h1;cases h1
   rw[hs'] at h;split at h
   · rename_i e;exact key _ (e ▸ h0)
   · exact key _ h
theorem Rel.relabel (R:Rel cfg x N s a w) {l0:Loc} {b:Nat} (how:x.ow b=some (.at l0)) (h0:∀ v,s l0=some v→v.A5=false) (hn:∀ k,l0= .slot k→k<N) (l1:Loc):
   Rel cfg (x.AU b (some (.at l1))) N s a w:=by
 have hx:∀ b',x.ow b'=none→(x.AU b (some (.at l1))).ow b'=none:=fun b' h=>by
   rw[Cx.AO];· exact h
   intro e;rw[e,how] at h;cases h
 have CQ:∀ l',Aa (x.AU b (some (.at l1))) a w l'=Aa x a w l':=fun l'=>by cases l'<;>rfl
 refine R.step [l0] R.size rfl rfl (fun b' hb'=> ?_) (fun l' A6 v' h=>⟨h,fun u hu=>by rw[CQ];exact hu⟩) (fun l' A6 v' h=> ?_) (fun j hj=>hn j (acv.1 hj).symm)
   (fun b o u h1 h2=>⟨hx b h1,h2⟩) (fun b o u h1 h2=>⟨⟨u,h1⟩,h2⟩) (fun l' A6 z es h=> ?_) (fun d k h=>⟨h,rfl⟩) (fun l2 hl2 b2 h2=>⟨?_,fun _ _ h=>h⟩) (fun c v' h=> ?_) (R.Ct (fun _=> .inr ⟨_,how⟩)) (fun b' h _=>⟨Cx.AO _ _ (fun e=>by subst e;rw[how] at h;rcases h with h|h<;>cases h),rfl⟩)
 · by_cases e:b'=b
   · subst e;exact R.bound _ (by rw[how];simp)
   · rw[Cx.AO _ _ e] at hb';exact R.bound _ hb'
 · have he:l'=l0:=by simpa using A6
   subst he;obtain⟨u,hu,hr⟩:=R.Bl _ _ h;refine⟨u,by rw[CQ];exact hu,((hr.Cm (l':=none) (h0 _ h)).mono (fun b o u h1 h2=>⟨hx b h1,h2⟩) (fun b o u h1 h2=>⟨⟨u,h1⟩,h2⟩) (fun l2 z es hs=>⟨es,hs,rfl,fun b o L C hc=>⟨L,C,by rw[CQ];exact hc⟩⟩) (fun d k h=>⟨h,rfl⟩) (fun l0 e=>by cases e)).Cm (h0 _ h)⟩
 · have he:l'=l0:=by simpa using A6
   subst he;have:=h0 _ h;simp[V.A5] at this
 · have Ai:l2≠l0:=by simpa using hl2
   rw[Cx.AO];· exact h2
   intro e;rw[e,how] at h2;cases h2;exact Ai rfl
 · obtain⟨h1,h2,h3⟩:=R.box c v' h
   refine⟨?_,h2,h3⟩;rw[Cx.D0,Cx.AO];· exact h1
   intro e;rw[e,how] at h1;cases h1
theorem Fr.AU {dep:Nat} {l0:Loc} {b:Nat} (how:x.ow b=some (.at l0)) (o:Option Own):Fr dep x (x.AU b o) w w:=
 ⟨ab5 _,fun b' _ h=>⟨rfl,Cx.AO _ _ (fun e=>by rw[e,how] at h;simp at h)⟩,fun _ _ _=>rfl,.refl _,.refl _,rfl⟩
end
end Go.Ev
namespace Go.Ev
open Go
structure BR (b:Nat) (w w':World):Prop where
 size:w'.heap.size=w.heap.size
 other:∀ b',b'≠b→w'.heap[b']? =w.heap[b']?
 Gb:∀ o,(∃ u,w.cell? (ad3 b o)=some u)→w'.frozen? (ad3 b o)=w.frozen? (ad3 b o)
 Ac:∀ o u,w.cell? (ad3 b o)=some u→∃ u',w'.cell? (ad3 b o)=some u'
 io:Bh w w'
 Bo:DQ w b→DQ w' b
theorem Ap {w w':World} {b o:Nat} (h:w'.heap[b]? =w.heap[b]?):w'.cell? (ad3 b o)=w.cell? (ad3 b o):=by simp[World.cell?,h]
theorem bn {w w':World} {b o:Nat} (h:w'.heap[b]? =w.heap[b]?):w'.frozen? (ad3 b o)=w.frozen? (ad3 b o):=by simp[World.frozen?,h]
theorem BR.cell {b b' o:Nat} {w w':World} (h:BR b w w') (hb:b'≠b):w'.cell? (ad3 b' o)=w.cell? (ad3 b' o):=Ap (h.other b' hb)
theorem BR.frozen {b b' o:Nat} {w w':World} (h:BR b w w') (hb:b'≠b):w'.frozen? (ad3 b' o)=w.frozen? (ad3 b' o):=bn (h.other b' hb)
theorem BR.room {b:Nat} {w w':World} (h:BR b w w'):Room w w':=fun b' o u h1 h2=>by
 by_cases e:b'=b
 · subst e
   exact⟨h.Ac o u h1,by rw[h.Gb o ⟨u,h1⟩];exact h2⟩
 · exact⟨⟨u,by rw[h.cell e];exact h1⟩,by rw[h.frozen e];exact h2⟩
theorem j7 (w:World) (a:Addr) (v:Value) {b':Nat} (h:b'≠a.block):(w.setCell a v).heap[b']? =w.heap[b']? :=by
 simp only[World.setCell,Array.getElem?_modify];rw[if_neg (Ne.symm h)]
theorem ef (b:Nat):∀ (vs:List Value) (o:Nat) (w:World) {b':Nat},b'≠b→(w.setCells b o vs).heap[b']? =w.heap[b']?
 | [],_,_,_,_=>rfl
 |v::r,o,w,b',h=>by rw[World.setCells,ef b r (o+1) _ h,j7 _ _ _ h]
theorem jf (b:Nat):∀ (vs:List Value) (o:Nat) (w:World),(w.setCells b o vs).heap.size=w.heap.size
 | [],_,_=>rfl
 |v::r,o,w=>by rw[World.setCells,jf b r,World.size_setCell]
theorem pz (w:World) (a b:Addr) (v:Value) {u:Value} (h:w.cell? b=some u):∃ u',(w.setCell a v).cell? b=some u':=by
 by_cases e:a=b
 · subst e;exact⟨v,World.cell?_setCell_same _ _ _ h⟩
 · exact⟨u,by rw[World.cell?_setCell_other _ _ _ _ e];exact h⟩
theorem ew (b:Nat):∀ (vs:List Value) (o:Nat) (w:World) (p:Addr) {u:Value},w.cell? p=some u→∃ u',(w.setCells b o vs).cell? p=some u'
 | [],_,_,_,u,h=>⟨u,h⟩
 | v::r,o,w,p,u,h=>by
  obtain⟨u',h'⟩:=pz w ⟨b,o,none⟩ p v h;exact ew b r (o+1) _ p h'
theorem mg (b:Nat):∀ (vs:List Value) (o:Nat) (w:World),Bh w (w.setCells b o vs)
 | [],_,_=> .refl _
 |v::r,o,w=>Bh.trans (w':=w.setCell ⟨b,o,none⟩ v) ⟨rfl,rfl,rfl⟩ (mg b r (o+1) _)
theorem aka {w:World} (a:Addr) (v:Value) {b:Nat} (h:DQ w b):DQ (w.setCell a v) b:=by
 intro c e lo hi h1 h2;simp only[World.setCell,Array.getElem?_modify] at h1;split at h1
 · cases hw:w.heap[b]? with
   |none=>rw[hw] at h1;cases h1
   | some ob=>
    rw[hw] at h1;simp only[Option.map_some,Option.some.injEq] at h1;cases ob with
    | cells c' e' fr=>
     simp only[Obj.cells.injEq] at h1;obtain⟨h3,_,h4⟩:=h1;subst h4;have:=h c' e' lo hi hw h2;rw[← h3];split<;>simp[this]
    |_=>cases h1
 · exact h c e lo hi h1 h2
theorem m8 (b:Nat) {b':Nat}:∀ (vs:List Value) (o:Nat) (w:World),DQ w b'→DQ (w.setCells b o vs) b'
 | [],_,_,h=>h
 |v::r,o,w,h=>m8 b r (o+1) _ (aka _ v h)
def bJ:Obj→Prop
 | .cells c _ (lo,hi)=>lo≠hi→c.size≤lo
 |_=>True
theorem bw (w:World) (b o:Nat) (vs:List Value):BR b w (w.setCells b o vs):=
 ⟨jf b vs o w,fun _ h=>ef b vs o w h,fun _ _=>World.frozen?_setCells b vs o w _,fun _ _ h=>ew b vs o w _ h,mg b vs o w,m8 b vs o w⟩
theorem c7 (w:World) (b o:Nat) (v:Value):BR b w (w.setCell (ad3 b o) v):=bw w b o [v]
section
variable {cfg:Cfg} {x:Cx} {N:Nat} {s:Get} {a:Act} {w:World}
theorem Rel.FW (R:Rel cfg x N s a w) {b:Nat} {w':World} (hw:BR b w w'):∀ b',IQ (x.ow b')→DQ w' b':=fun b' h=>by
 by_cases e:b'=b
 · subst e;exact hw.Bo (R.Bo _ h)
 · exact(R.Bo _ h).heap (hw.other _ e)
theorem Rel.write (R:Rel cfg x N s a w) {l0:Loc} {nw:Bool} {z:Nat} {es:List D} (h0:s l0=some (.own nw z es))
   {b o len cap:Nat} (hv:Aa x a w l0=some (.slice (some (ad3 b o)) len cap)) (how:x.ow b=some (.at l0)) {w':World} (hw:BR b w w') {B8:List D}
   (hA:Arr (AE x) w' b o cap z B8) (hl:B8.length=es.length) (hlen:es.length=len) (Ad:len≤cap):
   Rel cfg x N (AK s [(l0,.own nw z B8)]) a w':=by
 have hs':∀ l',AK s [(l0,.own nw z B8)] l'=if l'=l0 then some (.own nw z B8) else s l':=fun l'=>rfl
 have hB:∀ d j,(s (.cell ⟨d,j,0⟩)).isSome→(AK s [(l0,.own nw z B8)] (.cell ⟨d,j,0⟩)).isSome∧x.ad d j=x.ad d j:=by
   intro d j h;rw[hs'];split<;>simp[h]
 have CQ:∀ l' v,s l'=some v→Aa x a w' l'=Aa x a w l':=fun l' v h=>by
   cases l' with
   |slot k=>rfl
   | cell c=>
     obtain⟨h1,_,_⟩:=R.box c v h;exact hw.cell (fun e=>by rw[e,how] at h1;cases h1)
 have hbn:∀ b',x.ow b'≠x.ow b→b'≠b:=fun b' h e=>h (e ▸ rfl)
 refine R.step [l0] R.size rfl rfl (fun b' hb'=>hw.size ▸ R.bound b' hb') (fun l' A6 v' h=> ?_) (fun l' A6 v' h=> ?_) (fun j hj=> ?_)
   (fun b1 o1 u h1 h2=>⟨h1,by rw[hw.cell (hbn b1 (by rw[h1,how];simp))];exact h2⟩) (fun b1 o1 u h1 h2=> ?_) (fun l' A6 z' es1 h=> ?_) hB (fun l1 hl1 b1 h1=>⟨h1,fun o1 u h=> ?_⟩) (fun c v' h=> ?_) (R.FW hw) (fun b1 h _=>⟨rfl,hw.other b1 (hbn b1 (by rcases h with h|h<;>rw[h,how]<;>simp))⟩)
 · have Ai:l'≠l0:=by simpa using A6
   rw[hs',if_neg Ai] at h;exact⟨h,fun u hu=>by rw[CQ l' v' h];exact hu⟩
 · have he:l'=l0:=by simpa using A6
   subst he;rw[hs',if_pos rfl] at h;cases h;exact⟨_,by rw[CQ _ _ h0];exact hv,.own _ b o len cap z nw B8 how abu Ad hA⟩
 · have:l0= .slot j:=(acv.1 hj).symm
   exact R.CB j _ (this ▸ h0)
 · by_cases e:b1=b
   · subst e
     exact⟨hw.Ac _ _ h1,by rw[hw.Gb _ ⟨u,h1⟩];exact h2⟩
   · exact⟨⟨u,by rw[hw.cell e];exact h1⟩,by rw[hw.frozen e];exact h2⟩
 · have he:l'=l0:=by simpa using A6
   subst he;rw[hs',if_pos rfl] at h;cases h;exact⟨es,h0,hl.symm,fun b2 o2 L C hc=>⟨L,C,by rw[CQ _ _ h0];exact hc⟩⟩
 · have Ai:l1≠l0:=by simpa using hl1
   rw[hw.cell (hbn b1 (by rw[h1,how];simp[Ai]))]
   exact h
 · have key:∀ v0,s (.cell c)=some v0→x.ow (x.ad c.d c.k)=some (.box c.d c.k)∧(AK s [(l0,.own nw z B8)] (.cell ⟨c.d,c.k,0⟩)).isSome∧w'.frozen? (ad3 (x.ad c.d c.k) c.off)=false:=fun v0 hv0=>by
     obtain⟨h1,h2,h3⟩:=R.box c v0 hv0;refine⟨h1,(hB _ _ h2).1,?_⟩;rw[hw.frozen (fun e=>by rw[e,how] at h1;cases h1)]
     exact h3
   rw[hs'] at h;split at h
   · rename_i e;exact key _ (e ▸ h0)
   · exact key _ h
theorem Fr.write {dep:Nat} {l0:Loc} {b:Nat} {w':World} (how:x.ow b=some (.at l0)) (hw:BR b w w'):Fr dep x x w w':=
 ⟨by rw[hw.size];exact ab5 _,fun b' _ h=>⟨hw.other b' (fun e=>by rw[e,how] at h;simp at h),rfl⟩,fun _ _ _=>rfl,hw.io,hw.room,rfl⟩
theorem Rel.EG (R:Rel cfg x N s a w) {c:Cel} {old:V} (h0:s (.cell c)=some old) {v:Value} {y:V} (hy:y.A5=false) {l:Option Loc}
   (hv:RdV x s (Aa x a w) w l v y):Rel cfg x N (AK s [(.cell c,y)]) a (w.setCell (ad3 (x.ad c.d c.k) c.off) v):=by
 obtain⟨hbx,hal,hfz⟩:=R.box c old h0;obtain⟨u0,hu0,_⟩:=R.Bl _ _ h0;have hu0':w.cell? (ad3 (x.ad c.d c.k) c.off)=some u0:=hu0;have hw:=c7 w (x.ad c.d c.k) c.off v;have hs':∀ l',AK s [(.cell c,y)] l'=if l'= .cell c then some y else s l':=fun l'=>rfl
 have hB:∀ d j,(s (.cell ⟨d,j,0⟩)).isSome→(AK s [(.cell c,y)] (.cell ⟨d,j,0⟩)).isSome∧x.ad d j=x.ad d j:=by
   intro d j h;rw[hs'];split<;>simp[h]
 have CQ:∀ l' v',s l'=some v'→l'≠ .cell c→Aa x a (w.setCell (ad3 (x.ad c.d c.k) c.off) v) l'=Aa x a w l':=fun l' v' h Ai=>by
   cases l' with
   |slot k=>rfl
   | cell c'=>
     refine World.cell?_setCell_other _ _ _ _ (fun e=>Ai ?_)
     simp only[Addr.mk.injEq,and_true] at e;obtain⟨h1,_,_⟩:=R.box c' v' h;rw[← e.1,hbx] at h1;obtain⟨c1,c2,c3⟩:=c;obtain⟨c1',c2',c3'⟩:=c';simp only[Option.some.injEq,Own.box.injEq] at h1;simp only at e;simp[h1.1,h1.2,e.2]
 have hbn:∀ b',x.ow b'≠some (.box c.d c.k)→b'≠x.ad c.d c.k:=fun b' h e=>h (by rw[e];exact hbx)
 have hS:∀ l' z es,AK s [(.cell c,y)] l'=some (.own false z es)→s l'=some (.own false z es)∧Aa x a (w.setCell (ad3 (x.ad c.d c.k) c.off) v) l'=Aa x a w l':=by
   intro l' z es h;rw[hs'] at h;split at h
   · cases h;simp[V.A5] at hy
   · rename_i Ai;exact⟨h,CQ l' _ h Ai⟩
 have hR:∀ b o u,w.cell? (ad3 b o)=some u→w.frozen? (ad3 b o)=false→(∃ u',(w.setCell (ad3 (x.ad c.d c.k) c.off) v).cell? (ad3 b o)=some u')∧(w.setCell (ad3 (x.ad c.d c.k) c.off) v).frozen? (ad3 b o)=false:=
   fun b o u h1 h2=>⟨pz _ _ _ _ h1,by rw[World.frozen?_setCell];exact h2⟩
 have hc:∀ b o u,x.ow b=none→w.cell? (ad3 b o)=some u→x.ow b=none∧(w.setCell (ad3 (x.ad c.d c.k) c.off) v).cell? (ad3 b o)=some u:=
   fun b o u h1 h2=>⟨h1,by rw[hw.cell (hbn b (by rw[h1];simp))];exact h2⟩
 have hO:∀ (l0:Loc) b,x.ow b=some (.at l0)→x.ow b=some (.at l0)∧∀ o u,w.cell? (ad3 b o)=some u→(w.setCell (ad3 (x.ad c.d c.k) c.off) v).cell? (ad3 b o)=some u:=
   fun l0 b h=>⟨h,fun o u h'=>by rw[hw.cell (hbn b (by rw[h];simp))];exact h'⟩
 refine R.step [.cell c] R.size rfl rfl (fun b' hb'=>hw.size ▸ R.bound b' hb') (fun l' A6 v' h=> ?_) (fun l' A6 v' h=> ?_) (fun j hj=> ?_)
   hc hR (fun l' A6 z' es1 h=> ?_) hB (fun l1 _ b1 h1=>hO l1 b1 h1) (fun c' v' h=> ?_) (R.FW hw) (fun b1 h _=>⟨rfl,hw.other b1 (hbn b1 (by rcases h with h|h<;>rw[h]<;>simp))⟩)
 · have Ai:l'≠ .cell c:=by simpa using A6
   rw[hs',if_neg Ai] at h;exact⟨h,fun u hu=>by rw[CQ l' v' h Ai];exact hu⟩
 · have he:l'= .cell c:=by simpa using A6
   subst he;rw[hs',if_pos rfl] at h;cases h;refine⟨v,World.cell?_setCell_same _ _ _ hu0',(hv.Cm hy).mono hc hR (fun l' z es h=> ?_) hB (fun l0 _ b h=>hO l0 b h)⟩
   obtain⟨h1,h2⟩:=hS l' z es h;exact⟨es,h1,rfl,fun b o L C CQ=>⟨L,C,by rw[h2];exact CQ⟩⟩
 · simp at hj
 · obtain⟨h1,h2⟩:=hS l' z' es1 h
   exact⟨es1,h1,rfl,fun b o L C CQ=>⟨L,C,by rw[h2];exact CQ⟩⟩
 · have key:∀ v0,s (.cell c')=some v0→x.ow (x.ad c'.d c'.k)=some (.box c'.d c'.k)∧(AK s [(.cell c,y)] (.cell ⟨c'.d,c'.k,0⟩)).isSome∧(w.setCell (ad3 (x.ad c.d c.k) c.off) v).frozen? (ad3 (x.ad c'.d c'.k) c'.off)=false:=fun v0 hv0=>by
     obtain⟨h1,h2,h3⟩:=R.box c' v0 hv0;exact⟨h1,(hB _ _ h2).1,by rw[World.frozen?_setCell];exact h3⟩
   rw[hs'] at h;split at h
   · rename_i e;cases e;exact key _ h0
   · exact key _ h
theorem Fr.EG {dep:Nat} {d k:Nat} (hb:x.ow (x.ad d k)=some (.box d k)) (o:Nat) (v:Value):Fr dep x x w (w.setCell (ad3 (x.ad d k) o) v):=
 ⟨by simp,fun b' _ h=>⟨j7 _ _ _ (fun e=>by rw[show b'=x.ad d k from e,hb] at h;simp at h),rfl⟩,fun _ _ _=>rfl,⟨rfl,rfl,rfl⟩,(c7 w _ _ _).room,rfl⟩
theorem Rel.alloc (R:Rel cfg x N s a w) (ob:Obj) (o:Option Own) (hob:bJ ob:=by simp[bJ]):Rel cfg (x.AU w.heap.size o) N s a (w.alloc ob):=by
 have hlt:∀ b,x.ow b≠none→b≠w.heap.size:=fun b h e=>by have:=R.bound b h;omega
 have hold:∀ b o' u,w.cell? (ad3 b o')=some u→b≠w.heap.size:=fun b o' u h e=>by have:=World.block_lt_of_cell? _ _ h;simp at this;omega
 have Ag:∀ b o',b≠w.heap.size→(w.alloc ob).cell? (ad3 b o')=w.cell? (ad3 b o'):=fun b o' h=>World.cell?_alloc_old _ _ _ h
 have CQ:∀ l' v,s l'=some v→Aa (x.AU w.heap.size o) a (w.alloc ob) l'=Aa x a w l':=fun l' v h=>by
   cases l' with
   |slot k=>rfl
   | cell c=>
     obtain⟨h1,_,_⟩:=R.box c v h;exact Ag _ _ (hlt _ (by rw[Cx.D0,h1];simp))
 refine R.step [] R.size rfl rfl (fun b' hb'=> ?_) (fun l' _ v' h=>⟨h,fun u hu=>by rw[CQ l' v' h];exact hu⟩) (fun l' A6=>by simp at A6) (fun j hj=>by simp at hj)
   (fun b1 o1 u h1 h2=>⟨?_,by rw[Ag _ _ (hold b1 o1 u h2)];exact h2⟩) (fun b1 o1 u h1 h2=>⟨⟨u,by rw[Ag _ _ (hold b1 o1 u h1)];exact h1⟩,?_⟩) (fun l' A6=>by simp at A6)
   (fun d k h=>⟨h,rfl⟩) (fun l1 _ b1 h1=>⟨?_,fun o1 u h=>by rw[Ag _ _ (hlt b1 (by rw[h1];simp))];exact h⟩) (fun c v' h=> ?_) (fun b1 h1=> ?_) (fun b1 h hlt'=>⟨Cx.AO _ _ abu,by show(w.heap.push ob)[b1]? =_;rw[Array.getElem?_push,if_neg abu]⟩)
 · by_cases e:b'=w.heap.size
   · subst e;simp
   · rw[Cx.AO _ _ e] at hb';have:=R.bound _ hb';simp;omega
 · rw[Cx.AO _ _ (hold b1 o1 u h2)];exact h1
 · rw[World.frozen?_alloc_old _ _ _ (hold b1 o1 u h1)];exact h2
 · rw[Cx.AO _ _ (hlt b1 (by rw[h1];simp))];exact h1
 · obtain⟨h1,h2,h3⟩:=R.box c v' h
   have hn:=hlt _ (by rw[h1];simp)
   exact⟨by rw[Cx.D0,Cx.AO _ _ hn];exact h1,h2,by rw[Cx.D0,World.frozen?_alloc_old _ _ _ hn];exact h3⟩
 · by_cases e:b1=w.heap.size
   · subst e
     intro c t lo hi h2;have h3:(w.heap.push ob)[w.heap.size]? =some (.cells c t (lo,hi)):=h2;rw[Array.getElem?_push,if_pos rfl] at h3;cases h3;exact hob
   · rw[Cx.AO _ _ e] at h1
     have hlt':=R.bound b1 (by rcases h1 with h1|⟨_,h1⟩<;>rw[h1]<;>simp)
     refine(R.Bo b1 h1).heap ?_;show(w.heap.push ob)[b1]? =_;rw[Array.getElem?_push,if_neg abu]
theorem Fr.alloc {dep:Nat} (ob:Obj) (o:Option Own):Fr dep x (x.AU w.heap.size o) w (w.alloc ob):=
 ⟨by simp,fun b' hb _=>⟨heap_alloc_lt w ob hb,Cx.AO _ _ abu⟩,fun _ _ _=>rfl,⟨rfl,rfl,rfl⟩,fun b' o' u h1 h2=>
  have Ai:b'≠w.heap.size:=fun e=>by have:=World.block_lt_of_cell? _ _ h1;simp[e] at this
  ⟨⟨u,by rw[World.cell?_alloc_old _ _ _ Ai];exact h1⟩,by rw[World.frozen?_alloc_old _ _ _ Ai];exact h2⟩,rfl⟩
where
 heap_alloc_lt (w:World) (ob:Obj) {b:Nat} (h:b<w.heap.size):(w.alloc ob).heap[b]? =w.heap[b]? :=by
  show(w.heap.push ob)[b]? =_;rw[Array.getElem?_push,if_neg abu]
theorem Rel.drew (R:Rel cfg x N s a w):Rel cfg x N s a w.drew:=
 R.step [] R.size rfl rfl R.bound (fun l' _ v' h=>⟨h,fun u hu=>by cases l'<;>exact hu⟩) (fun l' A6=>by simp at A6) (fun j hj=>by simp at hj)
  (fun b o u h1 h2=>⟨h1,h2⟩) (fun b o u h1 h2=>⟨⟨u,h1⟩,h2⟩) (fun l' A6=>by simp at A6) (fun d k h=>⟨h,rfl⟩) (fun l0 _ b h=>⟨h,fun _ _ h=>h⟩)
  (fun c v h=>R.box c v h) (fun b h=>(R.Bo b h).heap rfl) (fun _ _ _=>⟨rfl,rfl⟩)
theorem Fr.drew {dep:Nat}:Fr dep x x w w.drew:=⟨ab5 _,fun _ _ _=>⟨rfl,rfl⟩,fun _ _ _=>rfl,⟨rfl,rfl,rfl⟩,fun _ _ u h1 h2=>⟨⟨u,h1⟩,h2⟩,rfl⟩
def Cx.lay (x:Cx) (d k b:Nat):Cx:={x with ad:=fun d' k'=>if d'=d∧k'=k then b else x.ad d' k'}
@[simp] theorem Cx.EI (x:Cx) (d k b:Nat):(x.lay d k b).ad d k=b:=by simp[Cx.lay]
theorem Cx.HJ (x:Cx) {d k b d' k':Nat} (h:¬ (d'=d∧k'=k)):(x.lay d k b).ad d' k'=x.ad d' k':=by simp[Cx.lay,h]
@[simp] theorem Cx.lay_ow (x:Cx) (d k b:Nat):(x.lay d k b).ow=x.ow:=rfl
theorem Rel.lay (R:Rel cfg x N s a w) {d k:Nat} (h0:s (.cell ⟨d,k,0⟩)=none) (b:Nat):Rel cfg (x.lay d k b) N s a w:=by
 have Ai:∀ c v,s (.cell c)=some v→(x.lay d k b).ad c.d c.k=x.ad c.d c.k:=fun c v h=>Cx.HJ _ (fun e=>by
   obtain⟨_,h2,_⟩:=R.box c v h;rw[e.1,e.2,h0] at h2;simp at h2)
 refine R.step [] R.size rfl rfl R.bound (fun l' _ v' h=>⟨h,fun u hu=> ?_⟩) (fun l' A6=>by simp at A6) (fun j hj=>by simp at hj)
   (fun b o u h1 h2=>⟨h1,h2⟩) (fun b o u h1 h2=>⟨⟨u,h1⟩,h2⟩) (fun l' A6=>by simp at A6) (fun d' k' h=>⟨h,?_⟩) (fun l0 _ b h=>⟨h,fun _ _ h=>h⟩) (fun c v h=> ?_) R.Bo (fun _ _ _=>⟨rfl,rfl⟩)
 · cases l' with
   |slot k=>exact hu
   |cell c=>simp only[Aa,Ai c v' h] at hu ⊢;exact hu
 · obtain⟨v,hv⟩:=acl.1 h;exact Ai ⟨d',k',0⟩ v hv
 · rw[Ai c v h];exact R.box c v h
theorem Fr.lay {dep d k b:Nat} (h:dep≤d):Fr dep x (x.lay d k b) w w:=⟨ab5 _,fun _ _ _=>⟨rfl,rfl⟩,fun d' k' hd=>Cx.HJ _ abu,.refl _,.refl _,rfl⟩
theorem Rel.Qm (R:Rel cfg x N s a w) {c:Cel} (hb:x.ow (x.ad c.d c.k)=some (.box c.d c.k)) (hal:c.off=0∨(s (.cell ⟨c.d,c.k,0⟩)).isSome)
   (hf:w.frozen? (ad3 (x.ad c.d c.k) c.off)=false) {v:Value} (Ag:w.cell? (ad3 (x.ad c.d c.k) c.off)=some v) {y:V} (hy:y.A5=false) {l:Option Loc}
   (hv:RdV x s (Aa x a w) w l v y):Rel cfg x N (AK s [(.cell c,y)]) a w:=by
 have hs':∀ l',AK s [(.cell c,y)] l'=if l'= .cell c then some y else s l':=fun l'=>rfl
 have hB:∀ d j,(s (.cell ⟨d,j,0⟩)).isSome→(AK s [(.cell c,y)] (.cell ⟨d,j,0⟩)).isSome∧x.ad d j=x.ad d j:=by
   intro d j h;rw[hs'];split<;>simp[h]
 have hS:∀ l' z es,AK s [(.cell c,y)] l'=some (.own false z es)→s l'=some (.own false z es):=by
   intro l' z es h;rw[hs'] at h;split at h
   · cases h;simp[V.A5] at hy
   · exact h
 have h00:(AK s [(.cell c,y)] (.cell ⟨c.d,c.k,0⟩)).isSome:=by
   rcases hal with h|h
   · rw[hs',if_pos (by obtain⟨c1,c2,c3⟩:=c;simp at h;simp[h])];rfl
   · exact(hB _ _ h).1
 refine R.step [.cell c] R.size rfl rfl R.bound (fun l' A6 v' h=> ?_) (fun l' A6 v' h=> ?_) (fun j hj=>by simp at hj)
   (fun b o u h1 h2=>⟨h1,h2⟩) (fun b o u h1 h2=>⟨⟨u,h1⟩,h2⟩) (fun l' A6 z es h=> ?_) hB (fun l0 _ b h=>⟨h,fun _ _ h=>h⟩) (fun c' v' h=> ?_) R.Bo (fun _ _ _=>⟨rfl,rfl⟩)
 · have Ai:l'≠ .cell c:=by simpa using A6
   rw[hs',if_neg Ai] at h;exact⟨h,fun u hu=>hu⟩
 · have he:l'= .cell c:=by simpa using A6
   subst he;rw[hs',if_pos rfl] at h;cases h;refine⟨v,Ag,(hv.Cm hy).mono (fun b o u h1 h2=>⟨h1,h2⟩) (fun b o u h1 h2=>⟨⟨u,h1⟩,h2⟩) (fun l' z es h=> ?_) hB (fun l0 _ b h=>⟨h,fun _ _ h=>h⟩)⟩
   exact⟨es,hS l' z es h,rfl,fun b o L C CQ=>⟨L,C,CQ⟩⟩
 · exact⟨es,hS l' z es h,rfl,fun b o L C CQ=>⟨L,C,CQ⟩⟩
 · rw[hs'] at h
   split at h
   · rename_i e;cases e;exact⟨hb,h00,hf⟩
   · obtain⟨h1,h2,h3⟩:=R.box c' v' h
     exact⟨h1,(hB _ _ h2).1,h3⟩
theorem Rel.reown (R:Rel cfg x N s a w) {l0 l1:Loc} (Ai:l0≠l1) {nw:Bool} {z:Nat} {es:List D} (h0:s l0=some (.own nw z es)) {y1:V} (h1:s l1=some y1)
   {b:Nat} (how:x.ow b=some (.at l0)) {o len cap:Nat} (hv1:Aa x a w l1=some (.slice (some (ad3 b o)) len cap)) {B8:List D} (hA:Arr (AE x) w b o cap z B8) (hl:B8.length=len) (Ad:len≤cap):
   Rel cfg (x.AU b (some (.at l1))) N (AK s [(l1,.own true z B8),(l0,.AM)]) a w:=by
 have hs':∀ l',AK s [(l1,.own true z B8),(l0,.AM)] l'=if l'=l0 then some .AM else if l'=l1 then some (.own true z B8) else s l':=fun l'=>rfl
 have hx:∀ b',x.ow b'=none→(x.AU b (some (.at l1))).ow b'=none:=fun b' h=>by
   rw[Cx.AO];· exact h
   intro e;rw[e,how] at h;cases h
 have hB:∀ d j,(s (.cell ⟨d,j,0⟩)).isSome→(AK s [(l1,.own true z B8),(l0,.AM)] (.cell ⟨d,j,0⟩)).isSome∧(x.AU b (some (.at l1))).ad d j=x.ad d j:=by
   intro d j h;rw[hs'];split
   · simp
   · split<;>simp[h]
 have CQ:∀ l',Aa (x.AU b (some (.at l1))) a w l'=Aa x a w l':=fun l'=>by cases l'<;>rfl
 have hpl:∀ j,Loc.slot j∈[l1,l0]→j<N:=fun j hj=>by
   simp only[ach,adk,or_false] at hj;rcases hj with hj|hj
   · exact R.CB j _ (hj ▸ h1)
   · exact R.CB j _ (hj ▸ h0)
 refine R.step [l1,l0] R.size rfl rfl (fun b' hb'=> ?_) (fun l' A6 v' h=> ?_) (fun l' A6 v' h=> ?_) hpl
   (fun b o u h1 h2=>⟨hx b h1,h2⟩) (fun b o u h1 h2=>⟨⟨u,h1⟩,h2⟩) (fun l' A6 z es h=> ?_) hB (fun l2 hl2 b2 h2=>⟨?_,fun _ _ h=>h⟩) (fun c v' h=> ?_) (R.Ct (fun _=> .inr ⟨_,how⟩)) (fun b' h _=>⟨Cx.AO _ _ (fun e=>by subst e;rw[how] at h;rcases h with h|h<;>cases h),rfl⟩)
 · by_cases e:b'=b
   · subst e;exact R.bound _ (by rw[how];simp)
   · rw[Cx.AO _ _ e] at hb';exact R.bound _ hb'
 · simp only[ach,adk,or_false,not_or] at A6
   rw[hs',if_neg A6.2,if_neg A6.1] at h;exact⟨h,fun u hu=>by rw[CQ];exact hu⟩
 · rw[hs'] at h
   simp only[ach,adk,or_false] at A6;by_cases e:l'=l0
   · rw[if_pos e] at h
     cases h;obtain⟨u,hu,_⟩:=R.Bl l0 _ h0;exact⟨u,by rw[e,CQ];exact hu,.AM _ _⟩
   · rw[if_neg e] at h
     rcases A6 with A6|A6
     · subst A6
       rw[if_pos rfl] at h;cases h;exact⟨_,by rw[CQ];exact hv1,.own _ b o len cap z true B8 abw hl Ad (hA.mono (fun b o u h1 h2=>⟨hx b h1,h2⟩) (fun _ _ h=>h) (fun _ _ _ h=>h))⟩
     · exact absurd A6 e
 · rw[hs'] at h
   split at h
   · cases h
   · split at h
     · cases h
     · simp_all
 · simp only[ach,adk,or_false,not_or] at hl2
   rw[Cx.AO];· exact h2
   intro e;rw[e,how] at h2;cases h2;exact hl2.2 rfl
 · have key:∀ v0,s (.cell c)=some v0→(x.AU b (some (.at l1))).ow (x.ad c.d c.k)=some (.box c.d c.k)∧
       (AK s [(l1,.own true z B8),(l0,.AM)] (.cell ⟨c.d,c.k,0⟩)).isSome∧w.frozen? (ad3 (x.ad c.d c.k) c.off)=false:=fun v0 hv0=>by
     obtain⟨h1,h2,h3⟩:=R.box c v0 hv0;refine⟨?_,(hB _ _ h2).1,h3⟩;rw[Cx.AO];· exact h1
     intro e;rw[e,how] at h1;cases h1
   rw[hs'] at h;split at h
   · rename_i e;exact key _ (e ▸ h0)
   · split at h
     · rename_i e;exact key _ (e ▸ h1)
     · exact key _ h
theorem Rel.VW (R:Rel cfg x N s a w) {l1:Loc} {y1:V} (h1:s l1=some y1) {b:Nat} (how:x.ow b=some (.at l1)) {o len cap z:Nat}
   (hv1:Aa x a w l1=some (.slice (some (ad3 b o)) len cap)) {B8:List D} (hA:Arr (AE x) w b o cap z B8) (hl:B8.length=len) (Ad:len≤cap):
   Rel cfg x N (AK s [(l1,.own true z B8)]) a w:=by
 have hs':∀ l',AK s [(l1,.own true z B8)] l'=if l'=l1 then some (.own true z B8) else s l':=fun l'=>rfl
 have hB:∀ d j,(s (.cell ⟨d,j,0⟩)).isSome→(AK s [(l1,.own true z B8)] (.cell ⟨d,j,0⟩)).isSome∧x.ad d j=x.ad d j:=by
   intro d j h;rw[hs'];split<;>simp[h]
 refine R.step [l1] R.size rfl rfl R.bound (fun l' A6 v' h=> ?_) (fun l' A6 v' h=> ?_) (fun j hj=> ?_)
   (fun b o u h1 h2=>⟨h1,h2⟩) (fun b o u h1 h2=>⟨⟨u,h1⟩,h2⟩) (fun l' A6 z es h=> ?_) hB (fun l0 _ b h=>⟨h,fun _ _ h=>h⟩) (fun c v' h=> ?_) R.Bo (fun _ _ _=>⟨rfl,rfl⟩)
 · have Ai:l'≠l1:=by simpa using A6
   rw[hs',if_neg Ai] at h;exact⟨h,fun u hu=>hu⟩
 · have he:l'=l1:=by simpa using A6
   subst he;rw[hs',if_pos rfl] at h;cases h;exact⟨_,hv1,.own _ b o len cap z true B8 how hl Ad hA⟩
 · have:l1= .slot j:=(acv.1 hj).symm
   exact R.CB j _ (this ▸ h1)
 · have he:l'=l1:=by simpa using A6
   subst he;rw[hs',if_pos rfl] at h;cases h
 · have key:∀ v0,s (.cell c)=some v0→x.ow (x.ad c.d c.k)=some (.box c.d c.k)∧
      (AK s [(l1,.own true z B8)] (.cell ⟨c.d,c.k,0⟩)).isSome∧w.frozen? (ad3 (x.ad c.d c.k) c.off)=false:=fun v0 hv0=>by
     obtain⟨h1,h2,h3⟩:=R.box c v0 hv0;exact⟨h1,(hB _ _ h2).1,h3⟩
   rw[hs'] at h;split at h
   · rename_i e;exact key _ (e ▸ h1)
   · exact key _ h
end
