import Derived.Calls
import Derived.Laws.Cells
import Derived.Laws.Append
namespace Go.Ev
open Go
theorem yp {P:Prop} (h:P:=by omega):P:=h
theorem yt {P:Prop} (h:P:=by simp):P:=h
theorem yu {P:Prop} (h:P:=by decide):P:=h
abbrev yw:= @Option.map_eq_some_iff
abbrev yy:= @List.getElem?_eq_getElem
abbrev yz:= @List.length_map
abbrev y4:= @List.getElem?_eq_some_iff
abbrev y7:= @Nat.le_refl
abbrev y8:= @Option.bind_eq_some_iff
abbrev y9:= @Bool.eq_false_or_eq_true
abbrev zb:= @decide_eq_false_iff_not
abbrev ze:= @Bool.and_eq_true
abbrev zf:= @Bool.false_eq_true
abbrev zg:= @List.getElem?_map
abbrev zh:= @decide_eq_true_eq
abbrev zi:= @beq_eq_false_iff_ne
abbrev zj:= @Array.getElem?_eq_some_iff
abbrev zm:= @Array.getElem?_eq_getElem
abbrev zn:= @Option.isSome_iff_exists
abbrev zo:= @List.length_append
abbrev zp:= @Nat.lt_of_lt_of_le
abbrev zq:= @List.mem_cons_of_mem
abbrev zr:= @List.mem_cons
abbrev zt:= @beq_iff_eq
abbrev zu:= @Nat.mul_le_mul_right
abbrev z8:= @List.eq_nil_of_length_eq_zero
abbrev aaa:= @Nat.le_trans
abbrev aab:= @List.mem_flatMap
abbrev aac:= @List.all_eq_true
abbrev aad:= @Nat.zero_le
abbrev aae:= @List.getElem?_of_mem
abbrev aaf:= @Nat.add_mul
abbrev aag:= @List.getElem?_append_left
abbrev aah:= @Array.getElem?_append_left
abbrev aai:= @List.mem_of_mem_drop
abbrev aaj:= @List.mem_of_mem_take
abbrev aak:= @List.mem_append_right
abbrev aal:= @List.mem_singleton
abbrev aam:= @List.append_assoc
abbrev aan:= @List.mem_append
abbrev aao:= @List.length_take
abbrev aap:= @List.mem_or_eq_of_mem_set
abbrev aaq:= @Nat.le_max_left
abbrev aar:= @List.getElem?_eq_none
abbrev aas:= @List.mem_map
abbrev aat:= @List.length_drop
abbrev aaw:= @Bool.not_eq_true'
abbrev aax:= @List.mem_range
abbrev aay:= @List.not_mem_nil
abbrev aaz:= @List.take_of_length_le
abbrev aa0:= @Bool.not_false
abbrev aa1:= @Int.toNat_natCast
abbrev aa2:= @List.length_pos_iff
abbrev aa3:= @Bool.or_eq_true
abbrev aa4:= @List.mem_filter
abbrev aa5:= @List.drop_eq_getElem_cons
abbrev aa6:= @not_true_eq_false
end Go.Ev
namespace Go.Ev
inductive D where
 |bool (b:Bool)
 |int (k:IntKind) (n:Int)
 |str (s:List UInt8)
 |nilS|nilP|nilI|nilF|nilM
 |sl (es:List D)
 |agg (cs:List D)
 |ptr (e:D)
 |ifc (t:TypeId) (d:D)
 |fn (f:FuncId)
 |tup (ds:List D)
 |unk
 |unkB
 deriving Inhabited
def D.cells:D→List D
 | .agg cs=>cs
 |d=>[d]
def D.isCell:D→Bool
 | .agg _| .tup _=>false
 |_=>true
def D.storable:D→Bool
 | .tup _=>false
 |_=>true
structure Cel where
 d:Nat
 k:Nat
 off:Nat
 deriving DecidableEq
inductive Loc where
 |slot (k:Nat)
 |cell (c:Cel)
 deriving DecidableEq
inductive V where
 |d (x:D)
 |own (new:Bool) (z:Nat) (es:List D)
 |bor (l:Loc) (off len:Nat)
 |bref (l:Loc) (i off:Nat)
 |iptr (e:D) (off:Nat)
 |ref (d k off:Nat)
 |clo (f:FuncId) (first captured:List V)
 |ifc (t:TypeId) (v:V)
 |vec (ys:List V)
 |vref (y:V)
 |rcd (ys:List V)
 |junk
 deriving Inhabited
inductive IOpd where
 |t (k:Nat)
 |c (x:D)
 |g (n:Nat)
inductive ECls where
 |bool|ptr|func|iface
 |ifnil
 |agg (ks:List Nat)
inductive IOp where
 |mv (x:IOpd)
 |asg (x:IOpd)
 |pick (c a b:IOpd)
 |alloc (zs:List D)
 |box (n:Nat) (x:IOpd)
 |build (zs:List D) (ps:List (Nat×Nat×IOpd))
 |buildR (n:Nat) (ps:List (Nat×Nat×IOpd))
 |lit (own:Bool) (z n:Nat) (zd:D) (ps:List (Nat×IOpd))
 |load (z:Option Nat) (a:IOpd)
 |store (n:Nat) (a x:IOpd)
 |nilck (x:IOpd)
 |bin (op:BinOp) (x y:IOpd)
 |eqn (neg:Bool) (cls:ECls) (x y:IOpd)
 |isNil (neg:Bool) (x:IOpd)
 |un (op:UnOp) (x:IOpd)
 |cvInt (k:IntKind) (x:IOpd)
 |cvStr (x:IOpd)
 |b2s (x:IOpd)
 |s2b (own:Bool) (x:IOpd)
 |cvB (own:Bool) (x:IOpd)
 |mkI (t:TypeId) (x:IOpd)
 |mkF (f:FuncId) (first captured:List IOpd)
 |mkS (z bytes:Nat) (zd:D) (len cap:IOpd)
 |slice (z:Nat) (x:IOpd) (lo hi mx:Option IOpd)
 |sliceS (x:IOpd) (lo hi:Option IOpd)
 |fieldA (off:Nat) (x:IOpd)
 |field (off:Nat) (z:Option Nat) (x:IOpd)
 |idxA (z:Nat) (x i:IOpd)
 |idxS (x i:IOpd)
 |idxC (n z:Nat) (g:Bool) (x i:IOpd)
 |idxB (n z:Nat) (x i:IOpd)
 |ext (x:IOpd) (i:Nat)
 |len (isS:Bool) (x:IOpd)
 |minmax (mx:Bool) (xs:List IOpd)
 |append (z bytes:Nat) (x y:IOpd)
 |appendS (x y:IOpd)
 |copy (z:Nat) (x y:IOpd)
 |tass (t:TypeId) (zero:D) (ok:Bool) (x:IOpd)
 |call (own:Bool) (f:FuncId) (args:List IOpd)
 |callg (own:Bool) (f:FuncId) (args:List IOpd) (i:Nat)
 |callv (own:Bool) (x:IOpd) (args:List IOpd)
 |inv (own:Bool) (x:IOpd) (name:String) (args:List IOpd)
 |bad
structure IOper where
 dst:Option Nat
 guard:Option (Nat×Bool)
 op:IOp
inductive ICode where
 |skip
 |region (ops:List IOper) (unord:List (Nat×Nat)) (keep:List Nat)
 |seq (a b:ICode)
 |cond (x:IOpd) (a b:ICode)
 |block (id:Nat) (b:ICode)
 |loop (b:ICode)
 |each (x:IOpd) (ps:List Nat) (a b:ICode)
 |exit (id:Nat)
 |ret
 |demote (ls:List Nat)
 |give (ls:List Nat)
 |free (k:Nat)
 |bad
inductive IRes where
 |t (k:Nat)
 |cell (k:Nat) (z:Option Nat)
structure IFunc where
 arity:Nat
 results:List IRes
 body:ICode
structure Cfg where
 funcs:FuncId→Option IFunc
 meth:TypeId→String→Option FuncId
 glob:Nat→Option D
 gobj:Nat→Option (Array Value):=fun _=>none
 intTy:TypeId→Bool
 clip:FuncId→Bool
 ext:FuncId→Option (List D→Option V)
 iter:FuncId→Option (List D→Option (List (List D))):=fun _=>none
 chg:FuncId→Option (List (Nat×Nat)):=fun _=>none
section maps
variable {α:Type} [DecidableEq α] {β:Type}
def lk:List (α×β)→α→Option β
 | [],_=>none
 | (k',v)::r,k=>if k'=k then some v else lk r k
def st:List (α×β)→α→β→List (α×β)
 | [],k,v=>[(k,v)]
 | (k',v')::r,k,v=>if k'=k then(k,v)::r else(k',v')::st r k v
end maps
structure St where
 env:List (Nat×V)
 mem:List (Cel×V)
def St.get (s:St):Loc→Option V
 | .slot k=>lk s.env k
 | .cell c=>lk s.mem c
def St.set (s:St) (l:Loc) (v:V):St:=
 match l with
 | .slot k=>{s with env:=st s.env k v}
 | .cell c=>{s with mem:=st s.mem c v}
def St.upd (s:St):List (Loc×V)→St
 | []=>s
 | (l,v)::r=>(s.set l v).upd r
abbrev Get:=Loc→Option V
def bh:Nat:=2 ^ 36
def a2w:Nat:=2 ^ 60
def val (cfg:Cfg) (s:Get):IOpd→Option V
 | .t k=>s (.slot k)
 | .c x=>some (.d x)
 | .g n=>(cfg.glob n).map fun e=> .iptr e 0
def cont (s:Get):V→Option (List D)
 | .d .nilS=>some []
 | .d (.sl es)=>some es
 | .own _ _ es=>some es
 | .bor l off n=>match s l with
  |some (.own false _ es)=>some ((es.drop off).take n)
  |_=>none
 |_=>none
def D.can:D→D
 | .nilS=> .sl []
 |d=>d
def D.canA:D→D
 | .agg cs=> .agg (cs.map D.can)
 |d=>d.can
def D.canon:D→D
 | .tup cs=> .tup (cs.map D.canA)
 |d=>d.canA
def V.asD:V→Option D
 | .d x=>some x.canon
 | .iptr e 0=>some (.ptr e)
 |_=>none
def dat (cfg:Cfg) (s:Get) (x:IOpd):Option D:=(val cfg s x).bind V.asD
def dats (cfg:Cfg) (s:Get):List IOpd→Option (List D)
 | []=>some []
 | x::r=>match dat cfg s x,dats cfg s r with
  |some d,some ds=>some (d::ds)
  |_,_=>none
def put1 (dst:Option Nat) (v:V):List (Loc×V):=
 match dst with
 |some k=>[(.slot k,v)]
 |none=>[]
def setCells (cs:List D) (off:Nat):List D→List D
 | []=>cs
 |x::r=>setCells (cs.set off x) (off+1) r
def fillD (cs:List D):List (Nat×Nat×D)→Option (List D)
 | []=>some cs
 | (off,size,x)::r=>
  if x.cells.length=size∧off+size≤cs.length∧x.storable then fillD (setCells cs off x.cells) r else none
def fillE (z:Nat) (es:List D):List (Nat×D)→Option (List D)
 | []=>some es
 | (i,x)::r=>if x.cells.length=z∧i<es.length∧x.storable then fillE z (es.set i x) r else none
def ldD (z:Option Nat) (e:D) (off:Nat):Option D:=
 match z with
 |none=>e.cells[off]?
 |some z=>if off+z≤e.cells.length then some (.agg ((e.cells.drop off).take z)) else none
def ay (op:BinOp) (k:IntKind) (a:Int) (k':IntKind) (b:Int):Option D:=
 match op with
 | .shl=>if b<0 then none else some (.int k (k.wrap (a*2 ^ (min b.toNat k.bits))))
 | .shr=>if b<0 then none else some (.int k (a.fdiv (2 ^ (min b.toNat k.bits))))
 | .add=>if k=k' then some (.int k (k.wrap (a+b))) else none
 | .sub=>if k=k' then some (.int k (k.wrap (a-b))) else none
 | .mul=>if k=k' then some (.int k (k.wrap (a*b))) else none
 | .quo=>if k=k'∧b≠0 then some (.int k (k.wrap (a.tdiv b))) else none
 | .rem=>if k=k'∧b≠0 then some (.int k (a.tmod b)) else none
 | .and=>if k=k' then some (.int k (k.wrap (BitVec.ofInt k.bits a &&& BitVec.ofInt k.bits b).toNat)) else none
 | .or=>if k=k' then some (.int k (k.wrap (BitVec.ofInt k.bits a ||| BitVec.ofInt k.bits b).toNat)) else none
 | .xor=>if k=k' then some (.int k (k.wrap (BitVec.ofInt k.bits a ^^^ BitVec.ofInt k.bits b).toNat)) else none
 | .andNot=>if k=k' then some (.int k (k.wrap (BitVec.ofInt k.bits a &&& ~~~ BitVec.ofInt k.bits b).toNat)) else none
 | .eql=>if k=k' then some (.bool (a==b)) else none
 | .neq=>if k=k' then some (.bool (a !=b)) else none
 | .lss=>if k=k' then some (.bool (decide (a<b))) else none
 | .leq=>if k=k' then some (.bool (decide (a≤b))) else none
 | .gtr=>if k=k' then some (.bool (decide (a>b))) else none
 | .geq=>if k=k' then some (.bool (decide (a≥b))) else none
def fu (op:BinOp) (a b:List UInt8):Option D:=
 match op with
 | .add=>if a.length+b.length≤a2w then some (.str (a++b)) else none
 | .eql=>some (.bool (a==b))
 | .neq=>some (.bool !(a==b))
 | .lss=>some (.bool (_root_.Go.Op.bytesLess a b))
 | .leq=>some (.bool (_root_.Go.Op.bytesLess a b||a==b))
 | .gtr=>some (.bool !(_root_.Go.Op.bytesLess a b||a==b))
 | .geq=>some (.bool !(_root_.Go.Op.bytesLess a b))
 |_=>none
def D.bin (op:BinOp):D→D→Option D
 | .int k a,.int k' b=>ay op k a k' b
 | .str a,.str b=>fu op a b
 |_,_=>none
def t7:Nat→D→D→Option Bool
 |0,.int k a,.int k' b=>if k=k' then some (a==b) else none
 |1,.bool a,.bool b=>some (a==b)
 |2,.str a,.str b=>some (a==b)
 |_,_,_=>none
def dh:List Nat→List D→List D→Option Bool
 | [],[],[]=>some true
 | n::ns,a::r,b::r'=>match t7 n a b,dh ns r r' with
  |some t,some t'=>some (t&&t')
  |_,_=>none
 |_,_,_=>none
def D.eqn (cfg:Cfg):ECls→D→D→Option Bool
 | .bool,.bool a,.bool b=>some (a==b)
 | .ptr,.nilP,.nilP=>some true
 | .ptr,.nilP,.ptr _=>some false
 | .ptr,.ptr _,.nilP=>some false
 | .agg ks,.agg xs,.agg ys=>dh ks xs ys
 | .func,.nilF,.nilF=>some true
 | .func,.nilF,.fn _=>some false
 | .func,.fn _,.nilF=>some false
 | .iface,.nilI,.ifc _ _=>some false
 | .iface,.ifc _ _,.nilI=>some false
 | .iface,.ifc t a,.ifc u b=>if t≠u then some false else match a,b with
  | .int k a,.int k' b=>if cfg.intTy t∧k=k' then some (a==b) else none
  |_,_=>none
 | .ifnil,.nilI,_=>some true
 | .ifnil,.ifc _ _,_=>some false
 |_,_,_=>none
def V.eqn (cfg:Cfg):ECls→V→V→Option Bool
 |c,.d a,.d b=>a.eqn cfg c b
 | .ptr,.ref _ _ _,.d .nilP=>some false
 | .ptr,.iptr _ _,.d .nilP=>some false
 | .ptr,.bref _ _ _,.d .nilP=>some false
 | .func,.clo _ _ _,.d .nilF=>some false
 | .iface,.ifc _ _,.d .nilI=>some false
 | .ifnil,.ifc _ _,.d .nilI=>some false
 |_,_,_=>none
def ll (neg:Bool):V→Option D
 | .d .nilS| .d (.sl [])=>some .unkB
 | .d (.sl (_::_))| .own _ _ _| .bor _ _ _=>some (.bool neg)
 |_=>none
def D.un (op:UnOp):D→Option D
 | .int k n=>match op with
  | .neg=>some (.int k (k.wrap (0-n)))
  | .xor=>some (.int k (k.wrap (BitVec.ofInt k.bits (if k.signed then -1 else k.max) ^^^ BitVec.ofInt k.bits n).toNat))
  |_=>none
 | .bool b=>match op with
  | .not=>some (.bool !b)
  |_=>none
 |_=>none
def D.byte? :D→Option UInt8
 | .int .u8 n=>some (UInt8.ofNat n.toNat)
 |_=>none
def bu:List D→Option (List UInt8)
 | []=>some []
 | x::r=>match x.byte?,bu r with
  |some b,some bs=>some (b::bs)
  |_,_=>none
def byteD (b:UInt8):D:= .int .u8 b.toNat
def D.toInt? :D→Option Int
 | .int _ n=>some n
 |_=>none
def minD (mx:Bool):List D→Option D
 | []=>none
 | .int k a::r=>go k a r
 |_=>none
where
 go (k:IntKind) (a:Int):List D→Option D
  | []=>some (.int k a)
  | .int _ b::r=>go k (if mx then(if b>a then b else a) else(if b<a then b else a)) r
  |_=>none
def bc (cfg:Cfg) (s:Get) (len:Nat) (lo hi:Option IOpd):Option (Nat×Nat):=
 let h? :Option Nat:=match hi with
  |none=>some len
  | some x=>match(dat cfg s x).bind D.toInt? with
   |some n=>if 0≤n∧n≤len then some n.toNat else none
   |none=>none
 match h? with
 |none=>none
 | some h=>match lo with
  |none=>some (0,h)
  | some x=>match(dat cfg s x).bind D.toInt? with
   |some n=>if 0≤n∧n≤h then some (n.toNat,h) else none
   |none=>none
end Go.Ev
namespace Go.Ev
def allZ (z:Nat):List D→Bool
 | []=>true
 |e::r=>e.cells.length==z&&allZ z r
def vals (cfg:Cfg) (s:Get):List IOpd→Option (List V)
 | []=>some []
 | x::r=>match val cfg s x,vals cfg s r with
  |some v,some vs=>some (v::vs)
  |_,_=>none
def db (dep k:Nat):Nat→List V→List (Loc×V)
 |_,[]=>[]
 |off,v::r=>(.cell ⟨dep,k,off⟩,v)::db dep k (off+1) r
def cw (s:Get) (d k off:Nat):Nat→Option (List D×List (Loc×V))
 |0=>some ([],[])
 | n+1=>match s (.cell ⟨d,k,off⟩),cw s d k (off+1) n with
  |some (.d x),some (r,u)=>if x.isCell then some (x.can::r,u) else none
  |some (.iptr e 0),some (r,u)=>some (.ptr e::r,u)
  |some (.own _ _ es),some (r,u)=>some (.sl es::r,(.cell ⟨d,k,off⟩,.d (.sl es))::u)
  |_,_=>none
def alive (s:Get) (d k off:Nat):Nat→Bool
 |0=>true
 |n+1=>(s (.cell ⟨d,k,off⟩)).isSome&&alive s d k (off+1) n
def c8 (cfg:Cfg) (s:Get):List (Nat×Nat×IOpd)→Option (List (Nat×Nat×D))
 | []=>some []
 | (o,n,x)::r=>match dat cfg s x,c8 cfg s r with
  |some d,some ds=>some ((o,n,d)::ds)
  |_,_=>none
def parts2 (cfg:Cfg) (s:Get):List (Nat×IOpd)→Option (List (Nat×D))
 | []=>some []
 | (i,x)::r=>match dat cfg s x,parts2 cfg s r with
  |some d,some ds=>some ((i,d)::ds)
  |_,_=>none
def V.plainV:V→Bool
 | .d _| .iptr _ _| .ref _ _ _| .clo _ _ _| .ifc _ _=>true
 |_=>false
def evMv (dst:Option Nat) (x:IOpd) (v:V):Option (List (Loc×V)):=
 match x,v with
 | .t k,.own false _ es=>some (put1 dst (.bor (.slot k) 0 es.length))
 | .t k,.own true z es=>some (put1 dst (.own true z es)++[(.slot k,.junk)])
 |_,.rcd _=>none
 |_,v=>some (put1 dst v)
def evAsg (s:Get) (dst:Option Nat) (x:IOpd) (v:V):Option (List (Loc×V)):=
 match x,v with
 | .t k,.own _ z es=>some (put1 dst (.own true z es)++[(.slot k,.junk)])
 | _,.bor l off n=>match s l with
  |some (.own false z es)=>if off=0∧n=es.length then
   (if dst.map Loc.slot=some l then some [(l,.own true z es)] else some (put1 dst (.own true z es)++[(l,.junk)])) else none
  |_=>none
 |_,.bref _ _ _=>none
 |_,.rcd _=>none
 |_,v=>some (put1 dst v)
def evBox (dep:Nat) (s:Get) (k n:Nat) (v:V):Option (List (Loc×V)):=
 if(s (.cell ⟨dep,k,0⟩)).isSome then none else
 match v with
 | .d y=>if y.cells.length=n∧n≠0∧y.storable then some ((.slot k,.ref dep k 0)::db dep k 0 (y.cells.map .d)) else none
 |v=>if n=1∧v.plainV then some [(.slot k,.ref dep k 0),(.cell ⟨dep,k,0⟩,v)] else none
def dx (s:Get) (dst:Option Nat) (z:Option Nat) (v:V):Option (List (Loc×V)):=
 match v with
 | .iptr e off=>(ldD z e off).map fun x=>put1 dst (.d x)
 | .d (.ptr e)=>(ldD z e 0).map fun x=>put1 dst (.d x)
 | .bref l i off=>match s l with
  |some (.own false _ es)=>(es[i]?).bind fun e=>(ldD z e off).map fun x=>put1 dst (.d x)
  |_=>none
 | .vref y=>match z with
  |none=>if y.plainV then some (put1 dst y) else none
  |some _=>none
 | .ref d k off=>match z with
  | none=>match s (.cell ⟨d,k,off⟩) with
   |some (.own false _ es)=>some (put1 dst (.bor (.cell ⟨d,k,off⟩) 0 es.length))
   |some v=>if v.plainV then some (put1 dst v) else none
   |none=>none
  |some n=>(cw s d k off n).map fun(cs,u)=>u++put1 dst (.d (.agg cs))
 |_=>none
def D.setAt (e:D) (off:Nat) (cs:List D):Option D:=
 if off+cs.length≤e.cells.length then
  match e with
  | .agg es=>some (.agg (setCells es off cs))
  | _=>match cs with
   | []=>some e
   |c::_=>if c.cells.length=1 then some c else none
 else none
def updG (s:Get):List (Loc×V)→Get
 | []=>s
 | (l,v)::r=>updG (fun l'=>if l'=l then some v else s l') r
def recOf (cfg:Cfg) (k:Nat):Get→Nat→List (Nat×Nat×IOpd)→Option (List V×List (Loc×V))
 |_,_,[]=>some ([],[])
 |s,i,(o,n,x)::r=>if o=i∧n=1 then
   match x,val cfg s x with
   | .t j,some (.own _ z es)=>if j=k then none else(recOf cfg k (updG s [(.slot j,.junk)]) (i+1) r).map fun p=>(.own true z es::p.1,(.slot j,.junk)::p.2)
   |_,some (.d y)=>if y.isCell then(recOf cfg k s (i+1) r).map fun p=>(.d y.can::p.1,p.2) else none
   |_,_=>none
  else none
def fp (d k:Nat):Nat→List V→Option (List (Loc×V))
 |_,[]=>some []
 |off,.d y::r=>if y.isCell then(fp d k (off+1) r).map fun u=>(.cell ⟨d,k,off⟩,.d y)::u else none
 |off,.own _ z es::r=>(fp d k (off+1) r).map fun u=>(.cell ⟨d,k,off⟩,.own true z es)::u
 |_,_::_=>none
def br (s:Get) (n:Nat) (a:V) (x:IOpd) (v:V):Option (List (Loc×V)):=
 match a with
 | .ref d k off=>
  if alive s d k off n then
   match x,v with
   | .t j,.own _ z es=>if n=1 then some [(.cell ⟨d,k,off⟩,.own true z es),(.slot j,.junk)] else none
   | .t j,.rcd ys=>if n=ys.length∧n≠0 then(fp d k off ys).map fun u=>(.slot j,.junk)::u else none
   | _,.bor l o m=>match s l with
    |some (.own false z es)=>if o=0∧m=es.length∧n=1 then
     (if Loc.cell ⟨d,k,off⟩=l then some [(l,.own true z es)] else some [(.cell ⟨d,k,off⟩,.own true z es),(l,.junk)]) else none
    |_=>none
   |_,.d y=>if y.cells.length=n∧y.storable then some (db d k off (y.cells.map .d)) else none
   |_,v=>if n=1∧v.plainV then some [(.cell ⟨d,k,off⟩,v)] else none
  else none
 | .bref l i off=>match s l,v.asD with
  |some (.own false z es),some y=>if y.cells.length=n∧y.storable then
    (es[i]?).bind fun e=>(e.setAt off y.cells).map fun e'=>[(l,.own false z (es.set i e'))] else none
  |_,_=>none
 |_=>none
def evNil (dst:Option Nat) (v:V):Option (List (Loc×V)):=
 match v with
 | .d (.ptr _)| .d (.fn _)| .d (.ifc _ _)| .iptr _ _| .ref _ _ _| .bref _ _ _| .clo _ _ _| .ifc _ _| .vref _=>some (put1 dst v)
 |_=>none
def topOf (cfg:Cfg) (s:Get) (len:Nat):Option IOpd→Option Nat
 |none=>some len
 | some m=>match(dat cfg s m).bind D.toInt? with
  |some n=>if 0≤n∧n≤len then some n.toNat else none
  |none=>none
def headZ (z:Nat):List D→Bool
 | []=>true
 |e::_=>e.cells.length==z
def fl (cfg:Cfg) (s:Get) (dst:Option Nat) (z:Nat) (x:IOpd) (v:V) (lo hi mx:Option IOpd):Option (List (Loc×V)):=
 match cont s v with
 |none=>none
 | some es=>
  match topOf cfg s es.length mx with
  |none=>none
  | some top=>match bc cfg s top lo hi with
   |none=>none
   | some (l,h)=>if mx.isSome&&hi.isNone then none else match x,v with
    |_,.d .nilS=>some (put1 dst (.d .nilS))
    |_,.d (.sl es)=>if headZ z es then some (put1 dst (.d (.sl ((es.take h).drop l)))) else none
    | .t k,.own false z' _=>if z'=z then some (put1 dst (.bor (.slot k) l (h-l))) else none
    | .t k,.own true z' es=>if z'=z then some (put1 dst (.own true z ((es.take h).drop l))++[(.slot k,.junk)]) else none
    | _,.bor loc off _=>match s loc with
     |some (.own false z' _)=>if z'=z then some (put1 dst (.bor loc (off+l) (h-l))) else none
     |_=>none
    |_,_=>none
def evIdx (s:Get) (dst:Option Nat) (z:Nat) (x:IOpd) (v:V) (n:Int):Option (List (Loc×V)):=
 if n<0 then none else
 match x,v with
 |_,.d (.sl es)=>(es[n.toNat]?).bind fun e=>if e.cells.length=z then some (put1 dst (.iptr e 0)) else none
 | .t k,.own false z' es=>if n.toNat<es.length∧z'=z then some (put1 dst (.bref (.slot k) n.toNat 0)) else none
 | _,.bor l off len=>match s l with
  |some (.own false z' _)=>if n.toNat<len∧z'=z then some (put1 dst (.bref l (off+n.toNat) 0)) else none
  |_=>none
 |_,.vec ys=>(ys[n.toNat]?).bind fun y=>if z=1 then some (put1 dst (.vref y)) else none
 |_,_=>none
def cx (s:Get) (dst:Option Nat) (z bytes:Nat) (x:IOpd) (v:V) (ys:List D):Option (List (Loc×V)):=
 if allZ z ys&&decide (bytes≤2048) then
  match x,v with
  | _,.d .nilS=>match ys with
   | []=>some (put1 dst (.d .nilS))
   |_=>if ys.length≤bh then some (put1 dst (.own true z ys)) else none
  | _,.d (.sl es)=>match ys with
   | []=>some (put1 dst (.d (.sl es)))
   |_=>none
  | .t k,.own _ z' es=>if z'=z∧es.length+ys.length≤bh then some (put1 dst (.own true z (es++ys))++[(.slot k,.junk)]) else none
  | _,.bor l off n=>match s l with
   |some (.own false z' es)=>if off=0∧n≤es.length∧z'=z∧n+ys.length≤bh then
    some (put1 dst (.own true z (es.take n++ys))++[(l,.junk)]) else none
   |_=>none
  |_,_=>none
 else none
def mc (s:Get) (dst:Option Nat) (z:Nat) (x:IOpd) (v:V) (ys:List D):Option (List (Loc×V)):=
 if allZ z ys then
  let go (l:Loc) (off n:Nat):Option (List (Loc×V)):=match s l with
   |some (.own false z' es)=>if z'=z∧off+n≤es.length then
    some ((l,.own false z (es.take off++ys.take n++es.drop (off+min n ys.length)))::put1 dst (.d (.int .i64 (min n ys.length:Nat)))) else none
   |_=>none
  match x,v with
  | .t k,.own false _ es=>go (.slot k) 0 es.length
  |_,.bor l off n=>go l off n
  |_,_=>none
 else none
def ael (dst:Option Nat) (t:TypeId) (zero:D) (ok:Bool) (v:V):Option (List (Loc×V)):=
 match v with
 | .d (.ifc u x)=>
  if u=t then some (put1 dst (.d (if ok then .tup [x,.bool true] else x)))
  else if ok then some (put1 dst (.d (.tup [zero,.bool false]))) else none
 | .d .nilI=>if ok then some (put1 dst (.d (.tup [zero,.bool false]))) else none
 |_=>none
def cz (cfg:Cfg) (s:Get):Nat→List (Nat×IOpd)→Option (List V)
 |_,[]=>some []
 | i,(j,x)::r=>match val cfg s x with
  |some (.ref d k o)=>if j=i then(cz cfg s (i+1) r).map (.ref d k o:: ·) else none
  |_=>none
def evVec (cfg:Cfg) (s:Get) (dst:Option Nat) (z n:Nat) (ps:List (Nat×IOpd)):Option (List (Loc×V)):=
 match cz cfg s 0 ps with
 |some (y::ys)=>if z=1∧n=(y::ys).length then some (put1 dst (.vec (y::ys))) else none
 |_=>none
def evOp (cfg:Cfg) (dep:Nat) (s:Get) (dst:Option Nat):IOp→Option (List (Loc×V))
 | .mv x=>(val cfg s x).bind fun v=>evMv dst x v
 | .asg x=>(val cfg s x).bind fun v=>evAsg s dst x v
 | .pick c a b=>match val cfg s c with
  | some (.d (.bool t))=>match val cfg s (if t then a else b) with
   |some (.d x)=>some (put1 dst (.d x))
   |_=>none
  |_=>none
 | .alloc zs=>match dst with
  | some k=>if(s (.cell ⟨dep,k,0⟩)).isSome||zs.isEmpty then none
   else some ((.slot k,.ref dep k 0)::db dep k 0 (zs.map .d))
  |none=>none
 | .box n x=>match dst,val cfg s x with
  |some k,some v=>evBox dep s k n v
  |_,_=>none
 | .build zs ps=>(c8 cfg s ps).bind fun l=>(fillD zs l).map fun cs=>put1 dst (.d (.agg cs))
 | .buildR n ps=>match dst with
  |some k=>(recOf cfg k s 0 ps).bind fun p=>if p.1.length=n∧n≠0 then some (p.2++[(.slot k,.rcd p.1)]) else none
  |none=>none
 | .lit own z n zd ps=>match evVec cfg s dst z n ps with
  |some u=>some u
  | none=>(parts2 cfg s ps).bind fun l=>
   if zd.cells.length=z∧n≤1000∧zd.storable then
    (fillE z (List.replicate n zd) l).map fun es=>put1 dst (if n=0 then .d .nilS else if own then .own true z es else .d (.sl es)) else none
 | .load z a=>(val cfg s a).bind fun v=>dx s dst z v
 | .store n a x=>match val cfg s a,val cfg s x with
  |some a,some v=>if dst.isSome then none else br s n a x v
  |_,_=>none
 | .nilck x=>(val cfg s x).bind fun v=>evNil dst v
 | .bin op x y=>match val cfg s x,val cfg s y with
  |some (.d a),some (.d b)=>(D.bin op a b).map fun r=>put1 dst (.d r)
  |_,_=>none
 | .eqn neg c x y=>match val cfg s x,val cfg s y with
  |some a,some b=>(V.eqn cfg c a b).map fun r=>put1 dst (.d (.bool (if neg then !r else r)))
  |_,_=>none
 | .isNil neg x=>(val cfg s x).bind fun v=>(ll neg v).map fun r=>put1 dst (.d r)
 | .un op x=>match val cfg s x with
  |some (.d a)=>(D.un op a).map fun r=>put1 dst (.d r)
  |_=>none
 | .cvInt k x=>match val cfg s x with
  |some (.d (.int _ n))=>some (put1 dst (.d (.int k (k.wrap n))))
  |_=>none
 | .cvStr x=>match val cfg s x with
  |some (.d (.str b))=>some (put1 dst (.d (.str b)))
  |_=>none
 | .b2s x=>((val cfg s x).bind (cont s)).bind fun es=>(bu es).map fun b=>put1 dst (.d (.str b))
 | .s2b own x=>match val cfg s x with
  |some (.d (.str b))=>if b.length≤bh then some (put1 dst (if own then .own true 1 (b.map byteD) else .d (.sl (b.map byteD)))) else none
  |_=>none
 | .cvB own x=>match x,val cfg s x with
  | .t k,some (.own _ z es)=>some (put1 dst (if own then .own true z es else .d (.sl es))++[(.slot k,.junk)])
  |_,_=>none
 | .mkI t x=>match val cfg s x with
  |some (.d a)=>some (put1 dst (.d (.ifc t a.canon)))
  |some (.ref d k off)=>some (put1 dst (.ifc t (.ref d k off)))
  |some (.iptr e 0)=>some (put1 dst (.d (.ifc t (.ptr e))))
  |_=>none
 | .mkF f a b=>match vals cfg s a,vals cfg s b with
  |some [],some []=>some (put1 dst (.d (.fn f)))
  |some xs,some ys=>if xs.all V.plainV&&ys.all V.plainV then some (put1 dst (.clo f xs ys)) else none
  |_,_=>none
 | .mkS z bytes zd l c=>match(dat cfg s l).bind D.toInt?,(dat cfg s c).bind D.toInt? with
  |some n,some m=>if 0≤n∧n≤m∧m≤bh∧bytes≤2048∧zd.cells.length=z∧zd.storable then some (put1 dst (.own true z (List.replicate n.toNat zd))) else none
  |_,_=>none
 | .slice z x lo hi mx=>(val cfg s x).bind fun v=>fl cfg s dst z x v lo hi mx
 | .sliceS x lo hi=>match val cfg s x with
  |some (.d (.str b))=>(bc cfg s b.length lo hi).map fun(l,h)=>put1 dst (.d (.str ((b.take h).drop l)))
  |_=>none
 | .fieldA off x=>match val cfg s x with
  |some (.ref d k o)=>some (put1 dst (.ref d k (o+off)))
  |some (.bref l i o)=>some (put1 dst (.bref l i (o+off)))
  |some (.iptr e o)=>some (put1 dst (.iptr e (o+off)))
  |some (.d (.ptr e))=>some (put1 dst (.iptr e off))
  |_=>none
 | .field off z x=>match val cfg s x with
  |some (.d (.agg cs))=>(ldD z (.agg cs) off).map fun r=>put1 dst (.d r)
  |_=>none
 | .idxA z x i=>match val cfg s x,(dat cfg s i).bind D.toInt? with
  |some v,some n=>evIdx s dst z x v n
  |_,_=>none
 | .idxS x i=>match val cfg s x,(dat cfg s i).bind D.toInt? with
  |some (.d (.str b)),some n=>if n<0 then none else(b[n.toNat]?).map fun c=>put1 dst (.d (byteD c))
  |_,_=>none
 | .idxC n z g x i=>match val cfg s x,(dat cfg s i).bind D.toInt? with
  |some (.d (.agg cs)),some j=>if 0≤j∧j<n then(ldD (if g then some z else none) (.agg cs) (j.toNat*z)).map fun r=>put1 dst (.d r) else none
  |_,_=>none
 | .idxB n z x i=>match val cfg s x,(dat cfg s i).bind D.toInt? with
  |some v,some j=>if 0≤j∧j<n then match v with
    | .ref d k o=>some (put1 dst (.ref d k (o+j.toNat*z)))
    | .bref l i o=>some (put1 dst (.bref l i (o+j.toNat*z)))
    | .iptr e o=>some (put1 dst (.iptr e (o+j.toNat*z)))
    | .d (.ptr e)=>some (put1 dst (.iptr e (j.toNat*z)))
    |_=>none else none
  |_,_=>none
 | .ext x i=>match val cfg s x with
  |some (.d (.tup ds))=>(ds[i]?).map fun r=>put1 dst (.d r)
  |_=>none
 | .len true x=>match val cfg s x with
  |some (.d (.str b))=>some (put1 dst (.d (.int .i64 b.length)))
  |_=>none
 | .len false x=>match val cfg s x with
  | some v=>match v with
   | .d .nilS=>some (put1 dst (.d (.int .i64 0)))
   | .d (.sl es)=>some (put1 dst (.d (.int .i64 es.length)))
   | .own _ _ es=>some (put1 dst (.d (.int .i64 es.length)))
   | .bor _ _ n=>some (put1 dst (.d (.int .i64 n)))
   | .vec ys=>some (put1 dst (.d (.int .i64 ys.length)))
   |_=>none
  |none=>none
 | .minmax mx xs=>(dats cfg s xs).bind fun l=>(minD mx l).map fun r=>put1 dst (.d r)
 | .append z bytes x y=>match val cfg s x,(val cfg s y).bind (cont s) with
  |some v,some ys=>cx s dst z bytes x v ys
  |_,_=>none
 | .appendS x y=>match val cfg s x,val cfg s y with
  |some v,some (.d (.str b))=>cx s dst 1 1 x v (b.map byteD)
  |_,_=>none
 | .copy z x y=>match val cfg s x,(val cfg s y).bind (cont s) with
  |some v,some ys=>mc s dst z x v ys
  |_,_=>none
 | .tass t zero ok x=>(val cfg s x).bind fun v=>ael dst t zero ok v
 | .call _ _ _| .callg _ _ _ _| .callv _ _ _| .inv _ _ _ _| .bad=>none
def argD (s:Get):V→Option (D×Bool)
 | .d x=>some (x.canon,false)
 | .iptr e 0=>some (.ptr e,false)
 | .own _ _ es=>some (.sl es,true)
 | .bor l off n=>match s l with
  |some (.own false _ es)=>some (.sl ((es.drop off).take n),true)
  |_=>none
 |_=>none
def argsD (s:Get):List V→Option (List D×Bool)
 | []=>some ([],false)
 | v::r=>match argD s v,argsD s r with
  |some (x,a),some (xs,b)=>some (x::xs,a||b)
  |_,_=>none
mutual
def D.plain:D→Bool
 | .tup ds=>D.plains ds
 | .agg ds=>D.plains ds
 | .ifc _ d=>d.plain
 | .sl []=>true
 | .sl _| .ptr _=>false
 |_=>true
def D.plains:List D→Bool
 | []=>true
 |d::r=>d.plain&&D.plains r
end
def target (cfg:Cfg) (s:Get):IOp→Option (Bool×FuncId×List V)
 | .call own f args=>(vals cfg s args).map fun vs=>(own,f,vs)
 | .callv own x args=>match val cfg s x,vals cfg s args with
  |some (.d (.fn f)),some vs=>some (own,f,vs)
  |some (.clo f a b),some vs=>if a.all V.plainV&&b.all V.plainV then some (own,f,a++vs++b) else none
  |_,_=>none
 | .inv own x name args=>match val cfg s x,vals cfg s args with
  |some (.d (.ifc t d)),some vs=>(cfg.meth t name).map fun f=>(own,f,.d d::vs)
  |some (.ifc t v),some vs=>if v.plainV then(cfg.meth t name).map fun f=>(own,f,v::vs) else none
  |_,_=>none
 |_=>none
def clipArg (cfg:Cfg):IOp→Option IOpd
 | .call _ f [x]=>if cfg.clip f then some x else none
 |_=>none
def evClip (dst:Option Nat) (x:IOpd) (v:V):Option (List (Loc×V)):=
 match v with
 | .d .nilS| .d (.sl _)| .own _ _ _| .bor _ _ _=>evMv dst x v
 |_=>none
def allD:List V→Option (List D)
 | []=>some []
 | .d x::r=>(allD r).map (x:: ·)
 |_=>none
def landC (dst:Option Nat) (shared:Bool):V→Option (List (Loc×V))
 | .clo f [] b=>if shared||(allD b).isNone then none else some (put1 dst (.clo f [] b))
 |_=>none
def landed (dst:Option Nat) (own shared:Bool):V→Option (List (Loc×V))
 |V.d r=>if shared&& !r.plain then none else some (put1 dst (.d (if own then r else r.canon)))
 | .own _ z es=>if shared&& !D.plains es then none else some (put1 dst (if own then .own true z es else .d (.sl es)))
 |_=>none
mutual
def V.upTo (n:Nat):V→Bool
 | .d _| .own _ _ _| .junk| .iptr _ _=>true
 | .ref e _ _=>decide (e<n)
 | .ifc _ v=>v.upTo n
 | .clo _ a b=>V.upTos n a&&V.upTos n b
 | .vec ys=>V.upTos n ys
 | .vref y=>y.upTo n
 | .bor _ _ _| .bref _ _ _| .rcd _=>false
def V.upTos (n:Nat):List V→Bool
 | []=>true
 |v::r=>v.upTo n&&V.upTos n r
end
def IOp.isStore:IOp→Bool
 | .store _ _ _=>true
 |_=>false
def isCallOp:IOp→Bool
 | .call _ _ _| .callv _ _ _| .inv _ _ _ _=>true
 |_=>false
def cutMem (dep:Nat):List (Cel×V)→List (Cel×V)
 | []=>[]
 | (c,v)::r=>if c.d≤dep then(c,v)::cutMem dep r else cutMem dep r
abbrev Orc:=FuncId→Nat→List V→List (Cel×V)→Option (V×List (Cel×V))
def guardOk (s:Get):Option (Nat×Bool)→Option Bool
 |none=>some true
 | some (k,b)=>match s (.slot k) with
  |some (.d (.bool t))=>some (t==b)
  |some (.d (.tup []))=>some false
  |_=>none
def callU (orc:Orc) (s:Get) (dst:Option Nat) (own:Bool) (f:FuncId) (vs:List V):Option (List (Loc×V)):=
 match argsD s vs with
 | some (ds,shared)=>match orc f 0 (ds.map .d) [] with
  | some (r,_)=>match landed dst own shared r with
   |some u=>some u
   |none=>landC dst shared r
  |none=>none
 |none=>none
def givenV (s:Get) (x:IOpd) (v:V):Option (List (Loc×V)×V):=
 match x,v with
 |_,.d .nilS=>some ([],.d .nilS)
 |_,.d y=>some ([],.d y.canon)
 | .t k,.own _ z es=>some ([(.slot k,.junk)],.own false z es)
 | _,.bor l off n=>match s l with
  |some (.own false z es)=>if off=0∧n≤es.length then some ([(l,.junk)],.own false z (es.take n)) else none
  |_=>none
 |_,_=>none
def callG (cfg:Cfg) (orc:Orc) (s:Get) (dst:Option Nat) (own:Bool) (f:FuncId) (args:List IOpd) (i:Nat):Option (List (Loc×V)):=
 (args[i]?).bind fun x=>(val cfg s x).bind fun v=>(givenV s x v).bind fun g=>
  (vals cfg (updG s g.1) (args.set i (.c .nilS))).bind fun vs=>(argsD (updG s g.1) vs).bind fun q=>
   (orc f 0 ((q.1.map .d).set i g.2) []).bind fun r=>(landed dst own q.2 r.1).map fun u=>g.1++u
def giveL (s:Get):List IOpd→List (Loc×V)
 | []=>[]
 | .t k::r=>match s (.slot k) with
  |some (.own _ _ es)=>(.slot k,.d (.sl es))::giveL s r
  | some (.bor l _ _)=>match s l with
   |some (.own false _ es)=>(l,.d (.sl es))::giveL s r
   |_=>giveL s r
  |_=>giveL s r
 | .c _::r=>giveL s r
 | .g _::r=>giveL s r
def giveP (s:Get):List IOpd→List (Loc×V)
 | []=>[]
 | .t k::r=>match s (.slot k) with
  | some (.bor l off n)=>match s l with
   |some (.own false _ es)=>(.slot k,.d (.sl ((es.drop off).take n)))::giveP s r
   |_=>giveP s r
  |_=>giveP s r
 | .c _::r=>giveP s r
 | .g _::r=>giveP s r
def giveUp (s:Get) (l:List IOpd):List (Loc×V):=giveL s l++giveP s l
def gives (cfg:Cfg) (s:Get):IOp→Bool
 | .lit _ _ _ _ _=>true
 | .build _ _=>true
 | .store _ a _=>match val cfg s a with
  |some (.bref _ _ _)=>true
  |_=>false
 |_=>false
def upds (op:IOp):List IOpd:=match op with
 | .lit _ _ _ _ ps=>ps.map fun p=>p.2
 | .build _ ps=>ps.map fun p=>p.2.2
 | .store _ a x=>[a,x]
 |_=>[]
def evOpD (cfg:Cfg) (dep:Nat) (s:Get) (dst:Option Nat) (op:IOp):Option (List (Loc×V)):=
 if gives cfg s op then(evOp cfg dep (updG s (giveUp s (upds op))) dst op).map (giveUp s (upds op)++ ·) else evOp cfg dep s dst op
def evOpG (cfg:Cfg) (orc:Orc) (dep:Nat) (s:Get) (dst:Option Nat):IOp→Option (List (Loc×V))
 | .callg own f args i=>callG cfg orc s dst own f args i
 |op=>evOpD cfg dep s dst op
def callT (cfg:Cfg) (orc:Orc) (s:Get) (dst:Option Nat) (own:Bool) (f:FuncId) (args:List IOpd):Option (List (Loc×V)):=
 (vals cfg (updG s (giveUp s args)) args).bind fun vs=>(callU orc (updG s (giveUp s args)) dst own f vs).map (giveUp s args++ ·)
def callR (cfg:Cfg) (orc:Orc) (s:Get) (dst:Option Nat) (op:IOp) (vs:List V):Option (List (Loc×V)):=
 match op with
 | .call own f args=>match argsD s vs with
  | some (ds,true)=>match orc f 0 (ds.map .d) [] with
   |some _=>callT cfg orc s dst own f args
   |none=>none
  |_=>none
 |_=>none
def callW (cfg:Cfg) (orc:Orc) (s:Get) (dst:Option Nat) (own:Bool) (f:FuncId) (args:List IOpd) (vs:List V):Option (List (Loc×V)):=
 match callU orc s dst own f vs with
 |some u=>some u
 |none=>callR cfg orc s dst (.call own f args) vs
def V.unbor (dep:Nat) (v:V):V:=
 match v with
 | .bor (.slot _) _ _=>v
 | .bref (.slot _) _ _=>v
 |v=>if v.upTo (dep+1) then v else .junk
def dropBor (dep:Nat):List (Nat×V)→List (Nat×V)
 | []=>[]
 | (k,v)::r=>(k,v.unbor dep)::dropBor dep r
def callM (orc:Orc) (dep:Nat) (s:St) (dst:Option Nat) (own:Bool) (f:FuncId) (vs:List V):Option St:=
 if(argsD s.get vs).isNone&&vs.all V.plainV then
  match orc f (dep+1) vs s.mem with
  | some (r,m)=>
   if(cutMem dep m).all (fun p=>p.2.upTo (dep+1)) then
    match landed dst own false r with
    |some u=>some (St.upd ⟨dropBor dep s.env,cutMem dep m⟩ u)
    |none=>if r.upTo (dep+1)&&r.plainV then some (St.upd ⟨dropBor dep s.env,cutMem dep m⟩ (put1 dst r)) else none
   else none
  |none=>none
 else none
def stepU (cfg:Cfg) (orc:Orc) (dep:Nat) (s:Get) (o:IOper):Option (List (Loc×V)):=
 match guardOk s o.guard with
 |none=>none
 |some false=>some (put1 o.dst (.d (.tup [])))
 | some true=>
  if o.dst.isNone&& !o.op.isStore then none else
  if isCallOp o.op then
   match clipArg cfg o.op with
   |some x=>(val cfg s x).bind fun v=>evClip o.dst x v
   | none=>match target cfg s o.op with
    | some (own,f,vs)=>match callU orc s o.dst own f vs with
     |some u=>some u
     |none=>callR cfg orc s o.dst o.op vs
    |none=>none
  else evOpG cfg orc dep s o.dst o.op
def stepM (cfg:Cfg) (orc:Orc) (dep:Nat) (s:St) (o:IOper):Option St:=
 match guardOk s.get o.guard with
 | some true=>
  if o.dst.isSome&&isCallOp o.op&&(clipArg cfg o.op).isNone then
   match target cfg s.get o.op with
   |some (own,f,vs)=>callM orc dep s o.dst own f vs
   |none=>none
  else none
 |_=>none
def evStep (cfg:Cfg) (orc:Orc) (dep:Nat) (s:St) (o:IOper):Option St:=
 match stepU cfg orc dep s.get o with
 |some u=>some (s.upd u)
 |none=>stepM cfg orc dep s o
def evOps (cfg:Cfg) (orc:Orc) (dep:Nat):List IOper→St→Option St
 | [],s=>some s
 | o::r,s=>match evStep cfg orc dep s o with
  |some s'=>evOps cfg orc dep r s'
  |none=>none
def V.home (dep:Nat):V→V
 | .own _ z es=> .own false z es
 |v=>if v.upTo (dep+1) then v else .junk
def settleE (dep:Nat):List Nat→List (Nat×V)→List (Nat×V)
 | [],_=>[]
 | k::r,e=>match lk e k with
  |some v=>(k,v.home dep)::settleE dep r e
  |none=>settleE dep r e
def settleM (dep:Nat):List (Cel×V)→List (Cel×V)
 | []=>[]
 | (k,v)::r=>(k,v.home dep)::settleM dep r
def settle (dep:Nat) (keep:List Nat) (s:St):St:=⟨settleE dep keep s.env,settleM dep s.mem⟩
inductive Ex where
 |normal|ret|exit (id:Nat)
def demoteE (k:Nat):List (Nat×V)→List (Nat×V)
 | []=>[]
 | (k',v)::r=>if k'=k then(match v with| .own _ _ es=>(k',.d (.sl es))|v=>(k',v))::r else(k',v)::demoteE k r
end Go.Ev
namespace Go.Ev
def IOp.operands:IOp→List IOpd
 | .isNil _ x=>[x]
 | .mv x| .asg x| .box _ x| .load _ x| .nilck x| .un _ x| .cvInt _ x| .cvStr x| .b2s x| .s2b _ x| .cvB _ x| .mkI _ x| .fieldA _ x| .field _ _ x
 | .ext x _| .len _ x| .tass _ _ _ x=>[x]
 | .pick c a b=>[c,a,b]
 | .alloc _| .bad=>[]
 | .build _ ps| .buildR _ ps=>ps.map fun p=>p.2.2
 | .lit _ _ _ _ ps=>ps.map fun p=>p.2
 | .store _ a x=>[a,x]
 | .bin _ x y| .eqn _ _ x y| .append _ _ x y| .appendS x y| .copy _ x y=>[x,y]
 | .mkF _ a b=>a++b
 | .mkS _ _ _ l c=>[l,c]
 | .slice _ x lo hi mx=>[x]++lo.toList++hi.toList++mx.toList
 | .sliceS x lo hi=>[x]++lo.toList++hi.toList
 | .idxA _ x i| .idxS x i| .idxC _ _ _ x i| .idxB _ _ x i=>[x,i]
 | .minmax _ xs=>xs
 | .call _ _ args=>args
 | .callg _ _ args _=>args
 | .callv _ x args| .inv _ x _ args=>x::args
def IOp.span:IOp→Nat
 | .load z _=>z.getD 1
 | .store n _ _=>n
 |_=>0
def fv (d k off:Nat):Nat→List Loc
 |0=>[]
 |n+1=> .cell ⟨d,k,off⟩::fv d k (off+1) n
def aa (s:Get) (span:Nat):IOpd→List Loc
 | .t k=> .slot k::(match s (.slot k) with
  |some (.bor l _ _)=>[l]
  |some (.bref l _ _)=>[l]
  |some (.ref d j off)=>fv d j off span
  |_=>[])
 |_=>[]
def bx (dep:Nat) (s:Get) (o:IOper):List Loc:=
 (match o.guard with|some (k,_)=>[.slot k]|none=>[])++
 (match o.op,o.dst with
  | .alloc _,some k| .box _ _,some k=>[.cell ⟨dep,k,0⟩]
  |_,_=>[])++o.op.operands.flatMap (aa s o.op.span)
def disj (a b:List Loc):Bool:=a.all fun l=> !b.contains l
mutual
def D.eqb:D→D→Bool
 | .bool a,y=>match y with| .bool b=>a==b|_=>false
 | .int k a,y=>match y with| .int k' b=>decide (k=k')&&a==b|_=>false
 | .str a,y=>match y with| .str b=>a==b|_=>false
 | .nilS,y=>match y with| .nilS=>true|_=>false
 | .nilP,y=>match y with| .nilP=>true|_=>false
 | .nilI,y=>match y with| .nilI=>true|_=>false
 | .nilF,y=>match y with| .nilF=>true|_=>false
 | .nilM,y=>match y with| .nilM=>true|_=>false
 | .sl a,y=>match y with| .sl b=>D.eqbs a b|_=>false
 | .agg a,y=>match y with| .agg b=>D.eqbs a b|_=>false
 | .tup a,y=>match y with| .tup b=>D.eqbs a b|_=>false
 | .ptr a,y=>match y with| .ptr b=>D.eqb a b|_=>false
 | .ifc t a,y=>match y with| .ifc u b=>t==u&&D.eqb a b|_=>false
 | .fn f,y=>match y with| .fn g=>f==g|_=>false
 | .unk,y=>match y with| .unk=>true|_=>false
 | .unkB,y=>match y with| .unkB=>true|_=>false
def D.eqbs:List D→List D→Bool
 | [],y=>match y with| []=>true|_=>false
 |a::r,y=>match y with|b::r'=>D.eqb a b&&D.eqbs r r'|_=>false
end
mutual
def V.eqb:V→V→Bool
 | .d a,y=>match y with| .d b=>D.eqb a b|_=>false
 | .own n z a,y=>match y with| .own n' z' b=>n==n'&&(z==z'&&D.eqbs a b)|_=>false
 | .iptr a o,y=>match y with| .iptr b o'=>D.eqb a b&&o==o'|_=>false
 | .ref e k o,y=>match y with| .ref e' k' o'=>e==e'&&(k==k'&&o==o')|_=>false
 | .clo f a b,y=>match y with| .clo g a' b'=>f==g&&(V.eqbs a a'&&V.eqbs b b')|_=>false
 | .ifc t a,y=>match y with| .ifc u b=>t==u&&V.eqb a b|_=>false
 | .junk,y=>match y with| .junk=>true|_=>false
 | .bor l a b,y=>match y with| .bor l' a' b'=>decide (l=l')&&(a==a'&&b==b')|_=>false
 | .bref l a b,y=>match y with| .bref l' a' b'=>decide (l=l')&&(a==a'&&b==b')|_=>false
 | .vec a,y=>match y with| .vec b=>V.eqbs a b|_=>false
 | .vref a,y=>match y with| .vref b=>V.eqb a b|_=>false
 | .rcd a,y=>match y with| .rcd b=>V.eqbs a b|_=>false
def V.eqbs:List V→List V→Bool
 | [],y=>match y with| []=>true|_=>false
 |a::r,y=>match y with|b::r'=>V.eqb a b&&V.eqbs r r'|_=>false
end
def V.calm (dep:Nat):V→Bool
 | .bor (.slot _) _ _=>true
 | .bref (.slot _) _ _=>true
 |v=>v.upTo (dep+1)
def calmE (dep:Nat):List (Nat×V)→Bool
 | []=>true
 | (_,v)::r=>v.calm dep&&calmE dep r
def memDiff (cs:Option (List Cel)):List (Cel×V)→List (Cel×V)→Option (List (Loc×V))
 | [],[]=>some []
 | (c,v)::r,(c',v')::r'=>if c=c' then
   match cs with
   |none=>(memDiff cs r r').map fun u=>u++[(.cell c,v')]
   |some l=>if l.contains c then(memDiff cs r r').map fun u=>u++[(.cell c,v')] else if v.eqb v' then(memDiff cs r r').map fun u=>u.filter fun p=> !decide (p.1= .cell c) else none
  else none
 |_,_=>none
def chgCells (vs:List V):List (Nat×Nat)→List Cel
 | []=>[]
 | (i,o)::r=>match vs[i]? with
  |some (.ref d k off)=>⟨d,k,off+o⟩::chgCells vs r
  |_=>chgCells vs r
def chgOf (cfg:Cfg) (s:Get) (op:IOp):Option (List Cel):=
 match target cfg s op with
 |some (_,f,vs)=>(cfg.chg f).map (chgCells vs)
 |none=>none
def stepX (cfg:Cfg) (orc:Orc) (dep:Nat) (e0:List (Nat×V)) (pre:Bool) (s:St) (o:IOper):Option (Bool×List (Loc×V)):=
 match stepU cfg orc dep s.get o with
 |some u=>some (false,u)
 |none=>if calmE dep e0&&pre then
   match stepM cfg orc dep s o with
   | some s'=>match o.dst with
    | some k=>match memDiff (chgOf cfg s.get o.op) s.mem s'.mem,lk s'.env k with
     |some ch,some v=>some (true,ch++[(.slot k,v)])
     |_,_=>none
    |none=>none
   |none=>none
  else none
abbrev Rec:=Bool×Bool×List Loc×List Loc
def evOpsU (cfg:Cfg) (orc:Orc) (dep:Nat) (e0:List (Nat×V)):Bool→List IOper→St→Option (List Rec×St)
 |_,[],s=>some ([],s)
 | pre,o::r,s=>match stepX cfg orc dep e0 pre s o with
  | some (b,u)=>match evOpsU cfg orc dep e0 (pre&&u.all fun p=>p.2.calm dep) r (s.upd u) with
   |some (l,s')=>some ((b,u.all (fun p=>p.2.calm dep),bx dep s.get o,u.map (·.1))::l,s')
   |none=>none
  |none=>none
def noCell:List Loc→Bool
 | []=>true
 | .slot _::r=>noCell r
 | .cell _::_=>false
def besideOk (b c:Bool) (w:List Loc):Bool:= !b||(c&&noCell w)
def unordOk (l:List Rec):List (Nat×Nat)→Bool
 | []=>true
 | (i,j)::r=>match l[i]?,l[j]? with
  |some (bi,ci,ri,wi),some (bj,cj,rj,wj)=>disj wi (rj++wj)&&disj wj ri&&besideOk bi cj wj&&besideOk bj ci wi&&unordOk l r
  |_,_=>false
def evRegion (cfg:Cfg) (orc:Orc) (dep:Nat) (ops:List IOper) (un:List (Nat×Nat)) (s:St):Option St:=
 match un with
 | []=>evOps cfg orc dep ops s
 | un=>match evOpsU cfg orc dep s.env true ops s with
  |some (l,s')=>if unordOk l un then some s' else none
  |none=>none
def evLoop (f:St→Option (Ex×St)):Nat→St→Option (Ex×St)
 |0,_=>none
 | n+1,s=>match f s with
  |some (.normal,s')=>evLoop f n s'
  |r=>r
mutual
def V.apart (d k:Nat):V→Bool
 | .ref d' k' _=> !(decide (d'=d)&&decide (k'=k))
 | .ifc _ v=>v.apart d k
 | .clo _ a b=>V.aparts d k a&&V.aparts d k b
 | .vec ys=>V.aparts d k ys
 | .vref y=>y.apart d k
 | .rcd ys=>V.aparts d k ys
 |_=>true
def V.aparts (d k:Nat):List V→Bool
 | []=>true
 |v::r=>v.apart d k&&V.aparts d k r
end
def V.free (d k:Nat):V→V
 | .ref d' k' off=>if d'=d∧k'=k then .junk else .ref d' k' off
 | .ifc t v=>if v.apart d k then .ifc t v else .junk
 | .clo f a b=>if V.aparts d k a&&V.aparts d k b then .clo f a b else .junk
 | .vec ys=>if V.aparts d k ys then .vec ys else .junk
 | .vref y=>if y.apart d k then .vref y else .junk
 | .rcd _=> .junk
 |v=>v
def freeE (d k:Nat):List (Nat×V)→List (Nat×V)
 | []=>[]
 | (j,v)::r=>(j,v.free d k)::freeE d k r
def freeM (d k:Nat):List (Cel×V)→List (Cel×V)
 | []=>[]
 | (c,v)::r=>if c.d=d∧c.k=k then freeM d k r else(c,v.free d k)::freeM d k r
def D.same:D→D→Bool
 | .nilS,.nilS=>true
 | .sl [],.sl []=>true
 | .unkB,.unkB=>true
 | .bool a,.bool b=>a==b
 | .int k a,.int k' b=>decide (k=k')&&a==b
 | .str a,.str b=>a==b
 |_,_=>false
def envSame:List (Nat×V)→List (Nat×V)→Bool
 | [],[]=>true
 | (k,.d a)::r,(k',.d b)::r'=>k==k'&&a.same b&&envSame r r'
 |_,_=>false
def exSame:Ex→Ex→Bool
 | .normal,.normal=>true
 | .ret,.ret=>true
 | .exit a,.exit b=>a==b
 |_,_=>false
def bothWays (a b:Option (Ex×St)):Option (Ex×St):=
 match a,b with
 |some (e,s),some (e',s')=>if exSame e e'&&envSame s.env s'.env&&s.mem.isEmpty&&s'.mem.isEmpty then some (e,s) else none
 |_,_=>none
def V.roundV:V→V
 | .own _ _ _| .bor _ _ _| .bref _ _ _| .rcd _=> .junk
 |v=>v
def roundE:List (Nat×V)→List (Nat×V)
 | []=>[]
 | (k,v)::r=>(k,v.roundV)::roundE r
def putPs:List Nat→List D→List (Nat×V)→Option (List (Nat×V))
 | [],[],e=>some e
 |p::ps,d::ds,e=>putPs ps ds (st e p (.d d))
 |_,_,_=>none
def V.homeN (n:Nat):V→V
 | .own _ z es=> .own false z es
 |v=>if v.upTo n then v else .junk
def leaveM (dep:Nat):List (Cel×V)→List (Cel×V)
 | []=>[]
 | (c,v)::r=>if c.d<dep then(c,v.homeN dep)::leaveM dep r else leaveM dep r
def evEach (f:List D→List (Cel×V)→Option (Ex×List (Cel×V))):List (List D)→List (Cel×V)→Option (Ex×List (Cel×V))
 | [],m=>some (.normal,m)
 | x::r,m=>match f x m with
  |some (.normal,m')=>evEach f r m'
  |y=>y
def evRound (ca cb:St→Option (Ex×St)) (dep:Nat) (ps:List Nat) (e:List (Nat×V)) (x:List D) (m:List (Cel×V)):Option (Ex×List (Cel×V)):=
 match putPs ps x (roundE e) with
 | some e1=>match ca ⟨e1,m⟩ with
  | some (.normal,s1)=>match cb s1 with
   |some (r,s2)=>some (r,leaveM (dep+1) s2.mem)
   |none=>none
  |_=>none
 |none=>none
def itemsOf (cfg:Cfg):V→Option (List (List D))
 | .clo f [] caps=>match cfg.iter f,allD caps with
  |some g,some ds=>g ds
  |_,_=>none
 |_=>none
def givenB (s:Get) (k:Nat):List (Loc×V):=
 match s (.slot k) with
 | some (.ref d j off)=>match s (.cell ⟨d,j,off⟩) with
  |some (.own _ _ es)=>[(.cell ⟨d,j,off⟩,.d (.sl es))]
  |_=>[]
 |_=>[]
def givesB (s:St) (ls:List Nat):St:=ls.foldl (fun s k=>s.upd (givenB s.get k)) s
def evCode (cfg:Cfg) (orc:Orc) (dep n:Nat):ICode→St→Option (Ex×St)
 | .skip,s=>some (.normal,s)
 | .region ops un keep,s=>match evRegion cfg orc dep ops un s with
  |some s'=>some (.normal,settle dep keep s')
  |none=>none
 | .seq a b,s=>match evCode cfg orc dep n a s with
  |some (.normal,s')=>evCode cfg orc dep n b s'
  |r=>r
 | .cond x a b,s=>match val cfg s.get x with
  |some (.d (.bool t))=>if t then evCode cfg orc dep n a s else evCode cfg orc dep n b s
  |some (.d .unkB)=>bothWays (evCode cfg orc dep n a s) (evCode cfg orc dep n b s)
  |_=>none
 | .block id b,s=>match evCode cfg orc dep n b s with
  |some (.exit id',s')=>if id'=id then some (.normal,s') else some (.exit id',s')
  |r=>r
 | .loop b,s=>evLoop (evCode cfg orc dep n b) n s
 | .each x ps a b,s=>match(val cfg s.get x).bind (itemsOf cfg) with
  | some l=>match evEach (evRound (evCode cfg orc (dep+1) n a) (evCode cfg orc (dep+1) n b) dep ps (dropBor dep s.env)) l s.mem with
   |some (e,m)=>some (e,⟨dropBor dep s.env,m⟩)
   |none=>none
  |none=>none
 | .exit id,s=>some (.exit id,s)
 | .bad,_=>none
 | .ret,s=>some (.ret,s)
 | .demote ls,s=>some (.normal,{s with env:=ls.foldl (fun e k=>demoteE k e) s.env})
 | .give ls,s=>some (.normal,givesB s ls)
 | .free k,s=>some (.normal,⟨freeE dep k s.env,freeM dep k s.mem⟩)
def entry (i:Nat):List V→List (Nat×V)
 | []=>[]
 |v::r=>(i,v)::entry (i+1) r
def resCell:V→Option D
 | .d x=>some x.canon
 | .own _ _ es=>some (.sl es)
 | .iptr e 0=>some (.ptr e)
 |_=>none
def gatherR (s:Get) (d k off:Nat):Nat→Option (List D)
 |0=>some []
 | n+1=>match(s (.cell ⟨d,k,off⟩)).bind resCell,gatherR s d k (off+1) n with
  |some x,some r=>if x.isCell then some (x::r) else none
  |_,_=>none
def resV (dep:Nat) (s:Get):IRes→Option V
 | .t k=>match s (.slot k) with
  |some (.own _ z es)=>some (.own false z es)
  |some v=>if v.plainV then some v else none
  |none=>none
 | .cell k z=>match s (.slot k) with
  | some (.ref d j off)=>if dep≤d then match z with
   | none=>match s (.cell ⟨d,j,off⟩) with
    |some (.own _ z es)=>some (.own false z es)
    |some v=>if v.plainV then some v else none
    |none=>none
   |some n=>(gatherR s d j off n).map fun cs=> .d (.agg cs)
   else none
  |_=>none
def resD (dep:Nat) (s:Get):List IRes→Option (List D)
 | []=>some []
 | r::rs=>match(resV dep s r).bind resCell,resD dep s rs with
  |some d,some ds=>some (d::ds)
  |_,_=>none
def resAll (dep:Nat) (s:Get):List IRes→Option V
 | [r]=>resV dep s r
 |rs=>(resD dep s rs).map fun ds=> .d (.tup ds)
def leaveR (dep:Nat) (v:V) (m:List (Cel×V)):Option (V×List (Cel×V)):=
 if v.upTo dep then some (v,leaveM dep m) else none
def V.isD:V→Bool
 | .d _=>true
 |_=>false
def oneOwn:List V→Bool
 | .own false _ _::r=>r.all V.isD
 | .d _::r=>oneOwn r
 |_=>false
def argsOk (vs:List V) (m:List (Cel×V)):Bool:=vs.all V.plainV||(m.isEmpty&&oneOwn vs)
def evBody (cfg:Cfg) (orc:Orc) (n:Nat) (fn:IFunc) (dep:Nat) (vs:List V) (m:List (Cel×V)):Option (V×List (Cel×V)):=
 if vs.length=fn.arity∧argsOk vs m then
  match evCode cfg orc dep n fn.body ⟨entry 0 vs,m⟩ with
  |some (.normal,s)|some (.ret,s)=>(resAll dep s.get fn.results).bind fun v=>leaveR dep v s.mem
  |_=>none
 else none
def evFn (cfg:Cfg):Nat→Orc
 |0=>fun _ _ _ _=>none
 | n+1=>fun f dep vs m=>match cfg.ext f with
  |some g=>((allD vs).bind g).map fun v=>(v,m)
  | none=>match cfg.funcs f with
   |some fn=>evBody cfg (evFn cfg n) n fn dep vs m
   |none=>none
end Go.Ev
namespace Go.Ev
structure Advice where
 own:List Nat
 keep:List (Nat×List Nat)
 demote:List (Nat×List Nat)
 free:List (Nat×List Nat)
 give:List (Nat×Nat):=[]
 cool:List (Nat×List Nat):=[]
def valD0:Value→Option D
 | .bool b=>some (.bool b)
 | .int k n=>some (.int k n)
 | .string s=>some (.str s.data.toList)
 | .slice none 0 0=>some .nilS
 | .pointer none=>some .nilP
 | .map none=>some .nilM
 | .nilFunc=>some .nilF
 | .nilIface=>some .nilI
 |_=>none
def valDs:List Value→Option (List D)
 | []=>some []
 | v::r=>match valD0 v,valDs r with
  |some d,some ds=>some (d::ds)
  |_,_=>none
def valD:Value→Option D
 | .agg cs=>(valDs cs.toList).map .agg
 |v=>valD0 v
def cOpd:Operand→Option IOpd
 | .tmp t=>some (.t t)
 | .const v=>(valD v).map .c
 | .global g=>some (.g g)
 | .func f=>some (.c (.fn f))
def cOpds:List Operand→Option (List IOpd)
 | []=>some []
 | x::r=>match cOpd x,cOpds r with
  |some a,some b=>some (a::b)
  |_,_=>none
def cOpdO:Option Operand→Option (Option IOpd)
 |none=>some none
 |some x=>(cOpd x).map some
def d9:List (Nat×Operand)→Option (List (Nat×IOpd))
 | []=>some []
 | (i,x)::r=>match cOpd x,d9 r with
  |some a,some b=>some ((i,a)::b)
  |_,_=>none
def sizeD (P:Program) (t:TypeId):Option Nat:=(P.info? t).map (·.size)
def zOpt (P:Program) (t:TypeId):Option (Option Nat):=
 match P.underlying t,sizeD P t with
 |some (.struct _),some n=>some (some n)
 |some (.array _ _),some n=>some (some n)
 |some _,some n=>if n=1 then some none else none
 |_,_=>none
def valC (v:Value):Option D:=(valD v).map D.canon
def zeroC (P:Program) (t:TypeId):Option D:=((P.info? t).bind (·.zero)).bind valC
def zeroD (P:Program) (t:TypeId):Option D:=((P.info? t).bind (·.zero)).bind valD
def m3 (P:Program):List Field→Option (List (Nat×Nat))
 | []=>some []
 | f::r=>match sizeD P f.type,m3 P r with
  |some n,some l=>some ((f.offset,n)::l)
  |_,_=>none
def jx (pl:List (Nat×Nat)):List (Nat×Operand)→Option (List (Nat×Nat×IOpd))
 | []=>some []
 | (i,x)::r=>match pl[i]?,cOpd x,jx pl r with
  |some (o,n),some a,some b=>some ((o,n,a)::b)
  |_,_,_=>none
def cy (P:Program) (b:Builtin) (args:List IOpd) (ts:List TypeId):Option IOp:=
 match b,args,ts with
 | .len,[x],[t]=>match P.underlying t with
  |some .string=>some (.len true x)
  |some (.slice _)=>some (.len false x)
  |_=>none
 | .min,xs,_=>some (.minmax false xs)
 | .max,xs,_=>some (.minmax true xs)
 | .append,[x,y],[t,u]=>match P.underlying t,P.underlying u with
  | some (.slice e),some (.slice e')=>match P.info? e,zeroD P e with
   |some i,some zd=>if e=e'∧i.size≠0∧i.bytes≠0∧zd.cells.length=i.size then some (.append i.size i.bytes x y) else none
   |_,_=>none
  | some (.slice e),some .string=>match P.info? e,P.underlying e,zeroD P e with
   |some i,some (.int .u8),some (.int .u8 _)=>if i.size=1∧i.bytes=1 then some (.appendS x y) else none
   |_,_,_=>none
  |_,_=>none
 | .copy,[x,y],[t,u]=>match P.underlying t,P.underlying u with
  | some (.slice e),some (.slice e')=>match sizeD P e,sizeD P e' with
   |some z,some z'=>if z=z'∧z≠0 then some (.copy z x y) else none
   |_,_=>none
  |_,_=>none
 |_,_,_=>none
def js:TypeDesc→Option ECls
 | .bool=>some .bool
 | .pointer _=>some .ptr
 | .func _ _ _=>some .func
 | .interface _=>some .iface
 |_=>none
def flatK (P:Program) (f:Field):Option Nat:=
 match P.underlying f.type with
 |some (.int _)=>some 0
 |some .bool=>some 1
 |some .string=>some 2
 |_=>none
def auj (P:Program) (i:Nat):List Field→Option (List Nat)
 | []=>some []
 | f::r=>match flatK P f,auj P (i+1) r with
  |some k,some ks=>if f.name≠"_"∧ f.offset=i∧zOpt P f.type=some none then some (k::ks) else none
  |_,_=>none
def auk (P:Program) (t:TypeId) (fs:Array Field):Option (List Nat):=if P.stoodInHeld t∨P.eqGuardType P.depth t then none else auj P 0 fs.toList
def cOp (P:Program) (own:Bool):Op→Option IOp
 | .move x=>(cOpd x).map .mv
 | .assign x=>(cOpd x).map .asg
 | .pick c a b=>match cOpd c,cOpd a,cOpd b with
  |some c,some a,some b=>some (.pick c a b)
  |_,_,_=>none
 | .alloc t=>match zeroD P t,sizeD P t with
  |some z,some n=>if z.cells.length=n∧n≠0 then some (.alloc z.cells) else none
  |_,_=>none
 | .box t x=>match cOpd x,sizeD P t with
  |some x,some n=>if n≠0 then some (.box n x) else none
  |_,_=>none
 | .build t ps=>match P.underlying t,zeroD P t with
  | some (.struct fs),some (.agg zs)=>match m3 P fs.toList with
   |some pl=>(jx pl ps.toList).map (if own then .buildR zs.length else .build zs)
   |none=>none
  | some (.array _ e),some (.agg zs)=>match sizeD P e with
   |some z=>(d9 ps.toList).map fun l=> .build zs (l.map fun p=>(p.1*z,z,p.2))
   |none=>none
  |_,_=>none
 | .buildSlice t n ps=>match P.underlying t with
  | some (.slice e)=>match sizeD P e,zeroC P e,d9 ps.toList with
   |some z,some zd,some l=>if z≠0∧z≤1000∧n≤1000 then some (.lit own z n zd l) else none
   |_,_,_=>none
  |_=>none
 | .load t a=>match zOpt P t,cOpd a with
  |some z,some a=>some (.load z a)
  |_,_=>none
 | .store t a x=>match sizeD P t,cOpd a,cOpd x with
  |some n,some a,some x=>some (.store n a x)
  |_,_,_=>none
 | .nilCheck x=>(cOpd x).map .nilck
 | .binOp op t x y _=>match cOpd x,cOpd y,P.underlying t with
  |some x,some y,some (.int _)=>some (.bin op x y)
  |some x,some y,some .string=>some (.bin op x y)
  | some x,some (.c .nilS),some (.slice _)=>match op with
   | .eql=>some (.isNil false x)
   | .neq=>some (.isNil true x)
   |_=>none
  | some x,some (.c .nilI),some (.interface _)=>match op with
   | .eql=>some (.eqn false .ifnil x (.c .nilI))
   | .neq=>some (.eqn true .ifnil x (.c .nilI))
   |_=>none
  | some x,some y,some (.struct fs)=>match auk P t fs,op with
   |some ks,.eql=>some (.eqn false (.agg ks) x y)
   |some ks,.neq=>some (.eqn true (.agg ks) x y)
   |_,_=>none
  | some x,some y,some d=>match js d,op with
   |some c,.eql=>some (.eqn false c x y)
   |some c,.neq=>some (.eqn true c x y)
   |_,_=>none
  |_,_,_=>none
 | .unOp op _ x=>(cOpd x).map (.un op)
 | .convert s d x=>match P.underlying s,P.underlying d,cOpd x with
  |some (.int _),some (.int k),some x=>some (.cvInt k x)
  |some .string,some .string,some x=>some (.cvStr x)
  | some (.slice e),some .string,some x=>match P.underlying e with
   |some (.int .u8)=>some (.b2s x)
   |_=>none
  | some .string,some (.slice e),some x=>match P.underlying e,sizeD P e with
   |some (.int .u8),some 1=>some (.s2b own x)
   |_,_=>none
  | some (.slice _),some (.slice e),some x=>match P.underlying e with
   |some (.int .u8)=>if s=d∧sizeD P e=some 1 then some (.cvB own x) else none
   |_=>none
  |_,_,_=>none
 | .makeInterface t x=>match P.underlying t,cOpd x with
  |some (.interface _),_=>none
  |some _,some x=>some (.mkI t x)
  |_,_=>none
 | .makeFunc (.func f) a b=>match cOpds a.toList,cOpds b.toList with
  |some a,some b=>some (.mkF f a b)
  |_,_=>none
 | .makeSlice t l c=>match P.underlying t with
  | some (.slice e)=>match P.info? e,zeroC P e,cOpd l,cOpd c with
   |some i,some zd,some l,some c=>if i.size≠0 then some (.mkS i.size i.bytes zd l c) else none
   |_,_,_,_=>none
  |_=>none
 | .slice t x lo hi mx=>match P.underlying t,cOpd x,cOpdO lo,cOpdO hi,cOpdO mx with
  | some (.slice e),some x,some lo,some hi,some mx=>match sizeD P e with
   |some z=>if z≠0 then some (.slice z x lo hi mx) else none
   |none=>none
  |some .string,some x,some lo,some hi,some none=>some (.sliceS x lo hi)
  |_,_,_,_,_=>none
 | .fieldAddr t x f=>match P.underlying t,cOpd x with
  | some (.struct fs),some x=>match fs[f]? with
   | some fd=>match sizeD P fd.type with
    |some n=>if n≠0 then some (.fieldA fd.offset x) else none
    |none=>none
   |none=>none
  |_,_=>none
 | .field t x f=>match P.underlying t,cOpd x with
  | some (.struct fs),some x=>match fs[f]? with
   |some fd=>(zOpt P fd.type).map fun z=> .field fd.offset z x
   |none=>none
  |_,_=>none
 | .indexAddr t x i=>match P.underlying t,cOpd x,cOpd i with
  | some (.slice e),some x,some i=>match sizeD P e with
   |some z=>if z≠0 then some (.idxA z x i) else none
   |none=>none
  | some (.array n e),some x,some i=>match sizeD P e with
   |some z=>if z≠0 then some (.idxB n z x i) else none
   |none=>none
  |_,_,_=>none
 | .index t x i=>match P.underlying t,cOpd x,cOpd i with
  |some .string,some x,some i=>some (.idxS x i)
  | some (.array n e),some x,some i=>match zOpt P e with
   |some none=>some (.idxC n 1 false x i)
   |some (some z)=>some (.idxC n z true x i)
   |none=>none
  |_,_,_=>none
 | .typeAssert x _ t ok=>match P.underlying t,zeroC P t,cOpd x with
  |some (.interface _),_,_=>none
  |some _,some z,some x=>some (.tass t z ok x)
  |_,_,_=>none
 | .extract x i=>(cOpd x).map fun x=> .ext x i
 | .call c=>match cOpds c.args.toList with
  | some args=>match c.callee with
   | .value (.func f)=>some (.call own f args)
   | .value x=>(cOpd x).map fun x=> .callv own x args
   | .invoke r m=>(cOpd r).map fun r=> .inv own r m args
   | .builtin b=>cy P b args c.argTypes.toList
  |none=>none
 |_=>none
def okDst (nt:Nat):Option Nat→Bool
 |some k=>decide (k<nt)
 |none=>true
def gOp (g:Option Nat) (io:IOp):IOp:=
 match g,io with
 |some i,.call own f args=> .callg own f args i
 |_,io=>io
def cOper (P:Program) (ad:Advice) (nt:Nat) (dsts:List (Option Nat)) (o:Oper):Option IOper:=
 let io:=gOp (o.dst.bind (lk ad.give)) ((cOp P ((o.dst.map ad.own.contains).getD false) o.op).getD .bad)
 if okDst nt o.dst then match o.guard with
  |none=>some ⟨o.dst,none,io⟩
  | some (j,b)=>match dsts[j]? with
   |some (some k)=>some ⟨o.dst,some (k,b),io⟩
   |_=>none
  else none
def ra (P:Program) (ad:Advice) (nt:Nat) (dsts:List (Option Nat)):List Oper→Option (List IOper)
 | []=>some []
 | o::r=>match cOper P ad nt dsts o,ra P ad nt dsts r with
  |some a,some b=>some (a::b)
  |_,_=>none
def uadd (x:Nat) (u:List Nat):List Nat:=if u.contains x then u else x::u
def uniq:List Nat→List Nat
 | []=>[]
 |x::r=>uadd x (uniq r)
def az:List (List Nat)→List (List Nat)→List (List Nat)
 |acc,[]=>acc
 |acc,es::r=>az (acc++[uniq (es.foldl (fun a e=>e::((acc[e]?).getD []++a)) [])]) r
def ak (o:Oper):List Nat:=(o.after.toList.filter (Region.binds .any)).map (·.on)
def au (bs:List (List Nat)):List (Nat×Nat):=
 (List.range bs.length).flatMap fun j=>((List.range j).filter fun i=> !((bs[j]?).getD []).contains i).map fun i=>(i,j)
def backw:Nat→List (List Nat)→Bool
 |_,[]=>true
 |i,es::r=>es.all (fun e=>decide (e<i))&&backw (i+1) r
def look (l:List (Nat×List Nat)) (k:Nat):List Nat:=(lk l k).getD []
def roundOk:Code→Bool
 | .region _ ops _=>ops.toList.all fun o=>match o.op with
  | .defer _=>false
  |_=>true
 | .seq a b| .cond _ a b=>roundOk a&&roundOk b
 | .block _ b| .loop b=>roundOk b
 | .skip| .exit _| .ret=>true
 |_=>false
def cCode (P:Program) (ad:Advice) (nt:Nat):Code→Option ICode
 | .skip=>some .skip
 | .region id ops draw=>match ra P ad nt (ops.toList.map (·.dst)) ops.toList with
  | some l=>
   if draw&& !backw 0 (ops.toList.map ak) then some .bad else
   let un:=if draw then au (az [] (ops.toList.map ak)) else[]
   let r:=ICode.region l un (look ad.keep id)
   let r:=if(look ad.cool id).isEmpty then r else .seq (.give (look ad.cool id)) r
   let r:=if(look ad.demote id).isEmpty then r else .seq (.demote (look ad.demote id)) r
   some ((look ad.free id).foldl (fun c k=> .seq (.free k) c) r)
  |none=>none
 | .seq a b=>match cCode P ad nt a,cCode P ad nt b with
  |some a,some b=>some (.seq a b)
  |_,_=>none
 | .cond x a b=>match cOpd x,cCode P ad nt a,cCode P ad nt b with
  |some x,some a,some b=>some (.cond x a b)
  |_,_,_=>none
 | .block id b=>(cCode P ad nt b).map (.block id)
 | .loop b=>(cCode P ad nt b).map .loop
 | .rangeFunc g ps a b=>if roundOk a&&roundOk b&&ps.toList.all (fun p=>decide (p<nt)) then match cOpd g,cCode P ad nt a,cCode P ad nt b with
   |some x,some a,some b=>some (.each x ps.toList a b)
   |_,_,_=>none
  else some .bad
 | .exit id=>some (.exit id)
 | .ret=>some .ret
 |_=>some .bad
def wv:Code→Bool
 | .ret=>true
 | .seq _ b=>wv b
 |_=>false
def cRot (P:Program) (ad:Advice) (nt:Nat):Code→Option ICode
 | .seq (.seq a (.cond x p .skip)) b=>
  if wv p then match cCode P ad nt a,cOpd x,cCode P ad nt p,cRot P ad nt b with
   |some a,some x,some p,some b=>some (.seq a (.cond x p b))
   |_,_,_,_=>none
  else match cCode P ad nt (.seq a (.cond x p .skip)),cRot P ad nt b with
   |some a,some b=>some (.seq a b)
   |_,_=>none
 | .seq a b=>match cCode P ad nt a,cRot P ad nt b with
  |some a,some b=>some (.seq a b)
  |_,_=>none
 |c=>cCode P ad nt c
def cRes (P:Program):List ResultVar→Option (List IRes)
 | []=>some []
 | .tmp t::r=>(cRes P r).map (.t t:: ·)
 | .cell a t::r=>match zOpt P t,cRes P r with
  |some z,some l=>some (.cell a z::l)
  |_,_=>none
def cFunc (P:Program) (ad:Advice) (fn:Func):Option IFunc:=
 match fn.body with
 | some c=>match cRot P ad fn.ntmps c,cRes P fn.results.toList with
  |some b,some rs=>if fn.params.size+fn.nfree≤fn.ntmps then some ⟨fn.params.size+fn.nfree,rs,b⟩ else none
  |_,_=>none
 |none=>none
end Go.Ev
namespace Go.Ev
open Go
inductive Own where
 |outer
 |box (d k:Nat)
 |at(l:Loc)
 |res
 deriving DecidableEq
structure Cx where
 ow:Nat→Option Own
 ad:Nat→Nat→Nat
 base:Nat:=0
abbrev ad3 (b o:Nat):Addr:=⟨b,o,none⟩
inductive Rd (F:Nat→Prop) (w:World):Value→D→Prop
 |bool (b:Bool):Rd F w (.bool b) (.bool b)
 |int (k:IntKind) (n:Int):Rd F w (.int k n) (.int k n)
 |str (s:List UInt8):Rd F w (.string ⟨s.toArray⟩) (.str s)
 |nilS (ad:Option Addr):Rd F w (.slice ad 0 0) .nilS
 |unkB (b:Bool):Rd F w (.bool b) .unkB
 |nilP:Rd F w (.pointer none) .nilP
 |nilI:Rd F w .nilIface .nilI
 |nilF:Rd F w .nilFunc .nilF
 |nilM:Rd F w (.map none) .nilM
 |fn (f:FuncId):Rd F w (.func (.func f) #[] #[]) (.fn f)
 |unk (v:Value) (h:v.oneCell'=true):Rd F w v .unk
 |ifc (t:TypeId) (v:Value) (d:D) (h:Rd F w v d):Rd F w (.iface t v) (.ifc t d)
 |agg (vs:List Value) (cs:List D) (hl:vs.length=cs.length) (hc:∀ c∈cs,c.isCell=true)
  (h:∀ (i:Nat) v c,vs[i]? =some v→cs[i]? =some c→Rd F w v c):Rd F w (.agg vs.toArray) (.agg cs)
 |tup (vs:List Value) (cs:List D) (hl:vs.length=cs.length)
  (h:∀ (i:Nat) v c,vs[i]? =some v→cs[i]? =some c→Rd F w v c):Rd F w (.tuple vs.toArray) (.tup cs)
 |ptr (b o:Nat) (e:D) (vs:Nat→Value) (hc:∀ c∈e.cells,c.isCell=true)
  (hm:∀ (j:Nat) c,e.cells[j]? =some c→F b∧w.cell? (ad3 b (o+j))=some (vs j))
  (h:∀ (j:Nat) c,e.cells[j]? =some c→Rd F w (vs j) c):Rd F w (.pointer (some (ad3 b o))) (.ptr e)
 |slA (ad:Option Addr) (cap:Nat):Rd F w (.slice ad 0 cap) (.sl [])
 |sl (b o len cap z:Nat) (es:List D) (vs:Nat→Nat→Value) (hlen:es.length=len) (hcap:len≤cap)
  (hz:∀ e∈es,e.cells.length=z) (hc:∀ e∈es,∀ c∈e.cells,c.isCell=true)
  (hm:∀ (i:Nat) e,es[i]? =some e→∀ (j:Nat) c,e.cells[j]? =some c→F b∧w.cell? (ad3 b (o+i*z+j))=some (vs i j))
  (h:∀ (i:Nat) e,es[i]? =some e→∀ (j:Nat) c,e.cells[j]? =some c→Rd F w (vs i j) c):Rd F w (.slice (some (ad3 b o)) len cap) (.sl es)
def PtrAt (F:Nat→Prop) (w:World) (b o:Nat) (e:D):Prop:=
 (∀ c∈e.cells,c.isCell=true)∧∀ (j:Nat) c,e.cells[j]? =some c→∃ v,F b∧w.cell? (ad3 b (o+j))=some v∧Rd F w v c
theorem Rd.mono {F F':Nat→Prop} {w w':World} {v:Value} {d:D} (h:Rd F w v d)
  (hc:∀ b o u,F b→w.cell? (ad3 b o)=some u→F' b∧w'.cell? (ad3 b o)=some u):Rd F' w' v d:=by
 induction h with
 |bool b=>exact .bool b
 |int k n=>exact .int k n
 |str s=>exact .str s
 |nilS ad=>exact .nilS ad
 |unkB b=>exact .unkB b
 |slA ad cap=>exact .slA ad cap
 |nilP=>exact .nilP
 |nilI=>exact .nilI
 |nilF=>exact .nilF
 |nilM=>exact .nilM
 |fn f=>exact .fn f
 |unk v h=>exact .unk v h
 |ifc t v d _ ih=>exact .ifc t v d ih
 |agg vs cs hl hcc _ ih=>exact .agg vs cs hl hcc ih
 |tup vs cs hl _ ih=>exact .tup vs cs hl ih
 |ptr b o e vs hcc hm _ ih=>exact .ptr b o e vs hcc (fun j c hj=>hc b _ _ (hm j c hj).1 (hm j c hj).2) ih
 | sl b o len cap z es vs hlen hcap hz hcc hm _ ih=>
  exact .sl b o len cap z es vs hlen hcap hz hcc (fun i e he j c hj=>hc b _ _ (hm i e he j c hj).1 (hm i e he j c hj).2) ih
theorem PtrAt.mono {F F':Nat→Prop} {w w':World} {b o:Nat} {e:D} (h:PtrAt F w b o e)
  (hc:∀ b o u,F b→w.cell? (ad3 b o)=some u→F' b∧w'.cell? (ad3 b o)=some u):PtrAt F' w' b o e:=
 ⟨h.1,fun j c hj=>let⟨v,h0,h1,h2⟩:=h.2 j c hj;⟨v,(hc b _ _ h0 h1).1,(hc b _ _ h0 h1).2,h2.mono hc⟩⟩
structure Arr (F:Nat→Prop) (w:World) (b o cap z:Nat) (es:List D):Prop where
 pos:z≠0
 room:∀ j,j<cap*z→(∃ u,w.cell? (ad3 b (o+j))=some u)∧w.frozen? (ad3 b (o+j))=false
 wid:∀ e∈es,e.cells.length=z
 cel:∀ e∈es,∀ c∈e.cells,c.isCell=true
 els:∀ (i:Nat) e,es[i]? =some e→∀ (j:Nat) c,e.cells[j]? =some c→∃ v,w.cell? (ad3 b (o+i*z+j))=some v∧Rd F w v c
def freeB (x:Cx) (b:Nat):Prop:=x.ow b=none
def conc (x:Cx) (a:Act) (w:World):Loc→Option Value
 | .slot k=>some (a.tmps.getD k undef)
 | .cell c=>w.cell? (ad3 (x.ad c.d c.k) c.off)
inductive RdV (x:Cx) (s:Get) (cv:Loc→Option Value) (w:World):Option Loc→Value→V→Prop
 |d (l:Option Loc) (v:Value) (y:D) (h:Rd (freeB x) w v y):RdV x s cv w l v (.d y)
 |own (l:Loc) (b o len cap z:Nat) (nw:Bool) (es:List D) (how:x.ow b=some (.at l)) (hlen:es.length=len) (hcap:len≤cap)
  (h:Arr (freeB x) w b o cap z es):RdV x s cv w (some l) (.slice (some (ad3 b o)) len cap) (.own nw z es)
 |bor (l:Option Loc) (l':Loc) (off len b o' cap':Nat) (hcap:len≤cap')
  (h:∀ z es,s l'=some (.own false z es)→∃ o L C,cv l'=some (.slice (some (ad3 b o)) L C)∧
   off+len≤es.length∧(len=0∧cap'=0∨o'=o+off*z)∧
   (∀ j,j<cap'*z→(∃ u,w.cell? (ad3 b (o'+j))=some u)∧w.frozen? (ad3 b (o'+j))=false)):
  RdV x s cv w l (.slice (some (ad3 b o')) len cap') (.bor l' off len)
 |bref (l:Option Loc) (l':Loc) (i off b o':Nat)
  (h:∀ z es,s l'=some (.own false z es)→∃ o L C,cv l'=some (.slice (some (ad3 b o)) L C)∧o'=o+i*z+off):
  RdV x s cv w l (.pointer (some (ad3 b o'))) (.bref l' i off)
 |iptr (l:Option Loc) (b o off:Nat) (e:D) (h:PtrAt (freeB x) w b o e):RdV x s cv w l (.pointer (some (ad3 b (o+off)))) (.iptr e off)
 |ref (l:Option Loc) (d k off:Nat) (h:(s (.cell ⟨d,k,0⟩)).isSome):RdV x s cv w l (.pointer (some (ad3 (x.ad d k) off))) (.ref d k off)
 |clo (l:Option Loc) (f:FuncId) (va vb:List Value) (xs ys:List V) (hl:va.length=xs.length) (hl':vb.length=ys.length)
  (h:∀ (i:Nat) v y,va[i]? =some v→xs[i]? =some y→RdV x s cv w none v y)
  (h':∀ (i:Nat) v y,vb[i]? =some v→ys[i]? =some y→RdV x s cv w none v y):
  RdV x s cv w l (.func (.func f) va.toArray vb.toArray) (.clo f xs ys)
 |ifc (l:Option Loc) (t:TypeId) (v:Value) (y:V) (h:RdV x s cv w none v y):RdV x s cv w l (.iface t v) (.ifc t y)
 |vec (l:Option Loc) (b o cap:Nat) (ys:List V) (vs:Nat→Value) (hcap:ys.length≤cap)
  (hm:∀ (i:Nat) y,ys[i]? =some y→freeB x b∧w.cell? (ad3 b (o+i))=some (vs i)) (h:∀ (i:Nat) y,ys[i]? =some y→RdV x s cv w none (vs i) y):
  RdV x s cv w l (.slice (some (ad3 b o)) ys.length cap) (.vec ys)
 |vref (l:Option Loc) (b o:Nat) (v:Value) (y:V) (hb:freeB x b) (hm:w.cell? (ad3 b o)=some v) (h:RdV x s cv w none v y):
  RdV x s cv w l (.pointer (some (ad3 b o))) (.vref y)
 |rcd (l:Loc) (vs:List Value) (ys:List V) (hl:vs.length=ys.length) (h:∀ (i:Nat) v y,vs[i]? =some v→ys[i]? =some y→RdV x s cv w (some l) v y)
  (hd:∀ (i j:Nat) (p q:Addr) (L C L' C':Nat) (n n':Bool) (z z':Nat) (es es':List D),i≠j→ys[i]? =some (.own n z es)→ys[j]? =some (.own n' z' es')→
   vs[i]? =some (.slice (some p) L C)→vs[j]? =some (.slice (some q) L' C')→p.block≠q.block):RdV x s cv w (some l) (.agg vs.toArray) (.rcd ys)
 |junk (l:Option Loc) (v:Value):RdV x s cv w l v .junk
def NoFz (w:World) (b:Nat):Prop:=∀ c e lo hi,w.heap[b]? =some (.cells c e (lo,hi))→lo≠hi→c.size≤lo
def Held (o:Option Own):Prop:=o=some .res∨∃ l,o=some (.at l)
theorem NoFz.heap {w w':World} {b:Nat} (h:NoFz w b) (e:w'.heap[b]? =w.heap[b]?):NoFz w' b:=fun c t lo hi h1=>h c t lo hi (by rw[← e];exact h1)
def HoldsG (w:World) (n:Nat) (cs:Array Value):Prop:=∃ t fr,w.heap[n]? =some (.cells cs t fr)
theorem HoldsG.heap {w w':World} {n:Nat} {cs:Array Value} (h:HoldsG w n cs) (e:w'.heap[n]? =w.heap[n]?):HoldsG w' n cs:=let⟨t,fr,h⟩:=h;⟨t,fr,e.trans h⟩
theorem HoldsG.lt {w:World} {n:Nat} {cs:Array Value} (h:HoldsG w n cs):n<w.heap.size:=let⟨_,_,h⟩:=h;(zj.1 h).1
abbrev markD (D:Nat):Deferred:={target:= .collected D,args:= #[]}
def DefsOk (x:Cx) (a:Act) (w:World):Prop:=∃ l:List Nat,a.defers=l.map markD∧l.Nodup∧∀ D∈l,x.base≤D∧x.ow D=some .outer∧w.heap[D]? =some (.deferred (some []))
theorem DefsOk.nil {x:Cx} {a:Act} {w:World} (h:a.defers=[]):DefsOk x a w:=⟨[],h,.nil,by simp⟩
theorem DefsOk.mono {x x':Cx} {a a':Act} {w w':World} (h:DefsOk x a w) (hb:∀ b,x.ow b≠none→b<w.heap.size) (ha:a'.defers=a.defers) (hz:x'.base=x.base)
  (hG:∀ b,x.ow b=some .outer→b<w.heap.size→x'.ow b=x.ow b∧w'.heap[b]? =w.heap[b]?):DefsOk x' a' w':=by
 obtain⟨l,h1,h2,h3⟩:=h;refine⟨l,ha.trans h1,h2,fun D hD=> ?_⟩
 obtain⟨g0,g1,g2⟩:=h3 D hD;obtain⟨g3,g4⟩:=hG D g1 (hb D (by rw[g1];simp))
 exact⟨by rw[hz];exact g0,g3.trans g1,g4.trans g2⟩
structure Rel (cfg:Cfg) (x:Cx) (N:Nat) (s:Get) (a:Act) (w:World):Prop where
 size:a.tmps.size=N
 defs:DefsOk x a w
 bound:∀ b,x.ow b≠none→b<w.heap.size
 locs:∀ l v,s l=some v→∃ u,conc x a w l=some u∧RdV x s (conc x a w) w (some l) u v
 slotN:∀ k v,s (.slot k)=some v→k<N
 box:∀ c v,s (.cell c)=some v→x.ow (x.ad c.d c.k)=some (.box c.d c.k)∧(s (.cell ⟨c.d,c.k,0⟩)).isSome∧w.frozen? (ad3 (x.ad c.d c.k) c.off)=false
 globs:∀ n e,cfg.glob n=some e→PtrAt (freeB x) w n 0 e
 nofz:∀ b,Held (x.ow b)→NoFz w b
 gobj:∀ n ob,cfg.gobj n=some ob→x.ow n=none∧HoldsG w n ob
def SameIO (w w':World):Prop:=w'.os=w.os∧w'.tape=w.tape∧w'.output=w.output
theorem SameIO.refl (w:World):SameIO w w:=⟨rfl,rfl,rfl⟩
theorem SameIO.trans {w w' w'':World} (h:SameIO w w') (k:SameIO w' w''):SameIO w w'':=⟨k.1.trans h.1,k.2.1.trans h.2.1,k.2.2.trans h.2.2⟩
def Room (w w':World):Prop:=∀ b o u,w.cell? (ad3 b o)=some u→w.frozen? (ad3 b o)=false→(∃ u',w'.cell? (ad3 b o)=some u')∧w'.frozen? (ad3 b o)=false
theorem Room.refl (w:World):Room w w:=fun _ _ u h1 h2=>⟨⟨u,h1⟩,h2⟩
theorem Room.trans {w w' w'':World} (h:Room w w') (k:Room w' w''):Room w w'':=fun b o u h1 h2=>let⟨⟨u',h3⟩,h4⟩:=h b o u h1 h2;k b o u' h3 h4
structure Fr (dep:Nat) (x x':Cx) (w w':World):Prop where
 size:w.heap.size≤w'.heap.size
 same:∀ b,b<w.heap.size→x.ow b=none∨x.ow b=some .outer→w'.heap[b]? =w.heap[b]? ∧x'.ow b=x.ow b
 ad:∀ d k,d<dep→x'.ad d k=x.ad d k
 io:SameIO w w'
 room:Room w w'
 base:x'.base=x.base
theorem Fr.refl (dep:Nat) (x:Cx) (w:World):Fr dep x x w w:=⟨y7 _,fun _ _ _=>⟨rfl,rfl⟩,fun _ _ _=>rfl,.refl _,.refl _,rfl⟩
theorem Fr.trans {dep:Nat} {x x' x'':Cx} {w w' w'':World} (h:Fr dep x x' w w') (h':Fr dep x' x'' w' w''):Fr dep x x'' w w'':=
 ⟨aaa h.size h'.size,fun b hb ho=>
  let⟨h1,h2⟩:=h.same b hb ho
  let⟨h3,h4⟩:=h'.same b (zp hb h.size) (by rw[h2];exact ho)
  ⟨h3.trans h1,h4.trans h2⟩,fun d k hd=>(h'.ad d k hd).trans (h.ad d k hd),h.io.trans h'.io,h.room.trans h'.room,h'.base.trans h.base⟩
structure FrK (K dep:Nat) (x x':Cx) (w w':World):Prop where
 size:w.heap.size≤w'.heap.size
 same:∀ b,b<w.heap.size→x.ow b=none∨x.ow b=some .outer→(b≠K→w'.heap[b]? =w.heap[b]?)∧x'.ow b=x.ow b
 ad:∀ d k,d<dep→x'.ad d k=x.ad d k
 io:SameIO w w'
 room:Room w w'
 base:x'.base=x.base
theorem Fr.toK {dep:Nat} {x x':Cx} {w w':World} (h:Fr dep x x' w w') (K:Nat):FrK K dep x x' w w':=⟨h.size,fun b hb ho=>⟨fun _=>(h.same b hb ho).1,(h.same b hb ho).2⟩,h.ad,h.io,h.room,h.base⟩
theorem FrK.toFr {K dep:Nat} {x x':Cx} {w w':World} (h:FrK K dep x x' w w') (hK:w.heap.size≤K):Fr dep x x' w w':=⟨h.size,fun b hb ho=>⟨(h.same b hb ho).1 yp,(h.same b hb ho).2⟩,h.ad,h.io,h.room,h.base⟩
theorem FrK.trans {K dep:Nat} {x x' x'':Cx} {w w' w'':World} (h:FrK K dep x x' w w') (h':FrK K dep x' x'' w' w''):FrK K dep x x'' w w'':=
 ⟨aaa h.size h'.size,fun b hb ho=>
  let⟨h1,h2⟩:=h.same b hb ho
  let⟨h3,h4⟩:=h'.same b (zp hb h.size) (by rw[h2];exact ho)
  ⟨fun e=>(h3 e).trans (h1 e),h4.trans h2⟩,fun d k hd=>(h'.ad d k hd).trans (h.ad d k hd),h.io.trans h'.io,h.room.trans h'.room,h'.base.trans h.base⟩
theorem RdV.mono {x x':Cx} {s s':Get} {cv cv':Loc→Option Value} {w w':World} {l:Option Loc} {v:Value} {y:V} (h:RdV x s cv w l v y)
  (hc:∀ b o u,x.ow b=none→w.cell? (ad3 b o)=some u→x'.ow b=none∧w'.cell? (ad3 b o)=some u)
  (hR:∀ b o u,w.cell? (ad3 b o)=some u→w.frozen? (ad3 b o)=false→(∃ u',w'.cell? (ad3 b o)=some u')∧w'.frozen? (ad3 b o)=false)
  (hS:∀ l' z es,s' l'=some (.own false z es)→∃ es0,s l'=some (.own false z es0)∧es0.length=es.length∧
    ∀ b o L C,cv l'=some (.slice (some (ad3 b o)) L C)→∃ L' C',cv' l'=some (.slice (some (ad3 b o)) L' C'))
  (hB:∀ d k,(s (.cell ⟨d,k,0⟩)).isSome→(s' (.cell ⟨d,k,0⟩)).isSome∧x'.ad d k=x.ad d k)
  (hO:∀ l0,l=some l0→∀ b,x.ow b=some (.at l0)→x'.ow b=some (.at l0)∧∀ o u,w.cell? (ad3 b o)=some u→w'.cell? (ad3 b o)=some u):
  RdV x' s' cv' w' l v y:=by
 induction h with
 |d l v y h=>exact .d l v y (h.mono hc)
 | own l b o len cap z nw es how hlen hcap h=>
  obtain⟨ho1,ho2⟩:=hO l rfl b how;refine .own l b o len cap z nw es ho1 hlen hcap ⟨h.pos,fun j hj=> ?_,h.wid,h.cel,fun i e he j c hj=> ?_⟩
  · obtain⟨⟨u,hu⟩,hf⟩:=h.room j hj
    exact hR b _ u hu hf
  · obtain⟨v,h1,h2⟩:=h.els i e he j c hj
    exact⟨v,ho2 _ _ h1,h2.mono hc⟩
 | bor l l' off len b o' cap' hcap h=>
  refine .bor l l' off len b o' cap' hcap fun z es hs=> ?_
  obtain⟨es0,h0,hl,hcv⟩:=hS l' z es hs;obtain⟨o,L,C,h1,h3,h5,h6⟩:=h z es0 h0;obtain⟨L',C',h7⟩:=hcv b o L C h1;refine⟨o,L',C',h7,hl ▸ h3,h5,fun j hj=> ?_⟩
  obtain⟨⟨u,hu⟩,hf⟩:=h6 j hj;exact hR b _ u hu hf
 | bref l l' i off b o' h=>
  refine .bref l l' i off b o' fun z es hs=> ?_
  obtain⟨es0,h0,_,hcv⟩:=hS l' z es hs;obtain⟨o,L,C,h1,h2⟩:=h z es0 h0;obtain⟨L',C',h7⟩:=hcv b o L C h1;exact⟨o,L',C',h7,h2⟩
 |iptr l b o off e h=>exact .iptr l b o off e (h.mono hc)
 | ref l d k off h=>
  obtain⟨h1,h2⟩:=hB d k h;rw[← h2];exact .ref l d k off h1
 | clo l f va vb xs ys hl hl' _ _ ih ih'=>
  exact .clo l f va vb xs ys hl hl' (fun i v y h1 h2=>ih i v y h1 h2 yt) (fun i v y h1 h2=>ih' i v y h1 h2 yt)
 |ifc l t v y _ ih=>exact .ifc l t v y (ih yt)
 |vec l b o cap ys vs hcap hm _ ih=>exact .vec l b o cap ys vs hcap (fun i y hy=>hc b _ _ (hm i y hy).1 (hm i y hy).2) (fun i y hy=>ih i y hy yt)
 |rcd l vs ys hl _ hd ih=>exact .rcd l vs ys hl (fun i v y h1 h2=>ih i v y h1 h2 hO) hd
 |vref l b o v y hb hm _ ih=>exact .vref l b o v y (hc b _ _ hb hm).1 (hc b _ _ hb hm).2 (ih yt)
 |junk l v=>exact .junk l v
def V.isOwn:V→Bool
 | .own _ _ _| .rcd _=>true
 |_=>false
theorem RdV.reloc {x:Cx} {s:Get} {cv:Loc→Option Value} {w:World} {l l':Option Loc} {v:Value} {y:V} (h:RdV x s cv w l v y) (hn:y.isOwn=false):
  RdV x s cv w l' v y:=by
 cases h with
 |d l v y h=>exact .d _ _ _ h
 |own=>simp[V.isOwn] at hn
 |rcd=>simp[V.isOwn] at hn
 |bor l l' off len b o' cap' hcap h=>exact .bor _ _ _ _ _ _ _ hcap h
 |bref l l' i off b o' h=>exact .bref _ _ _ _ _ _ h
 |iptr l b o off e h=>exact .iptr _ _ _ _ _ h
 |ref l d k off h=>exact .ref _ _ _ _ h
 |clo l f va vb xs ys hl hl' h h'=>exact .clo _ _ _ _ _ _ hl hl' h h'
 |ifc l t v y h=>exact .ifc _ _ _ _ h
 |vec l b o cap ys vs hcap hm h=>exact .vec _ _ _ _ _ _ hcap hm h
 |vref l b o v y hb hm h=>exact .vref _ _ _ _ _ hb hm h
 |junk l v=>exact .junk _ _
theorem Rel.step {cfg:Cfg} {x x':Cx} {N:Nat} {s s':Get} {a a':Act} {w w':World} (R:Rel cfg x N s a w) (U:List Loc)
   (h1:a'.tmps.size=N) (h2:a'.defers=a.defers) (hz:x'.base=x.base)
   (hb:∀ b,x'.ow b≠none→b<w'.heap.size)
   (hs:∀ l,l ∉ U→∀ v,s' l=some v→s l=some v∧∀ u,conc x a w l=some u→conc x' a' w' l=some u)
   (hU:∀ l,l∈U→∀ v,s' l=some v→∃ u,conc x' a' w' l=some u∧RdV x' s' (conc x' a' w') w' (some l) u v)
   (hn:∀ k,.slot k∈U→k<N)
   (hc:∀ b o u,x.ow b=none→w.cell? (ad3 b o)=some u→x'.ow b=none∧w'.cell? (ad3 b o)=some u)
   (hR:∀ b o u,w.cell? (ad3 b o)=some u→w.frozen? (ad3 b o)=false→(∃ u',w'.cell? (ad3 b o)=some u')∧w'.frozen? (ad3 b o)=false)
   (hS:∀ l',l'∈U→∀ z es,s' l'=some (.own false z es)→∃ es0,s l'=some (.own false z es0)∧es0.length=es.length∧
     ∀ b o L C,conc x a w l'=some (.slice (some (ad3 b o)) L C)→∃ L' C',conc x' a' w' l'=some (.slice (some (ad3 b o)) L' C'))
   (hB:∀ d k,(s (.cell ⟨d,k,0⟩)).isSome→(s' (.cell ⟨d,k,0⟩)).isSome∧x'.ad d k=x.ad d k)
   (hO:∀ l0,l0 ∉ U→∀ b,x.ow b=some (.at l0)→x'.ow b=some (.at l0)∧∀ o u,w.cell? (ad3 b o)=some u→w'.cell? (ad3 b o)=some u)
   (hx:∀ c v,s' (.cell c)=some v→x'.ow (x'.ad c.d c.k)=some (.box c.d c.k)∧(s' (.cell ⟨c.d,c.k,0⟩)).isSome∧w'.frozen? (ad3 (x'.ad c.d c.k) c.off)=false) (hZ:∀ b,Held (x'.ow b)→NoFz w' b)
   (hG:∀ b,x.ow b=none∨x.ow b=some .outer→b<w.heap.size→x'.ow b=x.ow b∧w'.heap[b]? =w.heap[b]?):
   Rel cfg x' N s' a' w':=by
 refine⟨h1,R.defs.mono R.bound h2 hz (fun b h hb=>hG b (.inr h) hb),hb,fun l v hl=> ?_,fun k v hk=> ?_,hx,fun n e hg=>(R.globs n e hg).mono hc,hZ,fun n ob hg=> ?_⟩
 rotate_left 2
 · obtain⟨g1,g2⟩:=R.gobj n ob hg
   obtain⟨g3,g4⟩:=hG n (.inl g1) g2.lt;exact⟨g3.trans g1,g2.heap g4⟩
 · by_cases hm:l∈U
   · exact hU l hm v hl
   · obtain⟨h3,h4⟩:=hs l hm v hl
     obtain⟨u,hu,hr⟩:=R.locs l v h3;refine⟨u,h4 u hu,hr.mono hc hR (fun l' z es hs'=> ?_) hB (fun l0 e=> ?_)⟩
     · by_cases hm':l'∈U
       · exact hS l' hm' z es hs'
       · obtain⟨h5,h6⟩:=hs l' hm' _ hs'
         exact⟨es,h5,rfl,fun b o L C hcv=>⟨L,C,h6 _ hcv⟩⟩
     · cases e
       exact hO l hm
 · by_cases hm:Loc.slot k∈U
   · exact hn k hm
   · exact R.slotN k v (hs _ hm v hk).1
end Go.Ev
namespace Go.Ev
open Go
@[simp] theorem lu (s:Get):updG s []=s:=rfl
theorem a8 (s:Get) (l:Loc) (v:V) (r:List (Loc×V)):updG s ((l,v)::r)=updG (fun l'=>if l'=l then some v else s l') r:=rfl
theorem a7 (s:Get) (l:Loc) (v:V) (l':Loc):updG s [(l,v)] l'=if l'=l then some v else s l':=rfl
theorem bm (s:Get) (u v:List (Loc×V)):updG s (u++v)=updG (updG s u) v:=by
 induction u generalizing s with
 |nil=>rfl
 |cons p r ih=>obtain⟨l,y⟩:=p;simp only[List.cons_append,a8];exact ih _
theorem iw {x:Cx} {a:Act} {w:World} {k:Nat} {v:Value} (h:k<a.tmps.size):conc x (a.put (some k) v) w (.slot k)=some v:=by
 simp[conc,Act.put,h]
theorem w6 {x:Cx} {a:Act} {w:World} {k j:Nat} {v:Value} (h:j≠k):conc x (a.put (some k) v) w (.slot j)=conc x a w (.slot j):=by
 simp[conc,Act.put,Array.getElem?_setIfInBounds_ne (Ne.symm h)]
theorem qx {x:Cx} {a:Act} {w:World} {k:Nat} {v:Value} {l:Loc} (h:l≠ .slot k):conc x (a.put (some k) v) w l=conc x a w l:=by
 cases l with
 |slot j=>exact w6 (fun e=>h (e ▸ rfl))
 |cell c=>rfl
theorem akf (a:Act) (d:Option Nat) (v:Value):(a.put d v).tmps.size=a.tmps.size:=by cases d<;>simp[Act.put]
theorem aut (a:Act) (d:Option Nat) (v:Value):(a.put d v).defers=a.defers:=by cases d<;>rfl
def Cx.give (x:Cx) (b:Nat) (o:Option Own):Cx:={x with ow:=fun b'=>if b'=b then o else x.ow b'}
@[simp] theorem Cx.give_same (x:Cx) (b:Nat) (o:Option Own):(x.give b o).ow b=o:=by simp[Cx.give]
theorem Cx.give_ne (x:Cx) {b b':Nat} (o:Option Own) (h:b'≠b):(x.give b o).ow b'=x.ow b':=by simp[Cx.give,h]
@[simp] theorem Cx.give_ad (x:Cx) (b:Nat) (o:Option Own):(x.give b o).ad=x.ad:=rfl
section
variable {cfg:Cfg} {x:Cx} {N:Nat} {s:Get} {a:Act} {w:World}
theorem Rel.nofz_give (R:Rel cfg x N s a w) {b:Nat} {o:Option Own} (h:Held o→Held (x.ow b)):∀ b',Held ((x.give b o).ow b')→NoFz w b':=fun b' h'=>by
 by_cases e:b'=b
 · subst e
   simp only[Cx.give,if_true] at h';exact R.nofz _ (h h')
 · rw[Cx.give_ne _ _ e] at h'
   exact R.nofz _ h'
theorem Rel.putAt (R:Rel cfg x N s a w) {k:Nat} (hk:k<N) {v:Value} {y:V} (hy:∀ z es,y≠ .own false z es) (hv:RdV x s (conc x a w) w (some (.slot k)) v y):
   Rel cfg x N (updG s [(.slot k,y)]) (a.put (some k) v) w:=by
 have hs':∀ l',updG s [(.slot k,y)] l'=if l'= .slot k then some y else s l':=fun l'=>rfl
 have hcv:∀ l',l'≠ .slot k→conc x (a.put (some k) v) w l'=conc x a w l':=fun l' h=>qx h
 have hkk:conc x (a.put (some k) v) w (.slot k)=some v:=iw (by rw[R.size];exact hk)
 have hS:∀ l' z es,updG s [(.slot k,y)] l'=some (.own false z es)→s l'=some (.own false z es)∧conc x (a.put (some k) v) w l'=conc x a w l':=by
   intro l' z es h;rw[hs'] at h;split at h
   · cases h;exact absurd rfl (hy z es)
   · rename_i hne;exact⟨h,hcv l' hne⟩
 have hB:∀ d j,(s (.cell ⟨d,j,0⟩)).isSome→(updG s [(.slot k,y)] (.cell ⟨d,j,0⟩)).isSome∧x.ad d j=x.ad d j:=by
   intro d j h;rw[hs'];simp[h]
 refine R.step [.slot k] (by rw[akf];exact R.size) (by rw[aut]) rfl R.bound (fun l' hl' v' h=> ?_) (fun l' hl' v' h=> ?_) (fun j hj=> ?_)
   (fun b o u h1 h2=>⟨h1,h2⟩) (fun b o u h1 h2=>⟨⟨u,h1⟩,h2⟩) (fun l' hl' z es h=> ?_) hB (fun l0 _ b h=>⟨h,fun _ _ h=>h⟩) (fun c v' h=> ?_) R.nofz (fun _ _ _=>⟨rfl,rfl⟩)
 · have hne:l'≠ .slot k:=by simpa using hl'
   rw[hs',if_neg hne] at h;exact⟨h,fun u hu=>by rw[hcv l' hne];exact hu⟩
 · have he:l'= .slot k:=by simpa using hl'
   subst he;rw[hs',if_pos rfl] at h;cases h;refine⟨v,hkk,hv.mono (fun b o u h1 h2=>⟨h1,h2⟩) (fun b o u h1 h2=>⟨⟨u,h1⟩,h2⟩) (fun l' z es h=> ?_) hB (fun l0 _ b h=>⟨h,fun _ _ h=>h⟩)⟩
   obtain⟨h1,h2⟩:=hS l' z es h;exact⟨es,h1,rfl,fun b o L C hcv=>⟨L,C,by rw[h2];exact hcv⟩⟩
 · have:j=k:=by simpa using hj
   omega
 · obtain⟨h1,h2⟩:=hS l' z es h
   exact⟨es,h1,rfl,fun b o L C hcv=>⟨L,C,by rw[h2];exact hcv⟩⟩
 · rw[hs',if_neg yt] at h
   obtain⟨h1,h2,h3⟩:=R.box c v' h;exact⟨h1,by rw[hs',if_neg yt];exact h2,h3⟩
theorem Rel.put (R:Rel cfg x N s a w) {k:Nat} (hk:k<N) {v:Value} {y:V} (hy:y.isOwn=false) {l:Option Loc} (hv:RdV x s (conc x a w) w l v y):
  Rel cfg x N (updG s [(.slot k,y)]) (a.put (some k) v) w:=
 R.putAt hk (fun z es e=>by subst e;simp[V.isOwn] at hy) (hv.reloc hy)
theorem Rel.congr (R:Rel cfg x N s a w) {s':Get} (h:∀ l,s' l=s l):Rel cfg x N s' a w:=by
 have:s'=s:=funext h;subst this;exact R
theorem Arr.mono {F F':Nat→Prop} {w w':World} {b o cap z:Nat} {es:List D} (h:Arr F w b o cap z es)
  (hc:∀ b o u,F b→w.cell? (ad3 b o)=some u→F' b∧w'.cell? (ad3 b o)=some u)
  (hb:∀ o u,w.cell? (ad3 b o)=some u→w'.cell? (ad3 b o)=some u)
  (hR:∀ o u,w.cell? (ad3 b o)=some u→w.frozen? (ad3 b o)=false→w'.frozen? (ad3 b o)=false):Arr F' w' b o cap z es:=
 ⟨h.pos,fun j hj=>let⟨⟨u,hu⟩,hf⟩:=h.room j hj;⟨⟨u,hb _ _ hu⟩,hR _ u hu hf⟩,h.wid,h.cel,fun i e he j c hj=>
  let⟨v,h1,h2⟩:=h.els i e he j c hj
  ⟨v,hb _ _ h1,h2.mono hc⟩⟩
theorem Arr.rd {F:Nat→Prop} {w:World} {b o cap z len:Nat} {es:List D} (h:Arr F w b o cap z es) (hb:F b) (hl:es.length=len) (hcap:len≤cap):
  Rd F w (.slice (some (ad3 b o)) len cap) (.sl es):=by
 have hv:∀ i j,∃ v,∀ e,es[i]? =some e→∀ c,e.cells[j]? =some c→w.cell? (ad3 b (o+i*z+j))=some v∧Rd F w v c:=by
  intro i j;cases he:es[i]? with
  |none=>exact⟨undef,fun e h=>by cases h⟩
  | some e=>
   cases hc:e.cells[j]? with
   |none=>exact⟨undef,fun e' h c h'=>by cases h;rw[hc] at h';cases h'⟩
   | some c=>
    obtain⟨v,h1,h2⟩:=h.els i e he j c hc;exact⟨v,fun e' h c' h'=>by cases h;rw[hc] at h';cases h';exact⟨h1,h2⟩⟩
 exact .sl b o len cap z es (fun i j=>(hv i j).choose) hl hcap h.wid h.cel
  (fun i e he j c hc=>⟨hb,((hv i j).choose_spec e he c hc).1⟩) (fun i e he j c hc=>((hv i j).choose_spec e he c hc).2)
theorem Rel.forget (R:Rel cfg x N s a w) {l0:Loc} (h0:(s l0).isSome):Rel cfg x N (updG s [(l0,.junk)]) a w:=by
 have hs':∀ l',updG s [(l0,.junk)] l'=if l'=l0 then some .junk else s l':=fun l'=>rfl
 have hB:∀ d j,(s (.cell ⟨d,j,0⟩)).isSome→(updG s [(l0,.junk)] (.cell ⟨d,j,0⟩)).isSome∧x.ad d j=x.ad d j:=by
   intro d j h;rw[hs'];split<;>simp[h]
 refine R.step [l0] R.size rfl rfl R.bound (fun l' hl' v' h=> ?_) (fun l' hl' v' h=> ?_) (fun j hj=> ?_)
   (fun b o u h1 h2=>⟨h1,h2⟩) (fun b o u h1 h2=>⟨⟨u,h1⟩,h2⟩) (fun l' hl' z es h=> ?_) hB (fun l0 _ b h=>⟨h,fun _ _ h=>h⟩) (fun c v' h=> ?_) R.nofz (fun _ _ _=>⟨rfl,rfl⟩)
 · have hne:l'≠l0:=by simpa using hl'
   rw[hs',if_neg hne] at h;exact⟨h,fun u hu=>hu⟩
 · have he:l'=l0:=by simpa using hl'
   subst he;rw[hs',if_pos rfl] at h;cases h;obtain⟨v0,hv0⟩:=zn.1 h0;obtain⟨u,hu,_⟩:=R.locs l' v0 hv0;exact⟨u,hu,.junk _ _⟩
 · obtain⟨v0,hv0⟩:=zn.1 h0
   have:l0= .slot j:=(aal.1 hj).symm;exact R.slotN j v0 (this ▸ hv0)
 · have he:l'=l0:=by simpa using hl'
   subst he;rw[hs',if_pos rfl] at h;cases h
 · obtain⟨v0,hv0⟩:=zn.1 h0
   rw[hs'] at h;split at h
   · rename_i he
     obtain⟨h1,h2,h3⟩:=R.box c v0 (he ▸ hv0);exact⟨h1,(hB _ _ h2).1,h3⟩
   · obtain⟨h1,h2,h3⟩:=R.box c v' h
     exact⟨h1,(hB _ _ h2).1,h3⟩
theorem Rel.hand (R:Rel cfg x N s a w) {k:Nat} (hk:k<N) {l0:Loc} (hne:l0≠ .slot k) {nw:Bool} {z:Nat} {es:List D} (h0:s l0=some (.own nw z es))
   {b:Nat} (how:x.ow b=some (.at l0)) {o len cap:Nat} {es':List D} (hA:Arr (freeB x) w b o cap z es') (hl:es'.length=len) (hcap:len≤cap):
   Rel cfg (x.give b (some (.at (.slot k)))) N (updG s [(.slot k,.own true z es'),(l0,.junk)]) (a.put (some k) (.slice (some (ad3 b o)) len cap)) w:=by
 have hs':∀ l',updG s [(.slot k,.own true z es'),(l0,.junk)] l'=if l'=l0 then some .junk else if l'= .slot k then some (.own true z es') else s l':=fun l'=>rfl
 have hx:∀ b',x.ow b'=none→(x.give b (some (.at (.slot k)))).ow b'=none:=fun b' h=>by
   rw[Cx.give_ne];· exact h
   intro e;rw[e,how] at h;cases h
 have hB:∀ d j,(s (.cell ⟨d,j,0⟩)).isSome→(updG s [(.slot k,.own true z es'),(l0,.junk)] (.cell ⟨d,j,0⟩)).isSome∧(x.give b (some (.at (.slot k)))).ad d j=x.ad d j:=by
   intro d j h;rw[hs'];split<;>simp[h]
 have hkk:conc (x.give b (some (.at (.slot k)))) (a.put (some k) (.slice (some (ad3 b o)) len cap)) w (.slot k)=some (.slice (some (ad3 b o)) len cap):=
   iw (by rw[R.size];exact hk)
 have hcv:∀ l',l'≠ .slot k→conc (x.give b (some (.at (.slot k)))) (a.put (some k) (.slice (some (ad3 b o)) len cap)) w l'=conc x a w l':=fun l' h=>by
   rw[qx h];cases l'<;>rfl
 refine R.step [.slot k,l0] (by rw[akf];exact R.size) (by rw[aut]) rfl (fun b' hb'=> ?_) (fun l' hl' v' h=> ?_) (fun l' hl' v' h=> ?_) (fun j hj=> ?_)
   (fun b o u h1 h2=>⟨hx b h1,h2⟩) (fun b o u h1 h2=>⟨⟨u,h1⟩,h2⟩) (fun l' hl' z es h=> ?_) hB (fun l1 hl1 b1 h1=>⟨?_,fun _ _ h=>h⟩) (fun c v' h=> ?_) (R.nofz_give (fun _=> .inr ⟨_,how⟩)) (fun b' h _=>⟨Cx.give_ne _ _ (fun e=>by subst e;rw[how] at h;rcases h with h|h<;>cases h),rfl⟩)
 · by_cases e:b'=b
   · subst e;exact R.bound _ (by rw[how];simp)
   · rw[Cx.give_ne _ _ e] at hb';exact R.bound _ hb'
 · simp only[zr,aay,or_false,not_or] at hl'
   rw[hs',if_neg hl'.2,if_neg hl'.1] at h;exact⟨h,fun u hu=>by rw[hcv l' hl'.1];exact hu⟩
 · rw[hs'] at h
   simp only[zr,aay,or_false] at hl';by_cases e:l'=l0
   · rw[if_pos e] at h
     cases h;obtain⟨u,hu,_⟩:=R.locs l0 _ h0;exact⟨u,by rw[e,hcv l0 hne];exact hu,.junk _ _⟩
   · rw[if_neg e] at h
     rcases hl' with hl'|hl'
     · subst hl'
       rw[if_pos rfl] at h;cases h;exact⟨_,hkk,.own _ b o len cap z true es' yt hl hcap (hA.mono (fun b o u h1 h2=>⟨hx b h1,h2⟩) (fun _ _ h=>h) (fun _ _ _ h=>h))⟩
     · exact absurd hl' e
 · simp only[zr,aay,or_false] at hj
   rcases hj with hj|hj
   · cases hj;exact hk
   · exact R.slotN j _ (hj ▸ h0)
 · rw[hs'] at h
   split at h
   · cases h
   · split at h
     · cases h
     · simp_all
 · simp only[zr,aay,or_false,not_or] at hl1
   rw[Cx.give_ne];· exact h1
   intro e;rw[e,how] at h1;cases h1;exact hl1.2 rfl
 · have key:∀ v0,s (.cell c)=some v0→(x.give b (some (.at (.slot k)))).ow (x.ad c.d c.k)=some (.box c.d c.k)∧
       (updG s [(.slot k,.own true z es'),(l0,.junk)] (.cell ⟨c.d,c.k,0⟩)).isSome∧w.frozen? (ad3 (x.ad c.d c.k) c.off)=false:=fun v0 hv0=>by
     obtain⟨h1,h2,h3⟩:=R.box c v0 hv0;refine⟨?_,(hB _ _ h2).1,h3⟩;rw[Cx.give_ne];· exact h1
     intro e;rw[e,how] at h1;cases h1
   rw[hs'] at h;split at h
   · rename_i e;exact key _ (e ▸ h0)
   · rw[if_neg yt] at h;exact key _ h
theorem Rel.release (R:Rel cfg x N s a w) {l0:Loc} {nw:Bool} {z:Nat} {es:List D} (h0:s l0=some (.own nw z es)):
   ∃ b,x.ow b=some (.at l0)∧(∃ o L C,conc x a w l0=some (.slice (some (ad3 b o)) L C))∧Rel cfg (x.give b none) N (updG s [(l0,.d (.sl es))]) a w:=by
 obtain⟨u,hu,hr⟩:=R.locs l0 _ h0;cases hr with
 |own l b o len cap z nw es how hlen hcap hA=>
 refine⟨b,how,⟨o,len,cap,hu⟩,?_⟩;have hs':∀ l',updG s [(l0,.d (.sl es))] l'=if l'=l0 then some (.d (.sl es)) else s l':=fun l'=>rfl
 have hx:∀ b',x.ow b'=none→(x.give b none).ow b'=none:=fun b' h=>by
   simp only[Cx.give];split<;>simp_all
 have hB:∀ d j,(s (.cell ⟨d,j,0⟩)).isSome→(updG s [(l0,.d (.sl es))] (.cell ⟨d,j,0⟩)).isSome∧(x.give b none).ad d j=x.ad d j:=by
   intro d j h;rw[hs'];split<;>simp[h]
 have hcv:∀ l',conc (x.give b none) a w l'=conc x a w l':=fun l'=>by cases l'<;>rfl
 refine R.step [l0] R.size rfl rfl (fun b' hb'=> ?_) (fun l' hl' v' h=> ?_) (fun l' hl' v' h=> ?_) (fun j hj=> ?_)
   (fun b o u h1 h2=>⟨hx b h1,h2⟩) (fun b o u h1 h2=>⟨⟨u,h1⟩,h2⟩) (fun l' hl' z es h=> ?_) hB (fun l1 hl1 b1 h1=>⟨?_,fun _ _ h=>h⟩) (fun c v' h=> ?_) (R.nofz_give (fun h=>by rcases h with h|⟨_,h⟩<;>cases h)) (fun b' h _=>⟨Cx.give_ne _ _ (fun e=>by subst e;rw[how] at h;rcases h with h|h<;>cases h),rfl⟩)
 · by_cases e:b'=b
   · subst e;simp at hb'
   · rw[Cx.give_ne _ _ e] at hb';exact R.bound _ hb'
 · have hne:l'≠l0:=by simpa using hl'
   rw[hs',if_neg hne] at h;exact⟨h,fun u hu=>by rw[hcv];exact hu⟩
 · have he:l'=l0:=by simpa using hl'
   subst he;rw[hs',if_pos rfl] at h;cases h;exact⟨_,by rw[hcv];exact hu,.d _ _ _ ((hA.mono (fun b o u h1 h2=>⟨hx b h1,h2⟩) (fun _ _ h=>h) (fun _ _ _ h=>h)).rd (Cx.give_same _ _ _) hlen hcap)⟩
 · have:l0= .slot j:=(aal.1 hj).symm
   exact R.slotN j _ (this ▸ h0)
 · have he:l'=l0:=by simpa using hl'
   subst he;rw[hs',if_pos rfl] at h;cases h
 · have hne:l1≠l0:=by simpa using hl1
   rw[Cx.give_ne];· exact h1
   intro e;rw[e,how] at h1;cases h1;exact hne rfl
 · have key:∀ v0,s (.cell c)=some v0→(x.give b none).ow (x.ad c.d c.k)=some (.box c.d c.k)∧
      (updG s [(l0,.d (.sl es))] (.cell ⟨c.d,c.k,0⟩)).isSome∧w.frozen? (ad3 (x.ad c.d c.k) c.off)=false:=fun v0 hv0=>by
     obtain⟨h1,h2,h3⟩:=R.box c v0 hv0;refine⟨?_,(hB _ _ h2).1,h3⟩;rw[Cx.give_ne];· exact h1
     intro e;rw[e,how] at h1;cases h1
   rw[hs'] at h;split at h
   · rename_i e;exact key _ (e ▸ h0)
   · exact key _ h
theorem Rel.relabel (R:Rel cfg x N s a w) {l0:Loc} {b:Nat} (how:x.ow b=some (.at l0)) (h0:∀ v,s l0=some v→v.isOwn=false) (hn:∀ k,l0= .slot k→k<N) (l1:Loc):
   Rel cfg (x.give b (some (.at l1))) N s a w:=by
 have hx:∀ b',x.ow b'=none→(x.give b (some (.at l1))).ow b'=none:=fun b' h=>by
   rw[Cx.give_ne];· exact h
   intro e;rw[e,how] at h;cases h
 have hcv:∀ l',conc (x.give b (some (.at l1))) a w l'=conc x a w l':=fun l'=>by cases l'<;>rfl
 refine R.step [l0] R.size rfl rfl (fun b' hb'=> ?_) (fun l' hl' v' h=>⟨h,fun u hu=>by rw[hcv];exact hu⟩) (fun l' hl' v' h=> ?_) (fun j hj=>hn j (aal.1 hj).symm)
   (fun b o u h1 h2=>⟨hx b h1,h2⟩) (fun b o u h1 h2=>⟨⟨u,h1⟩,h2⟩) (fun l' hl' z es h=> ?_) (fun d k h=>⟨h,rfl⟩) (fun l2 hl2 b2 h2=>⟨?_,fun _ _ h=>h⟩) (fun c v' h=> ?_) (R.nofz_give (fun _=> .inr ⟨_,how⟩)) (fun b' h _=>⟨Cx.give_ne _ _ (fun e=>by subst e;rw[how] at h;rcases h with h|h<;>cases h),rfl⟩)
 · by_cases e:b'=b
   · subst e;exact R.bound _ (by rw[how];simp)
   · rw[Cx.give_ne _ _ e] at hb';exact R.bound _ hb'
 · have he:l'=l0:=by simpa using hl'
   subst he;obtain⟨u,hu,hr⟩:=R.locs _ _ h;refine⟨u,by rw[hcv];exact hu,((hr.reloc (l':=none) (h0 _ h)).mono (fun b o u h1 h2=>⟨hx b h1,h2⟩) (fun b o u h1 h2=>⟨⟨u,h1⟩,h2⟩) (fun l2 z es hs=>⟨es,hs,rfl,fun b o L C hc=>⟨L,C,by rw[hcv];exact hc⟩⟩) (fun d k h=>⟨h,rfl⟩) (fun l0 e=>by cases e)).reloc (h0 _ h)⟩
 · have he:l'=l0:=by simpa using hl'
   subst he;have:=h0 _ h;simp[V.isOwn] at this
 · have hne:l2≠l0:=by simpa using hl2
   rw[Cx.give_ne];· exact h2
   intro e;rw[e,how] at h2;cases h2;exact hne rfl
 · obtain⟨h1,h2,h3⟩:=R.box c v' h
   refine⟨?_,h2,h3⟩;rw[Cx.give_ad,Cx.give_ne];· exact h1
   intro e;rw[e,how] at h1;cases h1
theorem Fr.give {dep:Nat} {l0:Loc} {b:Nat} (how:x.ow b=some (.at l0)) (o:Option Own):Fr dep x (x.give b o) w w:=
 ⟨y7 _,fun b' _ h=>⟨rfl,Cx.give_ne _ _ (fun e=>by rw[e,how] at h;simp at h)⟩,fun _ _ _=>rfl,.refl _,.refl _,rfl⟩
end
