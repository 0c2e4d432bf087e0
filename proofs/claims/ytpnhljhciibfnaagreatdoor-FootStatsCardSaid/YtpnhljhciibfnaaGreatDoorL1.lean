import Derived.Calls
import Derived.Laws.Cells
import Derived.Laws.Append
import Derived.Laws.IdiomCopy
namespace Go.Ev
open Go
theorem aa1 {P:Prop} (h:P:=by omega):P:=h
theorem aa3 {P:Prop} (h:P:=by simp):P:=h
theorem aa4 {P:Prop} (h:P:=by decide):P:=h
abbrev aa5:= @Bool.eq_false_or_eq_true
abbrev aa6:= @Option.map_eq_some_iff
abbrev aa7:= @decide_eq_false_iff_not
abbrev aa8:= @Bool.false_eq_true
abbrev aa9:= @decide_eq_true_eq
abbrev aba:= @beq_eq_false_iff_ne
abbrev abb:= @Bool.not_eq_true'
abbrev abc:= @Bool.not_eq_false'
abbrev abd:= @List.getElem?_eq_getElem
abbrev abe:= @Bool.and_eq_true
abbrev abf:= @Bool.not_eq_false
abbrev abg:= @List.getElem?_eq_some_iff
abbrev abh:= @Bool.not_eq_true
abbrev abj:= @Option.bind_eq_some_iff
abbrev abk:= @List.length_append
abbrev abl:= @List.length_map
abbrev abm:= @beq_iff_eq
abbrev abn:= @Nat.le_refl
abbrev abo:= @Nat.le_trans
abbrev abp:= @not_true_eq_false
abbrev abq:= @Option.isSome_iff_exists
abbrev abr:= @List.mem_cons
abbrev abs:= @Int.toNat_of_nonneg
abbrev abt:= @Int.toNat_natCast
abbrev abu:= @List.getElem?_map
abbrev abv:= @List.append_assoc
abbrev abw:= @List.mem_cons_of_mem
abbrev abx:= @Array.getElem?_eq_some_iff
abbrev aby:= @Nat.mul_le_mul_right
abbrev abz:= @Array.getElem?_eq_getElem
abbrev ab0:= @Bool.eq_iff_iff
abbrev ab1:= @List.mem_append
abbrev ab2:= @List.mem_flatMap
abbrev ab3:= @Nat.lt_of_lt_of_le
abbrev ab4:= @Bool.or_eq_true
abbrev ab5:= @List.getElem?_of_mem
abbrev ab6:= @Bool.and_eq_false_iff
abbrev ab7:= @not_false_eq_true
abbrev ab8:= @Nat.add_mul
abbrev ab9:= @List.mem_singleton
abbrev aca:= @Bool.or_eq_false_iff
abbrev acb:= @Bool.not_eq_eq_eq_not
abbrev acd:= @List.all_eq_true
abbrev ace:= @List.eq_nil_of_length_eq_zero
abbrev acf:= @Bool.not_false
abbrev acg:= @List.take_length
abbrev ach:= @List.not_mem_nil
abbrev aci:= @Bool.true_eq_false
abbrev acj:= @Nat.zero_le
abbrev acm:= @Bool.not_true
abbrev acn:= @List.mem_append_right
abbrev aco:= @List.getElem?_append_left
abbrev acp:= @List.drop_of_length_le
abbrev acq:= @List.mem_of_mem_drop
abbrev acr:= @List.mem_of_mem_take
abbrev acs:= @Nat.zero_lt_succ
abbrev act:= @List.drop_eq_getElem_cons
abbrev acu:= @Nat.le_max_left
abbrev acv:= @Nat.mod_eq_of_lt
abbrev acw:= @Nat.pow_le_pow_right
abbrev acx:= @List.mem_or_eq_of_mem_set
abbrev acy:= @Nat.add_assoc
abbrev acz:= @List.mem_filter
abbrev ac0:= @List.mem_map
end Go.Ev
namespace Go.Ev
inductive D where
 |bool (b:Bool)
 |int (k:IntKind) (n:Int)
 |str (s:List UInt8)
 |AB|Dp|Ep|EH|GV
 |sl (es:List D)
 |agg (cs:List D)
 |ptr (e:D)
 |ifc (t:TypeId) (d:D)
 |fn (f:FuncId)
 |tup (ds:List D)
 |unk
 |DY
 deriving Inhabited
def D.cells:D→List D
 | .agg cs=>cs
 |d=>[d]
def D.AW:D→Bool
 | .agg _| .tup _=>false
 |_=>true
def D.storable:D→Bool
 | .tup _=>false
 |_=>true
structure Cel where
 d:Nat
 k:Nat
 off:Nat
 deriving DecidableEq
inductive Loc where
 |slot (k:Nat)
 |cell (c:Cel)
 deriving DecidableEq
inductive V where
 |d (x:D)
 |own (new:Bool) (z:Nat) (es:List D)
 |bor (l:Loc) (off len:Nat)
 |Az (l:Loc) (i off:Nat)
 |Ax (e:D) (off:Nat)
 |ref (d k off:Nat)
 |clo (f:FuncId) (first captured:List V)
 |ifc (t:TypeId) (v:V)
 |vec (ys:List V)
 |B4 (y:V)
 |rcd (ys:List V)
 |AY
 deriving Inhabited
inductive AE where
 |t (k:Nat)
 |c (x:D)
 |g (n:Nat)
inductive Sc where
 |bool|ptr|func|iface
 |agg (ks:List Nat)
inductive IOp where
 |mv (x:AE)
 |asg (x:AE)
 |pick (c a b:AE)
 |alloc (zs:List D)
 |box (n:Nat) (x:AE)
 |build (zs:List D) (ps:List (Nat×Nat×AE))
 |XU (n:Nat) (ps:List (Nat×Nat×AE))
 |lit (own:Bool) (z n:Nat) (zd:D) (ps:List (Nat×AE))
 |load (z:Option Nat) (a:AE)
 |store (n:Nat) (a x:AE)
 |GU (x:AE)
 |bin (op:BinOp) (x y:AE)
 |eqn (neg:Bool) (cls:Sc) (x y:AE)
 |isNil (neg:Bool) (x:AE)
 |un (op:UnOp) (x:AE)
 |Aj (k:IntKind) (x:AE)
 |dI (x:AE)
 |b2s (x:AE)
 |s2b (own:Bool) (x:AE)
 |cvB (own:Bool) (x:AE)
 |mkI (t:TypeId) (x:AE)
 |mkF (f:FuncId) (first captured:List AE)
 |mkS (z bytes:Nat) (zd:D) (len cap:AE)
 |slice (z:Nat) (x:AE) (lo hi mx:Option AE)
 |CK (x:AE) (lo hi:Option AE)
 |AH (off:Nat) (x:AE)
 |field (off:Nat) (z:Option Nat) (x:AE)
 |C6 (z:Nat) (x i:AE)
 |GZ (x i:AE)
 |idxC (n z:Nat) (g:Bool) (x i:AE)
 |G1 (n z:Nat) (x i:AE)
 |ext (x:AE) (i:Nat)
 |len (isS:Bool) (x:AE)
 |DT (mx:Bool) (xs:List AE)
 |append (z bytes:Nat) (x y:AE)
 |S4 (x y:AE)
 |copy (z:Nat) (x y:AE)
 |tass (t:TypeId) (zero:D) (ok:Bool) (x:AE)
 |call (own:Bool) (f:FuncId) (args:List AE)
 |A9 (own:Bool) (f:FuncId) (args:List AE) (i:Nat)
 |BO (own:Bool) (x:AE) (args:List AE)
 |inv (own:Bool) (x:AE) (name:String) (args:List AE)
 |bad
structure AV where
 dst:Option Nat
 guard:Option (Nat×Bool)
 op:IOp
inductive AD where
 |skip
 |region (ops:List AV) (unord:List (Nat×Nat)) (Ak:List Nat)
 |seq (a b:AD)
 |cond (x:AE) (a b:AD)
 |block (id:Nat) (b:AD)
 |loop (b:AD)
 |each (x:AE) (ps:List Nat) (a b:AD)
 |exit (id:Nat)
 |ret
 |Bw (ls:List Nat)
 |AX (ls:List Nat)
 |free (k:Nat)
 |bad
inductive Dm where
 |t (k:Nat)
 |cell (k:Nat) (z:Option Nat)
structure AP where
 arity:Nat
 results:List Dm
 body:AD
structure Cfg where
 funcs:FuncId→Option AP
 R7:TypeId→String→Option FuncId
 IL:Nat→Option D
 B1:Nat→Option (Array Value):=fun _=>none
 HF:TypeId→Bool
 clip:FuncId→Bool
 ext:FuncId→Option (List D→Option V)
 iter:FuncId→Option (List D→Option (List (List D))):=fun _=>none
 chg:FuncId→Option (List (Nat×Nat)):=fun _=>none
section maps
variable {α:Type} [DecidableEq α] {β:Type}
def lk:List (α×β)→α→Option β
 | [],_=>none
 | (k',v)::r,k=>if k'=k then some v else lk r k
def st:List (α×β)→α→β→List (α×β)
 | [],k,v=>[(k,v)]
 | (k',v')::r,k,v=>if k'=k then(k,v)::r else(k',v')::st r k v
end maps
structure St where
 env:List (Nat×V)
 mem:List (Cel×V)
def St.get (s:St):Loc→Option V
 | .slot k=>lk s.env k
 | .cell c=>lk s.mem c
def St.set (s:St) (l:Loc) (v:V):St:=
 match l with
 | .slot k=>{s with env:=st s.env k v}
 | .cell c=>{s with mem:=st s.mem c v}
def St.upd (s:St):List (Loc×V)→St
 | []=>s
 | (l,v)::r=>(s.set l v).upd r
abbrev Get:=Loc→Option V
def d8:Nat:=2 ^ 36
def bsa:Nat:=2 ^ 60
def val (cfg:Cfg) (s:Get):AE→Option V
 | .t k=>s (.slot k)
 | .c x=>some (.d x)
 | .g n=>(cfg.IL n).map fun e=> .Ax e 0
def cont (s:Get):V→Option (List D)
 | .d .AB=>some []
 | .d (.sl es)=>some es
 | .own _ _ es=>some es
 | .bor l off n=>match s l with
  |some (.own false _ es)=>some ((es.drop off).take n)
  |_=>none
 |_=>none
def D.can:D→D
 | .AB=> .sl []
 |d=>d
def D.Fb:D→D
 | .agg cs=> .agg (cs.map D.can)
 |d=>d.can
def D.canon:D→D
 | .tup cs=> .tup (cs.map D.Fb)
 |d=>d.Fb
def V.asD:V→Option D
 | .d x=>some x.canon
 | .Ax e 0=>some (.ptr e)
 |_=>none
def dat (cfg:Cfg) (s:Get) (x:AE):Option D:=(val cfg s x).bind V.asD
def Ef (cfg:Cfg) (s:Get):List AE→Option (List D)
 | []=>some []
 | x::r=>match dat cfg s x,Ef cfg s r with
  |some d,some ds=>some (d::ds)
  |_,_=>none
def AO (dst:Option Nat) (v:V):List (Loc×V):=
 match dst with
 |some k=>[(.slot k,v)]
 |none=>[]
def setCells (cs:List D) (off:Nat):List D→List D
 | []=>cs
 |x::r=>setCells (cs.set off x) (off+1) r
def EK (cs:List D):List (Nat×Nat×D)→Option (List D)
 | []=>some cs
 | (off,size,x)::r=>
  if x.cells.length=size∧off+size≤cs.length∧x.storable then EK (setCells cs off x.cells) r else none
def El (z:Nat) (es:List D):List (Nat×D)→Option (List D)
 | []=>some es
 | (i,x)::r=>if x.cells.length=z∧i<es.length∧x.storable then El z (es.set i x) r else none
def ldD (z:Option Nat) (e:D) (off:Nat):Option D:=
 match z with
 |none=>e.cells[off]?
 |some z=>if off+z≤e.cells.length then some (.agg ((e.cells.drop off).take z)) else none
def a6 (op:BinOp) (k:IntKind) (a:Int) (k':IntKind) (b:Int):Option D:=
 match op with
 | .shl=>if b<0 then none else some (.int k (k.wrap (a*2 ^ (min b.toNat k.bits))))
 | .shr=>if b<0 then none else some (.int k (a.fdiv (2 ^ (min b.toNat k.bits))))
 | .add=>if k=k' then some (.int k (k.wrap (a+b))) else none
 | .sub=>if k=k' then some (.int k (k.wrap (a-b))) else none
 | .mul=>if k=k' then some (.int k (k.wrap (a*b))) else none
 | .quo=>if k=k'∧b≠0 then some (.int k (k.wrap (a.tdiv b))) else none
 | .rem=>if k=k'∧b≠0 then some (.int k (a.tmod b)) else none
 | .and=>if k=k' then some (.int k (k.wrap (BitVec.ofInt k.bits a &&& BitVec.ofInt k.bits b).toNat)) else none
 | .or=>if k=k' then some (.int k (k.wrap (BitVec.ofInt k.bits a ||| BitVec.ofInt k.bits b).toNat)) else none
 | .xor=>if k=k' then some (.int k (k.wrap (BitVec.ofInt k.bits a ^^^ BitVec.ofInt k.bits b).toNat)) else none
 | .andNot=>if k=k' then some (.int k (k.wrap (BitVec.ofInt k.bits a &&& ~~~ BitVec.ofInt k.bits b).toNat)) else none
 | .eql=>if k=k' then some (.bool (a==b)) else none
 | .neq=>if k=k' then some (.bool (a !=b)) else none
 | .lss=>if k=k' then some (.bool (decide (a<b))) else none
 | .leq=>if k=k' then some (.bool (decide (a≤b))) else none
 | .gtr=>if k=k' then some (.bool (decide (a>b))) else none
 | .geq=>if k=k' then some (.bool (decide (a≥b))) else none
def tg (op:BinOp) (a b:List UInt8):Option D:=
 match op with
 | .add=>if a.length+b.length≤bsa then some (.str (a++b)) else none
 | .eql=>some (.bool (a==b))
 | .neq=>some (.bool !(a==b))
 | .lss=>some (.bool (_root_.Go.Op.bytesLess a b))
 | .leq=>some (.bool (_root_.Go.Op.bytesLess a b||a==b))
 | .gtr=>some (.bool !(_root_.Go.Op.bytesLess a b||a==b))
 | .geq=>some (.bool !(_root_.Go.Op.bytesLess a b))
 |_=>none
def D.bin (op:BinOp):D→D→Option D
 | .int k a,.int k' b=>a6 op k a k' b
 | .str a,.str b=>tg op a b
 |_,_=>none
def XB:Nat→D→D→Option Bool
 |0,.int k a,.int k' b=>if k=k' then some (a==b) else none
 |1,.bool a,.bool b=>some (a==b)
 |2,.str a,.str b=>some (a==b)
 |_,_,_=>none
def m6:List Nat→List D→List D→Option Bool
 | [],[],[]=>some true
 | n::ns,a::r,b::r'=>match XB n a b,m6 ns r r' with
  |some t,some t'=>some (t&&t')
  |_,_=>none
 |_,_,_=>none
def D.eqn (cfg:Cfg):Sc→D→D→Option Bool
 | .bool,.bool a,.bool b=>some (a==b)
 | .ptr,.Dp,.Dp=>some true
 | .ptr,.Dp,.ptr _=>some false
 | .ptr,.ptr _,.Dp=>some false
 | .agg ks,.agg xs,.agg ys=>m6 ks xs ys
 | .func,.EH,.EH=>some true
 | .func,.EH,.fn _=>some false
 | .func,.fn _,.EH=>some false
 | .iface,.Ep,.ifc _ _=>some false
 | .iface,.ifc _ _,.Ep=>some false
 | .iface,.ifc t a,.ifc u b=>if t≠u then some false else match a,b with
  | .int k a,.int k' b=>if cfg.HF t∧k=k' then some (a==b) else none
  |_,_=>none
 |_,_,_=>none
def V.eqn (cfg:Cfg):Sc→V→V→Option Bool
 |c,.d a,.d b=>a.eqn cfg c b
 | .ptr,.ref _ _ _,.d .Dp=>some false
 | .ptr,.Ax _ _,.d .Dp=>some false
 | .ptr,.Az _ _ _,.d .Dp=>some false
 | .func,.clo _ _ _,.d .EH=>some false
 | .iface,.ifc _ _,.d .Ep=>some false
 |_,_,_=>none
def ux (neg:Bool):V→Option D
 | .d .AB| .d (.sl [])=>some .DY
 | .d (.sl (_::_))| .own _ _ _| .bor _ _ _=>some (.bool neg)
 |_=>none
def D.un (op:UnOp):D→Option D
 | .int k n=>match op with
  | .neg=>some (.int k (k.wrap (0-n)))
  | .xor=>some (.int k (k.wrap (BitVec.ofInt k.bits (if k.signed then -1 else k.max) ^^^ BitVec.ofInt k.bits n).toNat))
  |_=>none
 | .bool b=>match op with
  | .not=>some (.bool !b)
  |_=>none
 |_=>none
def D.byte? :D→Option UInt8
 | .int .u8 n=>some (UInt8.ofNat n.toNat)
 |_=>none
def di:List D→Option (List UInt8)
 | []=>some []
 | x::r=>match x.byte?,di r with
  |some b,some bs=>some (b::bs)
  |_,_=>none
def AM (b:UInt8):D:= .int .u8 b.toNat
def D.toInt? :D→Option Int
 | .int _ n=>some n
 |_=>none
def minD (mx:Bool):List D→Option D
 | []=>none
 | .int k a::r=>go k a r
 |_=>none
where
 go (k:IntKind) (a:Int):List D→Option D
  | []=>some (.int k a)
  | .int _ b::r=>go k (if mx then(if b>a then b else a) else(if b<a then b else a)) r
  |_=>none
def cm (cfg:Cfg) (s:Get) (len:Nat) (lo hi:Option AE):Option (Nat×Nat):=
 let h? :Option Nat:=match hi with
  |none=>some len
  | some x=>match(dat cfg s x).bind D.toInt? with
   |some n=>if 0≤n∧n≤len then some n.toNat else none
   |none=>none
 match h? with
 |none=>none
 | some h=>match lo with
  |none=>some (0,h)
  | some x=>match(dat cfg s x).bind D.toInt? with
   |some n=>if 0≤n∧n≤h then some (n.toNat,h) else none
   |none=>none
end Go.Ev
namespace Go.Ev
def Dz (z:Nat):List D→Bool
 | []=>true
 |e::r=>e.cells.length==z&&Dz z r
def BK (cfg:Cfg) (s:Get):List AE→Option (List V)
 | []=>some []
 | x::r=>match val cfg s x,BK cfg s r with
  |some v,some vs=>some (v::vs)
  |_,_=>none
def fg (dep k:Nat):Nat→List V→List (Loc×V)
 |_,[]=>[]
 |off,v::r=>(.cell ⟨dep,k,off⟩,v)::fg dep k (off+1) r
def ez (s:Get) (d k off:Nat):Nat→Option (List D×List (Loc×V))
 |0=>some ([],[])
 | n+1=>match s (.cell ⟨d,k,off⟩),ez s d k (off+1) n with
  |some (.d x),some (r,u)=>if x.AW then some (x.can::r,u) else none
  |some (.Ax e 0),some (r,u)=>some (.ptr e::r,u)
  |some (.own _ _ es),some (r,u)=>some (.sl es::r,(.cell ⟨d,k,off⟩,.d (.sl es))::u)
  |_,_=>none
def alive (s:Get) (d k off:Nat):Nat→Bool
 |0=>true
 |n+1=>(s (.cell ⟨d,k,off⟩)).isSome&&alive s d k (off+1) n
def fe (cfg:Cfg) (s:Get):List (Nat×Nat×AE)→Option (List (Nat×Nat×D))
 | []=>some []
 | (o,n,x)::r=>match dat cfg s x,fe cfg s r with
  |some d,some ds=>some ((o,n,d)::ds)
  |_,_=>none
def iu (cfg:Cfg) (s:Get):List (Nat×AE)→Option (List (Nat×D))
 | []=>some []
 | (i,x)::r=>match dat cfg s x,iu cfg s r with
  |some d,some ds=>some ((i,d)::ds)
  |_,_=>none
def V.Ad:V→Bool
 | .d _| .Ax _ _| .ref _ _ _| .clo _ _ _| .ifc _ _=>true
 |_=>false
def FD (dst:Option Nat) (x:AE) (v:V):Option (List (Loc×V)):=
 match x,v with
 | .t k,.own false _ es=>some (AO dst (.bor (.slot k) 0 es.length))
 | .t k,.own true z es=>some (AO dst (.own true z es)++[(.slot k,.AY)])
 |_,.rcd _=>none
 |_,v=>some (AO dst v)
def Di (s:Get) (dst:Option Nat) (x:AE) (v:V):Option (List (Loc×V)):=
 match x,v with
 | .t k,.own _ z es=>some (AO dst (.own true z es)++[(.slot k,.AY)])
 | _,.bor l off n=>match s l with
  |some (.own false z es)=>if off=0∧n=es.length then
   (if dst.map Loc.slot=some l then some [(l,.own true z es)] else some (AO dst (.own true z es)++[(l,.AY)])) else none
  |_=>none
 |_,.Az _ _ _=>none
 |_,.rcd _=>none
 |_,v=>some (AO dst v)
def HJ (dep:Nat) (s:Get) (k n:Nat) (v:V):Option (List (Loc×V)):=
 if(s (.cell ⟨dep,k,0⟩)).isSome then none else
 match v with
 | .d y=>if y.cells.length=n∧n≠0∧y.storable then some ((.slot k,.ref dep k 0)::fg dep k 0 (y.cells.map .d)) else none
 |v=>if n=1∧v.Ad then some [(.slot k,.ref dep k 0),(.cell ⟨dep,k,0⟩,v)] else none
def j6 (s:Get) (dst:Option Nat) (z:Option Nat) (v:V):Option (List (Loc×V)):=
 match v with
 | .Ax e off=>(ldD z e off).map fun x=>AO dst (.d x)
 | .d (.ptr e)=>(ldD z e 0).map fun x=>AO dst (.d x)
 | .Az l i off=>match s l with
  |some (.own false _ es)=>(es[i]?).bind fun e=>(ldD z e off).map fun x=>AO dst (.d x)
  |_=>none
 | .B4 y=>match z with
  |none=>if y.Ad then some (AO dst y) else none
  |some _=>none
 | .ref d k off=>match z with
  | none=>match s (.cell ⟨d,k,off⟩) with
   |some (.own false _ es)=>some (AO dst (.bor (.cell ⟨d,k,off⟩) 0 es.length))
   |some v=>if v.Ad then some (AO dst v) else none
   |none=>none
  |some n=>(ez s d k off n).map fun(cs,u)=>u++AO dst (.d (.agg cs))
 |_=>none
def D.setAt (e:D) (off:Nat) (cs:List D):Option D:=
 if off+cs.length≤e.cells.length then
  match e with
  | .agg es=>some (.agg (setCells es off cs))
  | _=>match cs with
   | []=>some e
   |c::_=>if c.cells.length=1 then some c else none
 else none
def AN (s:Get):List (Loc×V)→Get
 | []=>s
 | (l,v)::r=>AN (fun l'=>if l'=l then some v else s l') r
def Si (cfg:Cfg) (k:Nat):Get→Nat→List (Nat×Nat×AE)→Option (List V×List (Loc×V))
 |_,_,[]=>some ([],[])
 |s,i,(o,n,x)::r=>if o=i∧n=1 then
   match x,val cfg s x with
   | .t j,some (.own _ z es)=>if j=k then none else(Si cfg k (AN s [(.slot j,.AY)]) (i+1) r).map fun p=>(.own true z es::p.1,(.slot j,.AY)::p.2)
   |_,some (.d y)=>if y.AW then(Si cfg k s (i+1) r).map fun p=>(.d y.can::p.1,p.2) else none
   |_,_=>none
  else none
def qa (d k:Nat):Nat→List V→Option (List (Loc×V))
 |_,[]=>some []
 |off,.d y::r=>if y.AW then(qa d k (off+1) r).map fun u=>(.cell ⟨d,k,off⟩,.d y)::u else none
 |off,.own _ z es::r=>(qa d k (off+1) r).map fun u=>(.cell ⟨d,k,off⟩,.own true z es)::u
 |_,_::_=>none
def dr (s:Get) (n:Nat) (a:V) (x:AE) (v:V):Option (List (Loc×V)):=
 match a with
 | .ref d k off=>
  if alive s d k off n then
   match x,v with
   | .t j,.own _ z es=>if n=1 then some [(.cell ⟨d,k,off⟩,.own true z es),(.slot j,.AY)] else none
   | .t j,.rcd ys=>if n=ys.length∧n≠0 then(qa d k off ys).map fun u=>(.slot j,.AY)::u else none
   | _,.bor l o m=>match s l with
    |some (.own false z es)=>if o=0∧m=es.length∧n=1 then
     (if Loc.cell ⟨d,k,off⟩=l then some [(l,.own true z es)] else some [(.cell ⟨d,k,off⟩,.own true z es),(l,.AY)]) else none
    |_=>none
   |_,.d y=>if y.cells.length=n∧y.storable then some (fg d k off (y.cells.map .d)) else none
   |_,v=>if n=1∧v.Ad then some [(.cell ⟨d,k,off⟩,v)] else none
  else none
 | .Az l i off=>match s l,v.asD with
  |some (.own false z es),some y=>if y.cells.length=n∧y.storable then
    (es[i]?).bind fun e=>(e.setAt off y.cells).map fun e'=>[(l,.own false z (es.set i e'))] else none
  |_,_=>none
 |_=>none
def IV (dst:Option Nat) (v:V):Option (List (Loc×V)):=
 match v with
 | .d (.ptr _)| .d (.fn _)| .d (.ifc _ _)| .Ax _ _| .ref _ _ _| .Az _ _ _| .clo _ _ _| .ifc _ _| .B4 _=>some (AO dst v)
 |_=>none
def E3 (cfg:Cfg) (s:Get) (len:Nat):Option AE→Option Nat
 |none=>some len
 | some m=>match(dat cfg s m).bind D.toInt? with
  |some n=>if 0≤n∧n≤len then some n.toNat else none
  |none=>none
def Ga (z:Nat):List D→Bool
 | []=>true
 |e::_=>e.cells.length==z
def ki (cfg:Cfg) (s:Get) (dst:Option Nat) (z:Nat) (x:AE) (v:V) (lo hi mx:Option AE):Option (List (Loc×V)):=
 match cont s v with
 |none=>none
 | some es=>
  match E3 cfg s es.length mx with
  |none=>none
  | some top=>match cm cfg s top lo hi with
   |none=>none
   | some (l,h)=>if mx.isSome&&hi.isNone then none else match x,v with
    |_,.d .AB=>some (AO dst (.d .AB))
    |_,.d (.sl es)=>if Ga z es then some (AO dst (.d (.sl ((es.take h).drop l)))) else none
    | .t k,.own false z' _=>if z'=z then some (AO dst (.bor (.slot k) l (h-l))) else none
    | .t k,.own true z' es=>if z'=z then some (AO dst (.own true z ((es.take h).drop l))++[(.slot k,.AY)]) else none
    | _,.bor loc off _=>match s loc with
     |some (.own false z' _)=>if z'=z then some (AO dst (.bor loc (off+l) (h-l))) else none
     |_=>none
    |_,_=>none
def C7 (s:Get) (dst:Option Nat) (z:Nat) (x:AE) (v:V) (n:Int):Option (List (Loc×V)):=
 if n<0 then none else
 match x,v with
 |_,.d (.sl es)=>(es[n.toNat]?).bind fun e=>if e.cells.length=z then some (AO dst (.Ax e 0)) else none
 | .t k,.own false z' es=>if n.toNat<es.length∧z'=z then some (AO dst (.Az (.slot k) n.toNat 0)) else none
 | _,.bor l off len=>match s l with
  |some (.own false z' _)=>if n.toNat<len∧z'=z then some (AO dst (.Az l (off+n.toNat) 0)) else none
  |_=>none
 |_,.vec ys=>(ys[n.toNat]?).bind fun y=>if z=1 then some (AO dst (.B4 y)) else none
 |_,_=>none
def g7 (s:Get) (dst:Option Nat) (z bytes:Nat) (x:AE) (v:V) (ys:List D):Option (List (Loc×V)):=
 if Dz z ys&&decide (bytes≤2048) then
  match x,v with
  | _,.d .AB=>match ys with
   | []=>some (AO dst (.d .AB))
   |_=>if ys.length≤d8 then some (AO dst (.own true z ys)) else none
  | _,.d (.sl es)=>match ys with
   | []=>some (AO dst (.d (.sl es)))
   |_=>none
  | .t k,.own _ z' es=>if z'=z∧es.length+ys.length≤d8 then some (AO dst (.own true z (es++ys))++[(.slot k,.AY)]) else none
  | _,.bor l off n=>match s l with
   |some (.own false z' es)=>if off=0∧n≤es.length∧z'=z∧n+ys.length≤d8 then
    some (AO dst (.own true z (es.take n++ys))++[(l,.AY)]) else none
   |_=>none
  |_,_=>none
 else none
def evCopy (s:Get) (dst:Option Nat) (z:Nat) (x:AE) (v:V) (ys:List D):Option (List (Loc×V)):=
 if Dz z ys then
  let go (l:Loc) (off n:Nat):Option (List (Loc×V)):=match s l with
   |some (.own false z' es)=>if z'=z∧off+n≤es.length then
    some ((l,.own false z (es.take off++ys.take n++es.drop (off+min n ys.length)))::AO dst (.d (.int .i64 (min n ys.length:Nat)))) else none
   |_=>none
  match x,v with
  | .t k,.own false _ es=>go (.slot k) 0 es.length
  |_,.bor l off n=>go l off n
  |_,_=>none
 else none
def evTass (dst:Option Nat) (t:TypeId) (zero:D) (ok:Bool) (v:V):Option (List (Loc×V)):=
 match v with
 | .d (.ifc u x)=>
  if u=t then some (AO dst (.d (if ok then .tup [x,.bool true] else x)))
  else if ok then some (AO dst (.d (.tup [zero,.bool false]))) else none
 | .d .Ep=>if ok then some (AO dst (.d (.tup [zero,.bool false]))) else none
 |_=>none
def ku (cfg:Cfg) (s:Get):Nat→List (Nat×AE)→Option (List V)
 |_,[]=>some []
 | i,(j,x)::r=>match val cfg s x with
  |some (.ref d k o)=>if j=i then(ku cfg s (i+1) r).map (.ref d k o:: ·) else none
  |_=>none
def IU (cfg:Cfg) (s:Get) (dst:Option Nat) (z n:Nat) (ps:List (Nat×AE)):Option (List (Loc×V)):=
 match ku cfg s 0 ps with
 |some (y::ys)=>if z=1∧n=(y::ys).length then some (AO dst (.vec (y::ys))) else none
 |_=>none
def At (cfg:Cfg) (dep:Nat) (s:Get) (dst:Option Nat):IOp→Option (List (Loc×V))
 | .mv x=>(val cfg s x).bind fun v=>FD dst x v
 | .asg x=>(val cfg s x).bind fun v=>Di s dst x v
 | .pick c a b=>match val cfg s c with
  | some (.d (.bool t))=>match val cfg s (if t then a else b) with
   |some (.d x)=>some (AO dst (.d x))
   |_=>none
  |_=>none
 | .alloc zs=>match dst with
  | some k=>if(s (.cell ⟨dep,k,0⟩)).isSome||zs.isEmpty then none
   else some ((.slot k,.ref dep k 0)::fg dep k 0 (zs.map .d))
  |none=>none
 | .box n x=>match dst,val cfg s x with
  |some k,some v=>HJ dep s k n v
  |_,_=>none
 | .build zs ps=>(fe cfg s ps).bind fun l=>(EK zs l).map fun cs=>AO dst (.d (.agg cs))
 | .lit own z n zd ps=>match IU cfg s dst z n ps with
  |some u=>some u
  | none=>(iu cfg s ps).bind fun l=>
   if zd.cells.length=z∧n≤1000∧zd.storable then
    (El z (List.replicate n zd) l).map fun es=>AO dst (if n=0 then .d .AB else if own then .own true z es else .d (.sl es)) else none
 | .load z a=>(val cfg s a).bind fun v=>j6 s dst z v
 | .store n a x=>match val cfg s a,val cfg s x with
  |some a,some v=>if dst.isSome then none else dr s n a x v
  |_,_=>none
 | .GU x=>(val cfg s x).bind fun v=>IV dst v
 | .bin op x y=>match val cfg s x,val cfg s y with
  |some (.d a),some (.d b)=>(D.bin op a b).map fun r=>AO dst (.d r)
  |_,_=>none
 | .eqn neg c x y=>match val cfg s x,val cfg s y with
  |some a,some b=>(V.eqn cfg c a b).map fun r=>AO dst (.d (.bool (if neg then !r else r)))
  |_,_=>none
 | .isNil neg x=>(val cfg s x).bind fun v=>(ux neg v).map fun r=>AO dst (.d r)
 | .un op x=>match val cfg s x with
  |some (.d a)=>(D.un op a).map fun r=>AO dst (.d r)
  |_=>none
 | .Aj k x=>match val cfg s x with
  |some (.d (.int _ n))=>some (AO dst (.d (.int k (k.wrap n))))
  |_=>none
 | .b2s x=>((val cfg s x).bind (cont s)).bind fun es=>(di es).map fun b=>AO dst (.d (.str b))
 | .s2b own x=>match val cfg s x with
  |some (.d (.str b))=>if b.length≤d8 then some (AO dst (if own then .own true 1 (b.map AM) else .d (.sl (b.map AM)))) else none
  |_=>none
 | .cvB own x=>match x,val cfg s x with
  | .t k,some (.own _ z es)=>some (AO dst (if own then .own true z es else .d (.sl es))++[(.slot k,.AY)])
  |_,_=>none
 | .mkF f a b=>match BK cfg s a,BK cfg s b with
  |some [],some []=>some (AO dst (.d (.fn f)))
  |some xs,some ys=>if xs.all V.Ad&&ys.all V.Ad then some (AO dst (.clo f xs ys)) else none
  |_,_=>none
 | .slice z x lo hi mx=>(val cfg s x).bind fun v=>ki cfg s dst z x v lo hi mx
 | .CK x lo hi=>match val cfg s x with
  |some (.d (.str b))=>(cm cfg s b.length lo hi).map fun(l,h)=>AO dst (.d (.str ((b.take h).drop l)))
  |_=>none
 | .AH off x=>match val cfg s x with
  |some (.ref d k o)=>some (AO dst (.ref d k (o+off)))
  |some (.Az l i o)=>some (AO dst (.Az l i (o+off)))
  |some (.Ax e o)=>some (AO dst (.Ax e (o+off)))
  |some (.d (.ptr e))=>some (AO dst (.Ax e off))
  |_=>none
 | .field off z x=>match val cfg s x with
  |some (.d (.agg cs))=>(ldD z (.agg cs) off).map fun r=>AO dst (.d r)
  |_=>none
 | .C6 z x i=>match val cfg s x,(dat cfg s i).bind D.toInt? with
  |some v,some n=>C7 s dst z x v n
  |_,_=>none
 | .GZ x i=>match val cfg s x,(dat cfg s i).bind D.toInt? with
  |some (.d (.str b)),some n=>if n<0 then none else(b[n.toNat]?).map fun c=>AO dst (.d (AM c))
  |_,_=>none
 | .G1 n z x i=>match val cfg s x,(dat cfg s i).bind D.toInt? with
  |some v,some j=>if 0≤j∧j<n then match v with
    | .ref d k o=>some (AO dst (.ref d k (o+j.toNat*z)))
    | .Az l i o=>some (AO dst (.Az l i (o+j.toNat*z)))
    | .Ax e o=>some (AO dst (.Ax e (o+j.toNat*z)))
    | .d (.ptr e)=>some (AO dst (.Ax e (j.toNat*z)))
    |_=>none else none
  |_,_=>none
 | .ext x i=>match val cfg s x with
  |some (.d (.tup ds))=>(ds[i]?).map fun r=>AO dst (.d r)
  |_=>none
 | .len true x=>match val cfg s x with
  |some (.d (.str b))=>some (AO dst (.d (.int .i64 b.length)))
  |_=>none
 | .len false x=>match val cfg s x with
  | some v=>match v with
   | .d .AB=>some (AO dst (.d (.int .i64 0)))
   | .d (.sl es)=>some (AO dst (.d (.int .i64 es.length)))
   | .own _ _ es=>some (AO dst (.d (.int .i64 es.length)))
   | .bor _ _ n=>some (AO dst (.d (.int .i64 n)))
   | .vec ys=>some (AO dst (.d (.int .i64 ys.length)))
   |_=>none
  |none=>none
 | .DT mx xs=>(Ef cfg s xs).bind fun l=>(minD mx l).map fun r=>AO dst (.d r)
 | .append z bytes x y=>match val cfg s x,(val cfg s y).bind (cont s) with
  |some v,some ys=>g7 s dst z bytes x v ys
  |_,_=>none
 |_=>none
def Dy (s:Get):V→Option (D×Bool)
 | .d x=>some (x.canon,false)
 | .Ax e 0=>some (.ptr e,false)
 | .own _ _ es=>some (.sl es,true)
 | .bor l off n=>match s l with
  |some (.own false _ es)=>some (.sl ((es.drop off).take n),true)
  |_=>none
 |_=>none
def BH (s:Get):List V→Option (List D×Bool)
 | []=>some ([],false)
 | v::r=>match Dy s v,BH s r with
  |some (x,a),some (xs,b)=>some (x::xs,a||b)
  |_,_=>none
mutual
def D.plain:D→Bool
 | .tup ds=>D.Co ds
 | .agg ds=>D.Co ds
 | .ifc _ d=>d.plain
 | .sl []=>true
 | .sl _| .ptr _=>false
 |_=>true
def D.Co:List D→Bool
 | []=>true
 |d::r=>d.plain&&D.Co r
end
def target (cfg:Cfg) (s:Get):IOp→Option (Bool×FuncId×List V)
 | .call own f args=>(BK cfg s args).map fun vs=>(own,f,vs)
 | .BO own x args=>match val cfg s x,BK cfg s args with
  |some (.d (.fn f)),some vs=>some (own,f,vs)
  |some (.clo f a b),some vs=>if a.all V.Ad&&b.all V.Ad then some (own,f,a++vs++b) else none
  |_,_=>none
 |_=>none
def B9 (cfg:Cfg):IOp→Option AE
 | .call _ f [x]=>if cfg.clip f then some x else none
 |_=>none
def Dv (dst:Option Nat) (x:AE) (v:V):Option (List (Loc×V)):=
 match v with
 | .d .AB| .d (.sl _)| .own _ _ _| .bor _ _ _=>FD dst x v
 |_=>none
def CC:List V→Option (List D)
 | []=>some []
 | .d x::r=>(CC r).map (x:: ·)
 |_=>none
def II (dst:Option Nat) (shared:Bool):V→Option (List (Loc×V))
 | .clo f [] b=>if shared||(CC b).isNone then none else some (AO dst (.clo f [] b))
 |_=>none
def BF (dst:Option Nat) (own shared:Bool):V→Option (List (Loc×V))
 |V.d r=>if shared&& !r.plain then none else some (AO dst (.d (if own then r else r.canon)))
 | .own _ z es=>if shared&& !D.Co es then none else some (AO dst (if own then .own true z es else .d (.sl es)))
 |_=>none
mutual
def V.BP (n:Nat):V→Bool
 | .d _| .own _ _ _| .AY| .Ax _ _=>true
 | .ref e _ _=>decide (e<n)
 | .ifc _ v=>v.BP n
 | .clo _ a b=>V.CI n a&&V.CI n b
 | .vec ys=>V.CI n ys
 | .B4 y=>y.BP n
 | .bor _ _ _| .Az _ _ _| .rcd _=>false
def V.CI (n:Nat):List V→Bool
 | []=>true
 |v::r=>v.BP n&&V.CI n r
end
def IOp.Dr:IOp→Bool
 | .store _ _ _=>true
 |_=>false
def BA:IOp→Bool
 | .call _ _ _| .BO _ _ _| .inv _ _ _ _=>true
 |_=>false
def Ar (dep:Nat):List (Cel×V)→List (Cel×V)
 | []=>[]
 | (c,v)::r=>if c.d≤dep then(c,v)::Ar dep r else Ar dep r
abbrev Orc:=FuncId→Nat→List V→List (Cel×V)→Option (V×List (Cel×V))
def A5 (s:Get):Option (Nat×Bool)→Option Bool
 |none=>some true
 | some (k,b)=>match s (.slot k) with
  |some (.d (.bool t))=>some (t==b)
  |some (.d (.tup []))=>some false
  |_=>none
def BZ (orc:Orc) (s:Get) (dst:Option Nat) (own:Bool) (f:FuncId) (vs:List V):Option (List (Loc×V)):=
 match BH s vs with
 | some (ds,shared)=>match orc f 0 (ds.map .d) [] with
  | some (r,_)=>match BF dst own shared r with
   |some u=>some u
   |none=>II dst shared r
  |none=>none
 |none=>none
def CB (s:Get) (x:AE) (v:V):Option (List (Loc×V)×V):=
 match x,v with
 |_,.d .AB=>some ([],.d .AB)
 |_,.d y=>some ([],.d y.canon)
 | .t k,.own _ z es=>some ([(.slot k,.AY)],.own false z es)
 | _,.bor l off n=>match s l with
  |some (.own false z es)=>if off=0∧n≤es.length then some ([(l,.AY)],.own false z (es.take n)) else none
  |_=>none
 |_,_=>none
def Cv (cfg:Cfg) (orc:Orc) (s:Get) (dst:Option Nat) (own:Bool) (f:FuncId) (args:List AE) (i:Nat):Option (List (Loc×V)):=
 (args[i]?).bind fun x=>(val cfg s x).bind fun v=>(CB s x v).bind fun g=>
  (BK cfg (AN s g.1) (args.set i (.c .AB))).bind fun vs=>(BH (AN s g.1) vs).bind fun q=>
   (orc f 0 ((q.1.map .d).set i g.2) []).bind fun r=>(BF dst own q.2 r.1).map fun u=>g.1++u
def BW (s:Get):List AE→List (Loc×V)
 | []=>[]
 | .t k::r=>match s (.slot k) with
  |some (.own _ _ es)=>(.slot k,.d (.sl es))::BW s r
  | some (.bor l _ _)=>match s l with
   |some (.own false _ es)=>(l,.d (.sl es))::BW s r
   |_=>BW s r
  |_=>BW s r
 | .c _::r=>BW s r
 | .g _::r=>BW s r
def CO (s:Get):List AE→List (Loc×V)
 | []=>[]
 | .t k::r=>match s (.slot k) with
  | some (.bor l off n)=>match s l with
   |some (.own false _ es)=>(.slot k,.d (.sl ((es.drop off).take n)))::CO s r
   |_=>CO s r
  |_=>CO s r
 | .c _::r=>CO s r
 | .g _::r=>CO s r
def giveUp (s:Get) (l:List AE):List (Loc×V):=BW s l++CO s l
def gives (cfg:Cfg) (s:Get):IOp→Bool
 | .lit _ _ _ _ _=>true
 | .build _ _=>true
 | .store _ a _=>match val cfg s a with
  |some (.Az _ _ _)=>true
  |_=>false
 |_=>false
def HN (op:IOp):List AE:=match op with
 | .lit _ _ _ _ ps=>ps.map fun p=>p.2
 | .build _ ps=>ps.map fun p=>p.2.2
 | .store _ a x=>[a,x]
 |_=>[]
def Ft (cfg:Cfg) (dep:Nat) (s:Get) (dst:Option Nat) (op:IOp):Option (List (Loc×V)):=
 if gives cfg s op then(At cfg dep (AN s (giveUp s (HN op))) dst op).map (giveUp s (HN op)++ ·) else At cfg dep s dst op
def Dh (cfg:Cfg) (orc:Orc) (dep:Nat) (s:Get) (dst:Option Nat):IOp→Option (List (Loc×V))
 | .A9 own f args i=>Cv cfg orc s dst own f args i
 |op=>Ft cfg dep s dst op
def CU (cfg:Cfg) (orc:Orc) (s:Get) (dst:Option Nat) (own:Bool) (f:FuncId) (args:List AE):Option (List (Loc×V)):=
 (BK cfg (AN s (giveUp s args)) args).bind fun vs=>(BZ orc (AN s (giveUp s args)) dst own f vs).map (giveUp s args++ ·)
def Ck (cfg:Cfg) (orc:Orc) (s:Get) (dst:Option Nat) (op:IOp) (vs:List V):Option (List (Loc×V)):=
 match op with
 | .call own f args=>match BH s vs with
  | some (ds,true)=>match orc f 0 (ds.map .d) [] with
   |some _=>CU cfg orc s dst own f args
   |none=>none
  |_=>none
 |_=>none
def IW (cfg:Cfg) (orc:Orc) (s:Get) (dst:Option Nat) (own:Bool) (f:FuncId) (args:List AE) (vs:List V):Option (List (Loc×V)):=
 match BZ orc s dst own f vs with
 |some u=>some u
 |none=>Ck cfg orc s dst (.call own f args) vs
def V.CY (dep:Nat) (v:V):V:=
 match v with
 | .bor (.slot _) _ _=>v
 | .Az (.slot _) _ _=>v
 |v=>if v.BP (dep+1) then v else .AY
def Ac (dep:Nat):List (Nat×V)→List (Nat×V)
 | []=>[]
 | (k,v)::r=>(k,v.CY dep)::Ac dep r
def Bz (orc:Orc) (dep:Nat) (s:St) (dst:Option Nat) (own:Bool) (f:FuncId) (vs:List V):Option St:=
 if(BH s.get vs).isNone&&vs.all V.Ad then
  match orc f (dep+1) vs s.mem with
  | some (r,m)=>
   if(Ar dep m).all (fun p=>p.2.BP (dep+1)) then
    match BF dst own false r with
    |some u=>some (St.upd ⟨Ac dep s.env,Ar dep m⟩ u)
    |none=>if r.BP (dep+1)&&r.Ad then some (St.upd ⟨Ac dep s.env,Ar dep m⟩ (AO dst r)) else none
   else none
  |none=>none
 else none
def Ag (cfg:Cfg) (orc:Orc) (dep:Nat) (s:Get) (o:AV):Option (List (Loc×V)):=
 match A5 s o.guard with
 |none=>none
 |some false=>some (AO o.dst (.d (.tup [])))
 | some true=>
  if o.dst.isNone&& !o.op.Dr then none else
  if BA o.op then
   match B9 cfg o.op with
   |some x=>(val cfg s x).bind fun v=>Dv o.dst x v
   | none=>match target cfg s o.op with
    | some (own,f,vs)=>match BZ orc s o.dst own f vs with
     |some u=>some u
     |none=>Ck cfg orc s o.dst o.op vs
    |none=>none
  else Dh cfg orc dep s o.dst o.op
def BL (cfg:Cfg) (orc:Orc) (dep:Nat) (s:St) (o:AV):Option St:=
 match A5 s.get o.guard with
 | some true=>
  if o.dst.isSome&&BA o.op&&(B9 cfg o.op).isNone then
   match target cfg s.get o.op with
   |some (own,f,vs)=>Bz orc dep s o.dst own f vs
   |none=>none
  else none
 |_=>none
def CQ (cfg:Cfg) (orc:Orc) (dep:Nat) (s:St) (o:AV):Option St:=
 match Ag cfg orc dep s.get o with
 |some u=>some (s.upd u)
 |none=>BL cfg orc dep s o
def CR (cfg:Cfg) (orc:Orc) (dep:Nat):List AV→St→Option St
 | [],s=>some s
 | o::r,s=>match CQ cfg orc dep s o with
  |some s'=>CR cfg orc dep r s'
  |none=>none
def V.home (dep:Nat):V→V
 | .own _ z es=> .own false z es
 |v=>if v.BP (dep+1) then v else .AY
def Be (dep:Nat):List Nat→List (Nat×V)→List (Nat×V)
 | [],_=>[]
 | k::r,e=>match lk e k with
  |some v=>(k,v.home dep)::Be dep r e
  |none=>Be dep r e
def BI (dep:Nat):List (Cel×V)→List (Cel×V)
 | []=>[]
 | (k,v)::r=>(k,v.home dep)::BI dep r
def settle (dep:Nat) (Ak:List Nat) (s:St):St:=⟨Be dep Ak s.env,BI dep s.mem⟩
inductive Ex where
 |normal|ret|exit (id:Nat)
def BR (k:Nat):List (Nat×V)→List (Nat×V)
 | []=>[]
 | (k',v)::r=>if k'=k then(match v with| .own _ _ es=>(k',.d (.sl es))|v=>(k',v))::r else(k',v)::BR k r
end Go.Ev
namespace Go.Ev
def IOp.operands:IOp→List AE
 | .isNil _ x=>[x]
 | .mv x| .asg x| .box _ x| .load _ x| .GU x| .un _ x| .Aj _ x| .dI x| .b2s x| .s2b _ x| .cvB _ x| .mkI _ x| .AH _ x| .field _ _ x
 | .ext x _| .len _ x| .tass _ _ _ x=>[x]
 | .pick c a b=>[c,a,b]
 | .alloc _| .bad=>[]
 | .build _ ps| .XU _ ps=>ps.map fun p=>p.2.2
 | .lit _ _ _ _ ps=>ps.map fun p=>p.2
 | .store _ a x=>[a,x]
 | .bin _ x y| .eqn _ _ x y| .append _ _ x y| .S4 x y| .copy _ x y=>[x,y]
 | .mkF _ a b=>a++b
 | .mkS _ _ _ l c=>[l,c]
 | .slice _ x lo hi mx=>[x]++lo.toList++hi.toList++mx.toList
 | .CK x lo hi=>[x]++lo.toList++hi.toList
 | .C6 _ x i| .GZ x i| .idxC _ _ _ x i| .G1 _ _ x i=>[x,i]
 | .DT _ xs=>xs
 | .call _ _ args=>args
 | .A9 _ _ args _=>args
 | .BO _ x args| .inv _ x _ args=>x::args
def IOp.span:IOp→Nat
 | .load z _=>z.getD 1
 | .store n _ _=>n
 |_=>0
def jj (d k off:Nat):Nat→List Loc
 |0=>[]
 |n+1=> .cell ⟨d,k,off⟩::jj d k (off+1) n
def ac (s:Get) (span:Nat):AE→List Loc
 | .t k=> .slot k::(match s (.slot k) with
  |some (.bor l _ _)=>[l]
  |some (.Az l _ _)=>[l]
  |some (.ref d j off)=>jj d j off span
  |_=>[])
 |_=>[]
def dl (dep:Nat) (s:Get) (o:AV):List Loc:=
 (match o.guard with|some (k,_)=>[.slot k]|none=>[])++
 (match o.op,o.dst with
  | .alloc _,some k| .box _ _,some k=>[.cell ⟨dep,k,0⟩]
  |_,_=>[])++o.op.operands.flatMap (ac s o.op.span)
def UD (a b:List Loc):Bool:=a.all fun l=> !b.contains l
mutual
def D.eqb:D→D→Bool
 | .bool a,y=>match y with| .bool b=>a==b|_=>false
 | .int k a,y=>match y with| .int k' b=>decide (k=k')&&a==b|_=>false
 | .str a,y=>match y with| .str b=>a==b|_=>false
 | .AB,y=>match y with| .AB=>true|_=>false
 | .Dp,y=>match y with| .Dp=>true|_=>false
 | .Ep,y=>match y with| .Ep=>true|_=>false
 | .EH,y=>match y with| .EH=>true|_=>false
 | .GV,y=>match y with| .GV=>true|_=>false
 | .sl a,y=>match y with| .sl b=>D.DI a b|_=>false
 | .agg a,y=>match y with| .agg b=>D.DI a b|_=>false
 | .tup a,y=>match y with| .tup b=>D.DI a b|_=>false
 | .ptr a,y=>match y with| .ptr b=>D.eqb a b|_=>false
 | .ifc t a,y=>match y with| .ifc u b=>t==u&&D.eqb a b|_=>false
 | .fn f,y=>match y with| .fn g=>f==g|_=>false
 | .unk,y=>match y with| .unk=>true|_=>false
 | .DY,y=>match y with| .DY=>true|_=>false
def D.DI:List D→List D→Bool
 | [],y=>match y with| []=>true|_=>false
 |a::r,y=>match y with|b::r'=>D.eqb a b&&D.DI r r'|_=>false
end
mutual
def V.eqb:V→V→Bool
 | .d a,y=>match y with| .d b=>D.eqb a b|_=>false
 | .own n z a,y=>match y with| .own n' z' b=>n==n'&&(z==z'&&D.DI a b)|_=>false
 | .Ax a o,y=>match y with| .Ax b o'=>D.eqb a b&&o==o'|_=>false
 | .ref e k o,y=>match y with| .ref e' k' o'=>e==e'&&(k==k'&&o==o')|_=>false
 | .clo f a b,y=>match y with| .clo g a' b'=>f==g&&(V.DI a a'&&V.DI b b')|_=>false
 | .ifc t a,y=>match y with| .ifc u b=>t==u&&V.eqb a b|_=>false
 | .AY,y=>match y with| .AY=>true|_=>false
 | .bor l a b,y=>match y with| .bor l' a' b'=>decide (l=l')&&(a==a'&&b==b')|_=>false
 | .Az l a b,y=>match y with| .Az l' a' b'=>decide (l=l')&&(a==a'&&b==b')|_=>false
 | .vec a,y=>match y with| .vec b=>V.DI a b|_=>false
 | .B4 a,y=>match y with| .B4 b=>V.eqb a b|_=>false
 | .rcd a,y=>match y with| .rcd b=>V.DI a b|_=>false
def V.DI:List V→List V→Bool
 | [],y=>match y with| []=>true|_=>false
 |a::r,y=>match y with|b::r'=>V.eqb a b&&V.DI r r'|_=>false
end
def V.calm (dep:Nat):V→Bool
 | .bor (.slot _) _ _=>true
 | .Az (.slot _) _ _=>true
 |v=>v.BP (dep+1)
def Dk (dep:Nat):List (Nat×V)→Bool
 | []=>true
 | (_,v)::r=>v.calm dep&&Dk dep r
def A2 (cs:Option (List Cel)):List (Cel×V)→List (Cel×V)→Option (List (Loc×V))
 | [],[]=>some []
 | (c,v)::r,(c',v')::r'=>if c=c' then
   match cs with
   |none=>(A2 cs r r').map fun u=>u++[(.cell c,v')]
   |some l=>if l.contains c then(A2 cs r r').map fun u=>u++[(.cell c,v')] else if v.eqb v' then(A2 cs r r').map fun u=>u.filter fun p=> !decide (p.1= .cell c) else none
  else none
 |_,_=>none
def CS (vs:List V):List (Nat×Nat)→List Cel
 | []=>[]
 | (i,o)::r=>match vs[i]? with
  |some (.ref d k off)=>⟨d,k,off+o⟩::CS vs r
  |_=>CS vs r
def EN (cfg:Cfg) (s:Get) (op:IOp):Option (List Cel):=
 match target cfg s op with
 |some (_,f,vs)=>(cfg.chg f).map (CS vs)
 |none=>none
def Bt (cfg:Cfg) (orc:Orc) (dep:Nat) (e0:List (Nat×V)) (pre:Bool) (s:St) (o:AV):Option (Bool×List (Loc×V)):=
 match Ag cfg orc dep s.get o with
 |some u=>some (false,u)
 |none=>if Dk dep e0&&pre then
   match BL cfg orc dep s o with
   | some s'=>match o.dst with
    | some k=>match A2 (EN cfg s.get o.op) s.mem s'.mem,lk s'.env k with
     |some ch,some v=>some (true,ch++[(.slot k,v)])
     |_,_=>none
    |none=>none
   |none=>none
  else none
abbrev Rec:=Bool×Bool×List Loc×List Loc
def BX (cfg:Cfg) (orc:Orc) (dep:Nat) (e0:List (Nat×V)):Bool→List AV→St→Option (List Rec×St)
 |_,[],s=>some ([],s)
 | pre,o::r,s=>match Bt cfg orc dep e0 pre s o with
  | some (b,u)=>match BX cfg orc dep e0 (pre&&u.all fun p=>p.2.calm dep) r (s.upd u) with
   |some (l,s')=>some ((b,u.all (fun p=>p.2.calm dep),dl dep s.get o,u.map (·.1))::l,s')
   |none=>none
  |none=>none
def noCell:List Loc→Bool
 | []=>true
 | .slot _::r=>noCell r
 | .cell _::_=>false
def Dl (b c:Bool) (w:List Loc):Bool:= !b||(c&&noCell w)
def DL (l:List Rec):List (Nat×Nat)→Bool
 | []=>true
 | (i,j)::r=>match l[i]?,l[j]? with
  |some (bi,ci,ri,wi),some (bj,cj,rj,wj)=>UD wi (rj++wj)&&UD wj ri&&Dl bi cj wj&&Dl bj ci wi&&DL l r
  |_,_=>false
def A8 (cfg:Cfg) (orc:Orc) (dep:Nat) (ops:List AV) (un:List (Nat×Nat)) (s:St):Option St:=
 match un with
 | []=>CR cfg orc dep ops s
 | un=>match BX cfg orc dep s.env true ops s with
  |some (l,s')=>if DL l un then some s' else none
  |none=>none
def Bf (f:St→Option (Ex×St)):Nat→St→Option (Ex×St)
 |0,_=>none
 | n+1,s=>match f s with
  |some (.normal,s')=>Bf f n s'
  |r=>r
mutual
def V.apart (d k:Nat):V→Bool
 | .ref d' k' _=> !(decide (d'=d)&&decide (k'=k))
 | .ifc _ v=>v.apart d k
 | .clo _ a b=>V.DV d k a&&V.DV d k b
 | .vec ys=>V.DV d k ys
 | .B4 y=>y.apart d k
 | .rcd ys=>V.DV d k ys
 |_=>true
def V.DV (d k:Nat):List V→Bool
 | []=>true
 |v::r=>v.apart d k&&V.DV d k r
end
def V.free (d k:Nat):V→V
 | .ref d' k' off=>if d'=d∧k'=k then .AY else .ref d' k' off
 | .ifc t v=>if v.apart d k then .ifc t v else .AY
 | .clo f a b=>if V.DV d k a&&V.DV d k b then .clo f a b else .AY
 | .vec ys=>if V.DV d k ys then .vec ys else .AY
 | .B4 y=>if y.apart d k then .B4 y else .AY
 | .rcd _=> .AY
 |v=>v
def DQ (d k:Nat):List (Nat×V)→List (Nat×V)
 | []=>[]
 | (j,v)::r=>(j,v.free d k)::DQ d k r
def Bq (d k:Nat):List (Cel×V)→List (Cel×V)
 | []=>[]
 | (c,v)::r=>if c.d=d∧c.k=k then Bq d k r else(c,v.free d k)::Bq d k r
def D.same:D→D→Bool
 | .AB,.AB=>true
 | .sl [],.sl []=>true
 | .DY,.DY=>true
 | .bool a,.bool b=>a==b
 | .int k a,.int k' b=>decide (k=k')&&a==b
 | .str a,.str b=>a==b
 |_,_=>false
def Cz:List (Nat×V)→List (Nat×V)→Bool
 | [],[]=>true
 | (k,.d a)::r,(k',.d b)::r'=>k==k'&&a.same b&&Cz r r'
 |_,_=>false
def SI:Ex→Ex→Bool
 | .normal,.normal=>true
 | .ret,.ret=>true
 | .exit a,.exit b=>a==b
 |_,_=>false
def DC (a b:Option (Ex×St)):Option (Ex×St):=
 match a,b with
 |some (e,s),some (e',s')=>if SI e e'&&Cz s.env s'.env&&s.mem.isEmpty&&s'.mem.isEmpty then some (e,s) else none
 |_,_=>none
def V.GL:V→V
 | .own _ _ _| .bor _ _ _| .Az _ _ _| .rcd _=> .AY
 |v=>v
def Bv:List (Nat×V)→List (Nat×V)
 | []=>[]
 | (k,v)::r=>(k,v.GL)::Bv r
def D6:List Nat→List D→List (Nat×V)→Option (List (Nat×V))
 | [],[],e=>some e
 |p::ps,d::ds,e=>D6 ps ds (st e p (.d d))
 |_,_,_=>none
def V.D7 (n:Nat):V→V
 | .own _ z es=> .own false z es
 |v=>if v.BP n then v else .AY
def Ap (dep:Nat):List (Cel×V)→List (Cel×V)
 | []=>[]
 | (c,v)::r=>if c.d<dep then(c,v.D7 dep)::Ap dep r else Ap dep r
def Bg (f:List D→List (Cel×V)→Option (Ex×List (Cel×V))):List (List D)→List (Cel×V)→Option (Ex×List (Cel×V))
 | [],m=>some (.normal,m)
 | x::r,m=>match f x m with
  |some (.normal,m')=>Bg f r m'
  |y=>y
def BU (ca cb:St→Option (Ex×St)) (dep:Nat) (ps:List Nat) (e:List (Nat×V)) (x:List D) (m:List (Cel×V)):Option (Ex×List (Cel×V)):=
 match D6 ps x (Bv e) with
 | some e1=>match ca ⟨e1,m⟩ with
  | some (.normal,s1)=>match cb s1 with
   |some (r,s2)=>some (r,Ap (dep+1) s2.mem)
   |none=>none
  |_=>none
 |none=>none
def Cy (cfg:Cfg):V→Option (List (List D))
 | .clo f [] caps=>match cfg.iter f,CC caps with
  |some g,some ds=>g ds
  |_,_=>none
 |_=>none
def givenB (s:Get) (k:Nat):List (Loc×V):=
 match s (.slot k) with
 | some (.ref d j off)=>match s (.cell ⟨d,j,off⟩) with
  |some (.own _ _ es)=>[(.cell ⟨d,j,off⟩,.d (.sl es))]
  |_=>[]
 |_=>[]
def AJ (cfg:Cfg) (orc:Orc) (dep n:Nat):AD→St→Option (Ex×St)
 | .skip,s=>some (.normal,s)
 | .region ops un Ak,s=>match A8 cfg orc dep ops un s with
  |some s'=>some (.normal,settle dep Ak s')
  |none=>none
 | .seq a b,s=>match AJ cfg orc dep n a s with
  |some (.normal,s')=>AJ cfg orc dep n b s'
  |r=>r
 | .cond x a b,s=>match val cfg s.get x with
  |some (.d (.bool t))=>if t then AJ cfg orc dep n a s else AJ cfg orc dep n b s
  |some (.d .DY)=>DC (AJ cfg orc dep n a s) (AJ cfg orc dep n b s)
  |_=>none
 | .block id b,s=>match AJ cfg orc dep n b s with
  |some (.exit id',s')=>if id'=id then some (.normal,s') else some (.exit id',s')
  |r=>r
 | .loop b,s=>Bf (AJ cfg orc dep n b) n s
 | .each x ps a b,s=>match(val cfg s.get x).bind (Cy cfg) with
  | some l=>match Bg (BU (AJ cfg orc (dep+1) n a) (AJ cfg orc (dep+1) n b) dep ps (Ac dep s.env)) l s.mem with
   |some (e,m)=>some (e,⟨Ac dep s.env,m⟩)
   |none=>none
  |none=>none
 | .exit id,s=>some (.exit id,s)
 | .bad,_=>none
 | .ret,s=>some (.ret,s)
 | .Bw ls,s=>some (.normal,{s with env:=ls.foldl (fun e k=>BR k e) s.env})
 | .AX _,_=>none
 | .free k,s=>some (.normal,⟨DQ dep k s.env,Bq dep k s.mem⟩)
def entry (i:Nat):List V→List (Nat×V)
 | []=>[]
 |v::r=>(i,v)::entry (i+1) r
def Cd:V→Option D
 | .d x=>some x.canon
 | .own _ _ es=>some (.sl es)
 | .Ax e 0=>some (.ptr e)
 |_=>none
def CP (s:Get) (d k off:Nat):Nat→Option (List D)
 |0=>some []
 | n+1=>match(s (.cell ⟨d,k,off⟩)).bind Cd,CP s d k (off+1) n with
  |some x,some r=>if x.AW then some (x::r) else none
  |_,_=>none
def FQ (dep:Nat) (s:Get):Dm→Option V
 | .t k=>match s (.slot k) with
  |some (.own _ z es)=>some (.own false z es)
  |some v=>if v.Ad then some v else none
  |none=>none
 | .cell k z=>match s (.slot k) with
  | some (.ref d j off)=>if dep≤d then match z with
   | none=>match s (.cell ⟨d,j,off⟩) with
    |some (.own _ z es)=>some (.own false z es)
    |some v=>if v.Ad then some v else none
    |none=>none
   |some n=>(CP s d j off n).map fun cs=> .d (.agg cs)
   else none
  |_=>none
def GN (dep:Nat) (s:Get):List Dm→Option (List D)
 | []=>some []
 | r::rs=>match(FQ dep s r).bind Cd,GN dep s rs with
  |some d,some ds=>some (d::ds)
  |_,_=>none
def Ca (dep:Nat) (s:Get):List Dm→Option V
 | [r]=>FQ dep s r
 |rs=>(GN dep s rs).map fun ds=> .d (.tup ds)
def Cp (dep:Nat) (v:V) (m:List (Cel×V)):Option (V×List (Cel×V)):=
 if v.BP dep then some (v,Ap dep m) else none
def V.isD:V→Bool
 | .d _=>true
 |_=>false
def GR:List V→Bool
 | .own false _ _::r=>r.all V.isD
 | .d _::r=>GR r
 |_=>false
def Ew (vs:List V) (m:List (Cel×V)):Bool:=vs.all V.Ad||(m.isEmpty&&GR vs)
def C8 (cfg:Cfg) (orc:Orc) (n:Nat) (fn:AP) (dep:Nat) (vs:List V) (m:List (Cel×V)):Option (V×List (Cel×V)):=
 if vs.length=fn.arity∧Ew vs m then
  match AJ cfg orc dep n fn.body ⟨entry 0 vs,m⟩ with
  |some (.normal,s)|some (.ret,s)=>(Ca dep s.get fn.results).bind fun v=>Cp dep v s.mem
  |_=>none
 else none
def Bn (cfg:Cfg):Nat→Orc
 |0=>fun _ _ _ _=>none
 | n+1=>fun f dep vs m=>match cfg.ext f with
  |some g=>((CC vs).bind g).map fun v=>(v,m)
  | none=>match cfg.funcs f with
   |some fn=>C8 cfg (Bn cfg n) n fn dep vs m
   |none=>none
end Go.Ev
namespace Go.Ev
structure AG where
 own:List Nat
 Ak:List (Nat×List Nat)
 Bw:List (Nat×List Nat)
 free:List (Nat×List Nat)
 AX:List (Nat×Nat):=[]
 cool:List (Nat×List Nat):=[]
def GF:Value→Option D
 | .bool b=>some (.bool b)
 | .int k n=>some (.int k n)
 | .string s=>some (.str s.data.toList)
 | .slice none 0 0=>some .AB
 | .pointer none=>some .Dp
 | .map none=>some .GV
 | .nilFunc=>some .EH
 | .nilIface=>some .Ep
 |_=>none
def Hp:List Value→Option (List D)
 | []=>some []
 | v::r=>match GF v,Hp r with
  |some d,some ds=>some (d::ds)
  |_,_=>none
def Hq:Value→Option D
 | .agg cs=>(Hp cs.toList).map .agg
 |v=>GF v
def An:Operand→Option AE
 | .tmp t=>some (.t t)
 | .const v=>(Hq v).map .c
 | .global g=>some (.g g)
 | .func f=>some (.c (.fn f))
def BJ:List Operand→Option (List AE)
 | []=>some []
 | x::r=>match An x,BJ r with
  |some a,some b=>some (a::b)
  |_,_=>none
def CV:Option Operand→Option (Option AE)
 |none=>some none
 |some x=>(An x).map some
def gp:List (Nat×Operand)→Option (List (Nat×AE))
 | []=>some []
 | (i,x)::r=>match An x,gp r with
  |some a,some b=>some ((i,a)::b)
  |_,_=>none
def Bd (P:Program) (t:TypeId):Option Nat:=(P.info? t).map (·.size)
def FO (P:Program) (t:TypeId):Option (Option Nat):=
 match P.underlying t,Bd P t with
 |some (.struct _),some n=>some (some n)
 |some (.array _ _),some n=>some (some n)
 |some _,some n=>if n=1 then some none else none
 |_,_=>none
def dX (v:Value):Option D:=(Hq v).map D.canon
def Ho (P:Program) (t:TypeId):Option D:=((P.info? t).bind (·.zero)).bind dX
def Cs (P:Program) (t:TypeId):Option D:=((P.info? t).bind (·.zero)).bind Hq
def t7 (P:Program):List Field→Option (List (Nat×Nat))
 | []=>some []
 | f::r=>match Bd P f.type,t7 P r with
  |some n,some l=>some ((f.offset,n)::l)
  |_,_=>none
def vh (pl:List (Nat×Nat)):List (Nat×Operand)→Option (List (Nat×Nat×AE))
 | []=>some []
 | (i,x)::r=>match pl[i]?,An x,vh pl r with
  |some (o,n),some a,some b=>some ((o,n,a)::b)
  |_,_,_=>none
def fb (P:Program) (b:Builtin) (args:List AE) (ts:List TypeId):Option IOp:=
 match b,args,ts with
 | .len,[x],[t]=>match P.underlying t with
  |some .string=>some (.len true x)
  |some (.slice _)=>some (.len false x)
  |_=>none
 | .min,xs,_=>some (.DT false xs)
 | .max,xs,_=>some (.DT true xs)
 | .append,[x,y],[t,u]=>match P.underlying t,P.underlying u with
  | some (.slice e),some (.slice e')=>match P.info? e,Cs P e with
   |some i,some zd=>if e=e'∧i.size≠0∧i.bytes≠0∧zd.cells.length=i.size then some (.append i.size i.bytes x y) else none
   |_,_=>none
  |_,_=>none
 |_,_,_=>none
def sa:TypeDesc→Option Sc
 | .bool=>some .bool
 | .pointer _=>some .ptr
 | .func _ _ _=>some .func
 | .interface _=>some .iface
 |_=>none
def Su (P:Program) (f:Field):Option Nat:=
 match P.underlying f.type with
 |some (.int _)=>some 0
 |some .bool=>some 1
 |some .string=>some 2
 |_=>none
def be3 (P:Program) (i:Nat):List Field→Option (List Nat)
 | []=>some []
 | f::r=>match Su P f,be3 P (i+1) r with
  |some k,some ks=>if f.name≠"_"∧ f.offset=i∧FO P f.type=some none then some (k::ks) else none
  |_,_=>none
def be4 (P:Program) (t:TypeId) (fs:Array Field):Option (List Nat):=if P.stoodInHeld t∨P.eqGuardType P.depth t then none else be3 P 0 fs.toList
def cOp (P:Program) (own:Bool):Op→Option IOp
 | .move x=>(An x).map .mv
 | .assign x=>(An x).map .asg
 | .pick c a b=>match An c,An a,An b with
  |some c,some a,some b=>some (.pick c a b)
  |_,_,_=>none
 | .alloc t=>match Cs P t,Bd P t with
  |some z,some n=>if z.cells.length=n∧n≠0 then some (.alloc z.cells) else none
  |_,_=>none
 | .box t x=>match An x,Bd P t with
  |some x,some n=>if n≠0 then some (.box n x) else none
  |_,_=>none
 | .build t ps=>match P.underlying t,Cs P t with
  | some (.struct fs),some (.agg zs)=>match t7 P fs.toList with
   |some pl=>(vh pl ps.toList).map (.build zs)
   |none=>none
  | some (.array _ e),some (.agg zs)=>match Bd P e with
   |some z=>(gp ps.toList).map fun l=> .build zs (l.map fun p=>(p.1*z,z,p.2))
   |none=>none
  |_,_=>none
 | .buildSlice t n ps=>match P.underlying t with
  | some (.slice e)=>match Bd P e,Ho P e,gp ps.toList with
   |some z,some zd,some l=>if z≠0∧z≤1000∧n≤1000 then some (.lit own z n zd l) else none
   |_,_,_=>none
  |_=>none
 | .load t a=>match FO P t,An a with
  |some z,some a=>some (.load z a)
  |_,_=>none
 | .store t a x=>match Bd P t,An a,An x with
  |some n,some a,some x=>some (.store n a x)
  |_,_,_=>none
 | .nilCheck x=>(An x).map .GU
 | .binOp op t x y _=>match An x,An y,P.underlying t with
  |some x,some y,some (.int _)=>some (.bin op x y)
  |some x,some y,some .string=>some (.bin op x y)
  | some x,some (.c .AB),some (.slice _)=>match op with
   | .eql=>some (.isNil false x)
   | .neq=>some (.isNil true x)
   |_=>none
  | some x,some y,some (.struct fs)=>match be4 P t fs,op with
   |some ks,.eql=>some (.eqn false (.agg ks) x y)
   |some ks,.neq=>some (.eqn true (.agg ks) x y)
   |_,_=>none
  | some x,some y,some d=>match sa d,op with
   |some c,.eql=>some (.eqn false c x y)
   |some c,.neq=>some (.eqn true c x y)
   |_,_=>none
  |_,_,_=>none
 | .unOp op _ x=>(An x).map (.un op)
 | .convert s d x=>match P.underlying s,P.underlying d,An x with
  |some (.int _),some (.int k),some x=>some (.Aj k x)
  | some (.slice e),some .string,some x=>match P.underlying e with
   |some (.int .u8)=>some (.b2s x)
   |_=>none
  | some .string,some (.slice e),some x=>match P.underlying e,Bd P e with
   |some (.int .u8),some 1=>some (.s2b own x)
   |_,_=>none
  | some (.slice _),some (.slice e),some x=>match P.underlying e with
   |some (.int .u8)=>if s=d∧Bd P e=some 1 then some (.cvB own x) else none
   |_=>none
  |_,_,_=>none
 | .makeFunc (.func f) a b=>match BJ a.toList,BJ b.toList with
  |some a,some b=>some (.mkF f a b)
  |_,_=>none
 | .slice t x lo hi mx=>match P.underlying t,An x,CV lo,CV hi,CV mx with
  | some (.slice e),some x,some lo,some hi,some mx=>match Bd P e with
   |some z=>if z≠0 then some (.slice z x lo hi mx) else none
   |none=>none
  |some .string,some x,some lo,some hi,some none=>some (.CK x lo hi)
  |_,_,_,_,_=>none
 | .fieldAddr t x f=>match P.underlying t,An x with
  | some (.struct fs),some x=>match fs[f]? with
   | some fd=>match Bd P fd.type with
    |some n=>if n≠0 then some (.AH fd.offset x) else none
    |none=>none
   |none=>none
  |_,_=>none
 | .field t x f=>match P.underlying t,An x with
  | some (.struct fs),some x=>match fs[f]? with
   |some fd=>(FO P fd.type).map fun z=> .field fd.offset z x
   |none=>none
  |_,_=>none
 | .indexAddr t x i=>match P.underlying t,An x,An i with
  | some (.slice e),some x,some i=>match Bd P e with
   |some z=>if z≠0 then some (.C6 z x i) else none
   |none=>none
  | some (.array n e),some x,some i=>match Bd P e with
   |some z=>if z≠0 then some (.G1 n z x i) else none
   |none=>none
  |_,_,_=>none
 | .index t x i=>match P.underlying t,An x,An i with
  |some .string,some x,some i=>some (.GZ x i)
  |_,_,_=>none
 | .extract x i=>(An x).map fun x=> .ext x i
 | .call c=>match BJ c.args.toList with
  | some args=>match c.callee with
   | .value (.func f)=>some (.call own f args)
   | .value x=>(An x).map fun x=> .BO own x args
   | .invoke _ _=>none
   | .builtin b=>fb P b args c.argTypes.toList
  |none=>none
 |_=>none
def cQ (nt:Nat):Option Nat→Bool
 |some k=>decide (k<nt)
 |none=>true
def gOp (g:Option Nat) (io:IOp):IOp:=
 match g,io with
 |some i,.call own f args=> .A9 own f args i
 |_,io=>io
def dO (P:Program) (ad:AG) (nt:Nat) (dsts:List (Option Nat)) (o:Oper):Option AV:=
 let io:=gOp (o.dst.bind (lk ad.AX)) ((cOp P ((o.dst.map ad.own.contains).getD false) o.op).getD .bad)
 if cQ nt o.dst then match o.guard with
  |none=>some ⟨o.dst,none,io⟩
  | some (j,b)=>match dsts[j]? with
   |some (some k)=>some ⟨o.dst,some (k,b),io⟩
   |_=>none
  else none
def vk (P:Program) (ad:AG) (nt:Nat) (dsts:List (Option Nat)):List Oper→Option (List AV)
 | []=>some []
 | o::r=>match dO P ad nt dsts o,vk P ad nt dsts r with
  |some a,some b=>some (a::b)
  |_,_=>none
def uadd (x:Nat) (u:List Nat):List Nat:=if u.contains x then u else x::u
def uniq:List Nat→List Nat
 | []=>[]
 |x::r=>uadd x (uniq r)
def bv:List (List Nat)→List (List Nat)→List (List Nat)
 |acc,[]=>acc
 |acc,es::r=>bv (acc++[uniq (es.foldl (fun a e=>e::((acc[e]?).getD []++a)) [])]) r
def bb (o:Oper):List Nat:=(o.after.toList.filter (Region.binds .any)).map (·.on)
def bx (bs:List (List Nat)):List (Nat×Nat):=
 (List.range bs.length).flatMap fun j=>((List.range j).filter fun i=> !((bs[j]?).getD []).contains i).map fun i=>(i,j)
def En:Nat→List (List Nat)→Bool
 |_,[]=>true
 |i,es::r=>es.all (fun e=>decide (e<i))&&En (i+1) r
def look (l:List (Nat×List Nat)) (k:Nat):List Nat:=(lk l k).getD []
def jr:Code→Bool
 | .region _ ops _=>ops.toList.all fun o=>match o.op with
  | .defer _=>false
  |_=>true
 | .seq a b| .cond _ a b=>jr a&&jr b
 | .block _ b| .loop b=>jr b
 | .skip| .exit _| .ret=>true
 |_=>false
def Bl (P:Program) (ad:AG) (nt:Nat):Code→Option AD
 | .skip=>some .skip
 | .region id ops draw=>match vk P ad nt (ops.toList.map (·.dst)) ops.toList with
  | some l=>
   if draw&& !En 0 (ops.toList.map bb) then some .bad else
   let un:=if draw then bx (bv [] (ops.toList.map bb)) else[]
   let r:=AD.region l un (look ad.Ak id)
   let r:=if(look ad.Bw id).isEmpty then r else .seq (.Bw (look ad.Bw id)) r
   some ((look ad.free id).foldl (fun c k=> .seq (.free k) c) r)
  |none=>none
 | .seq a b=>match Bl P ad nt a,Bl P ad nt b with
  |some a,some b=>some (.seq a b)
  |_,_=>none
 | .cond x a b=>match An x,Bl P ad nt a,Bl P ad nt b with
  |some x,some a,some b=>some (.cond x a b)
  |_,_,_=>none
 | .block id b=>(Bl P ad nt b).map (.block id)
 | .loop b=>(Bl P ad nt b).map .loop
 | .rangeFunc g ps a b=>if jr a&&jr b&&ps.toList.all (fun p=>decide (p<nt)) then match An g,Bl P ad nt a,Bl P ad nt b with
   |some x,some a,some b=>some (.each x ps.toList a b)
   |_,_,_=>none
  else some .bad
 | .exit id=>some (.exit id)
 | .ret=>some .ret
 |_=>some .bad
def zq:Code→Bool
 | .ret=>true
 | .seq _ b=>zq b
 |_=>false
def SS (P:Program) (ad:AG) (nt:Nat):Code→Option AD
 | .seq (.seq a (.cond x p .skip)) b=>
  if zq p then match Bl P ad nt a,An x,Bl P ad nt p,SS P ad nt b with
   |some a,some x,some p,some b=>some (.seq a (.cond x p b))
   |_,_,_,_=>none
  else match Bl P ad nt (.seq a (.cond x p .skip)),SS P ad nt b with
   |some a,some b=>some (.seq a b)
   |_,_=>none
 | .seq a b=>match Bl P ad nt a,SS P ad nt b with
  |some a,some b=>some (.seq a b)
  |_,_=>none
 |c=>Bl P ad nt c
def Ic (P:Program):List ResultVar→Option (List Dm)
 | []=>some []
 | .tmp t::r=>(Ic P r).map (.t t:: ·)
 | .cell a t::r=>match FO P t,Ic P r with
  |some z,some l=>some (.cell a z::l)
  |_,_=>none
def AQ (P:Program) (ad:AG) (fn:Func):Option AP:=
 match fn.body with
 | some c=>match SS P ad fn.ntmps c,Ic P fn.results.toList with
  |some b,some rs=>if fn.params.size+fn.nfree≤fn.ntmps then some ⟨fn.params.size+fn.nfree,rs,b⟩ else none
  |_,_=>none
 |none=>none
end Go.Ev
namespace Go.Ev
open Go
inductive Own where
 |outer
 |box (d k:Nat)
 |at(l:Loc)
 |res
 deriving DecidableEq
structure Cx where
 ow:Nat→Option Own
 ad:Nat→Nat→Nat
 base:Nat:=0
abbrev ad3 (b o:Nat):Addr:=⟨b,o,none⟩
inductive Rd (F:Nat→Prop) (w:World):Value→D→Prop
 |bool (b:Bool):Rd F w (.bool b) (.bool b)
 |int (k:IntKind) (n:Int):Rd F w (.int k n) (.int k n)
 |str (s:List UInt8):Rd F w (.string ⟨s.toArray⟩) (.str s)
 |AB (ad:Option Addr):Rd F w (.slice ad 0 0) .AB
 |DY (b:Bool):Rd F w (.bool b) .DY
 |Dp:Rd F w (.pointer none) .Dp
 |Ep:Rd F w .nilIface .Ep
 |EH:Rd F w .nilFunc .EH
 |GV:Rd F w (.map none) .GV
 |fn (f:FuncId):Rd F w (.func (.func f) #[] #[]) (.fn f)
 |unk (v:Value) (h:v.oneCell'=true):Rd F w v .unk
 |ifc (t:TypeId) (v:Value) (d:D) (h:Rd F w v d):Rd F w (.iface t v) (.ifc t d)
 |agg (vs:List Value) (cs:List D) (hl:vs.length=cs.length) (hc:∀ c∈cs,c.AW=true)
  (h:∀ (i:Nat) v c,vs[i]? =some v→cs[i]? =some c→Rd F w v c):Rd F w (.agg vs.toArray) (.agg cs)
 |tup (vs:List Value) (cs:List D) (hl:vs.length=cs.length)
  (h:∀ (i:Nat) v c,vs[i]? =some v→cs[i]? =some c→Rd F w v c):Rd F w (.tuple vs.toArray) (.tup cs)
 |ptr (b o:Nat) (e:D) (vs:Nat→Value) (hc:∀ c∈e.cells,c.AW=true)
  (hm:∀ (j:Nat) c,e.cells[j]? =some c→F b∧w.cell? (ad3 b (o+j))=some (vs j))
  (h:∀ (j:Nat) c,e.cells[j]? =some c→Rd F w (vs j) c):Rd F w (.pointer (some (ad3 b o))) (.ptr e)
 |slA (ad:Option Addr) (cap:Nat):Rd F w (.slice ad 0 cap) (.sl [])
 |sl (b o len cap z:Nat) (es:List D) (vs:Nat→Nat→Value) (hlen:es.length=len) (hcap:len≤cap)
  (hz:∀ e∈es,e.cells.length=z) (hc:∀ e∈es,∀ c∈e.cells,c.AW=true)
  (hm:∀ (i:Nat) e,es[i]? =some e→∀ (j:Nat) c,e.cells[j]? =some c→F b∧w.cell? (ad3 b (o+i*z+j))=some (vs i j))
  (h:∀ (i:Nat) e,es[i]? =some e→∀ (j:Nat) c,e.cells[j]? =some c→Rd F w (vs i j) c):Rd F w (.slice (some (ad3 b o)) len cap) (.sl es)
def Cw (F:Nat→Prop) (w:World) (b o:Nat) (e:D):Prop:=
 (∀ c∈e.cells,c.AW=true)∧∀ (j:Nat) c,e.cells[j]? =some c→∃ v,F b∧w.cell? (ad3 b (o+j))=some v∧Rd F w v c
theorem Rd.mono {F F':Nat→Prop} {w w':World} {v:Value} {d:D} (h:Rd F w v d)
  (hc:∀ b o u,F b→w.cell? (ad3 b o)=some u→F' b∧w'.cell? (ad3 b o)=some u):Rd F' w' v d:=by
 induction h with
 |bool b=>exact .bool b
 |int k n=>exact .int k n
 |str s=>exact .str s
 |AB ad=>exact .AB ad
 |DY b=>exact .DY b
 |slA ad cap=>exact .slA ad cap
 |Dp=>exact .Dp
 |Ep=>exact .Ep
 |EH=>exact .EH
 |GV=>exact .GV
 |fn f=>exact .fn f
 |unk v h=>exact .unk v h
 |ifc t v d _ ih=>exact .ifc t v d ih
 |agg vs cs hl hcc _ ih=>exact .agg vs cs hl hcc ih
 |tup vs cs hl _ ih=>exact .tup vs cs hl ih
 |ptr b o e vs hcc hm _ ih=>exact .ptr b o e vs hcc (fun j c hj=>hc b _ _ (hm j c hj).1 (hm j c hj).2) ih
 | sl b o len cap z es vs hlen hcap hz hcc hm _ ih=>
  exact .sl b o len cap z es vs hlen hcap hz hcc (fun i e he j c hj=>hc b _ _ (hm i e he j c hj).1 (hm i e he j c hj).2) ih
theorem Cw.mono {F F':Nat→Prop} {w w':World} {b o:Nat} {e:D} (h:Cw F w b o e)
  (hc:∀ b o u,F b→w.cell? (ad3 b o)=some u→F' b∧w'.cell? (ad3 b o)=some u):Cw F' w' b o e:=
 ⟨h.1,fun j c hj=>let⟨v,h0,h1,h2⟩:=h.2 j c hj;⟨v,(hc b _ _ h0 h1).1,(hc b _ _ h0 h1).2,h2.mono hc⟩⟩
structure Arr (F:Nat→Prop) (w:World) (b o cap z:Nat) (es:List D):Prop where
 pos:z≠0
 room:∀ j,j<cap*z→(∃ u,w.cell? (ad3 b (o+j))=some u)∧w.frozen? (ad3 b (o+j))=false
 wid:∀ e∈es,e.cells.length=z
 cel:∀ e∈es,∀ c∈e.cells,c.AW=true
 els:∀ (i:Nat) e,es[i]? =some e→∀ (j:Nat) c,e.cells[j]? =some c→∃ v,w.cell? (ad3 b (o+i*z+j))=some v∧Rd F w v c
def AK (x:Cx) (b:Nat):Prop:=x.ow b=none
def Aa (x:Cx) (a:Act) (w:World):Loc→Option Value
 | .slot k=>some (a.tmps.getD k undef)
 | .cell c=>w.cell? (ad3 (x.ad c.d c.k) c.off)
inductive RdV (x:Cx) (s:Get) (cv:Loc→Option Value) (w:World):Option Loc→Value→V→Prop
 |d (l:Option Loc) (v:Value) (y:D) (h:Rd (AK x) w v y):RdV x s cv w l v (.d y)
 |own (l:Loc) (b o len cap z:Nat) (nw:Bool) (es:List D) (how:x.ow b=some (.at l)) (hlen:es.length=len) (hcap:len≤cap)
  (h:Arr (AK x) w b o cap z es):RdV x s cv w (some l) (.slice (some (ad3 b o)) len cap) (.own nw z es)
 |bor (l:Option Loc) (l':Loc) (off len b o' cap':Nat) (hcap:len≤cap')
  (h:∀ z es,s l'=some (.own false z es)→∃ o L C,cv l'=some (.slice (some (ad3 b o)) L C)∧
   off+len≤es.length∧(len=0∧cap'=0∨o'=o+off*z)∧
   (∀ j,j<cap'*z→(∃ u,w.cell? (ad3 b (o'+j))=some u)∧w.frozen? (ad3 b (o'+j))=false)):
  RdV x s cv w l (.slice (some (ad3 b o')) len cap') (.bor l' off len)
 |Az (l:Option Loc) (l':Loc) (i off b o':Nat)
  (h:∀ z es,s l'=some (.own false z es)→∃ o L C,cv l'=some (.slice (some (ad3 b o)) L C)∧o'=o+i*z+off):
  RdV x s cv w l (.pointer (some (ad3 b o'))) (.Az l' i off)
 |Ax (l:Option Loc) (b o off:Nat) (e:D) (h:Cw (AK x) w b o e):RdV x s cv w l (.pointer (some (ad3 b (o+off)))) (.Ax e off)
 |ref (l:Option Loc) (d k off:Nat) (h:(s (.cell ⟨d,k,0⟩)).isSome):RdV x s cv w l (.pointer (some (ad3 (x.ad d k) off))) (.ref d k off)
 |clo (l:Option Loc) (f:FuncId) (va vb:List Value) (xs ys:List V) (hl:va.length=xs.length) (hl':vb.length=ys.length)
  (h:∀ (i:Nat) v y,va[i]? =some v→xs[i]? =some y→RdV x s cv w none v y)
  (h':∀ (i:Nat) v y,vb[i]? =some v→ys[i]? =some y→RdV x s cv w none v y):
  RdV x s cv w l (.func (.func f) va.toArray vb.toArray) (.clo f xs ys)
 |ifc (l:Option Loc) (t:TypeId) (v:Value) (y:V) (h:RdV x s cv w none v y):RdV x s cv w l (.iface t v) (.ifc t y)
 |vec (l:Option Loc) (b o cap:Nat) (ys:List V) (vs:Nat→Value) (hcap:ys.length≤cap)
  (hm:∀ (i:Nat) y,ys[i]? =some y→AK x b∧w.cell? (ad3 b (o+i))=some (vs i)) (h:∀ (i:Nat) y,ys[i]? =some y→RdV x s cv w none (vs i) y):
  RdV x s cv w l (.slice (some (ad3 b o)) ys.length cap) (.vec ys)
 |B4 (l:Option Loc) (b o:Nat) (v:Value) (y:V) (hb:AK x b) (hm:w.cell? (ad3 b o)=some v) (h:RdV x s cv w none v y):
  RdV x s cv w l (.pointer (some (ad3 b o))) (.B4 y)
 |rcd (l:Loc) (vs:List Value) (ys:List V) (hl:vs.length=ys.length) (h:∀ (i:Nat) v y,vs[i]? =some v→ys[i]? =some y→RdV x s cv w (some l) v y)
  (hd:∀ (i j:Nat) (p q:Addr) (L C L' C':Nat) (n n':Bool) (z z':Nat) (es es':List D),i≠j→ys[i]? =some (.own n z es)→ys[j]? =some (.own n' z' es')→
   vs[i]? =some (.slice (some p) L C)→vs[j]? =some (.slice (some q) L' C')→p.block≠q.block):RdV x s cv w (some l) (.agg vs.toArray) (.rcd ys)
 |AY (l:Option Loc) (v:Value):RdV x s cv w l v .AY
def D2 (w:World) (b:Nat):Prop:=∀ c e lo hi,w.heap[b]? =some (.cells c e (lo,hi))→lo≠hi→c.size≤lo
def Ir (o:Option Own):Prop:=o=some .res∨∃ l,o=some (.at l)
theorem D2.heap {w w':World} {b:Nat} (h:D2 w b) (e:w'.heap[b]? =w.heap[b]?):D2 w' b:=fun c t lo hi h1=>h c t lo hi (by rw[← e];exact h1)
def Bo (w:World) (n:Nat) (cs:Array Value):Prop:=∃ t fr,w.heap[n]? =some (.cells cs t fr)
theorem Bo.heap {w w':World} {n:Nat} {cs:Array Value} (h:Bo w n cs) (e:w'.heap[n]? =w.heap[n]?):Bo w' n cs:=let⟨t,fr,h⟩:=h;⟨t,fr,e.trans h⟩
theorem Bo.lt {w:World} {n:Nat} {cs:Array Value} (h:Bo w n cs):n<w.heap.size:=let⟨_,_,h⟩:=h;(abx.1 h).1
abbrev GY (D:Nat):Deferred:={target:= .collected D,args:= #[]}
def E0 (x:Cx) (a:Act) (w:World):Prop:=∃ l:List Nat,a.defers=l.map GY∧l.Nodup∧∀ D∈l,x.base≤D∧x.ow D=some .outer∧w.heap[D]? =some (.deferred (some []))
theorem E0.nil {x:Cx} {a:Act} {w:World} (h:a.defers=[]):E0 x a w:=⟨[],h,.nil,by simp⟩
theorem E0.mono {x x':Cx} {a a':Act} {w w':World} (h:E0 x a w) (hb:∀ b,x.ow b≠none→b<w.heap.size) (ha:a'.defers=a.defers) (hz:x'.base=x.base)
  (hG:∀ b,x.ow b=some .outer→b<w.heap.size→x'.ow b=x.ow b∧w'.heap[b]? =w.heap[b]?):E0 x' a' w':=by
 obtain⟨l,h1,h2,h3⟩:=h;refine⟨l,ha.trans h1,h2,fun D hD=> ?_⟩
 obtain⟨g0,g1,g2⟩:=h3 D hD;obtain⟨g3,g4⟩:=hG D g1 (hb D (by rw[g1];simp))
 exact⟨by rw[hz];exact g0,g3.trans g1,g4.trans g2⟩
structure Rel (cfg:Cfg) (x:Cx) (N:Nat) (s:Get) (a:Act) (w:World):Prop where
 size:a.tmps.size=N
 defs:E0 x a w
 bound:∀ b,x.ow b≠none→b<w.heap.size
 Bj:∀ l v,s l=some v→∃ u,Aa x a w l=some u∧RdV x s (Aa x a w) w (some l) u v
 CD:∀ k v,s (.slot k)=some v→k<N
 box:∀ c v,s (.cell c)=some v→x.ow (x.ad c.d c.k)=some (.box c.d c.k)∧(s (.cell ⟨c.d,c.k,0⟩)).isSome∧w.frozen? (ad3 (x.ad c.d c.k) c.off)=false
 Cu:∀ n e,cfg.IL n=some e→Cw (AK x) w n 0 e
 B5:∀ b,Ir (x.ow b)→D2 w b
 B1:∀ n ob,cfg.B1 n=some ob→x.ow n=none∧Bo w n ob
def B3 (w w':World):Prop:=w'.os=w.os∧w'.tape=w.tape∧w'.output=w.output
theorem B3.refl (w:World):B3 w w:=⟨rfl,rfl,rfl⟩
theorem B3.trans {w w' w'':World} (h:B3 w w') (k:B3 w' w''):B3 w w'':=⟨k.1.trans h.1,k.2.1.trans h.2.1,k.2.2.trans h.2.2⟩
def Room (w w':World):Prop:=∀ b o u,w.cell? (ad3 b o)=some u→w.frozen? (ad3 b o)=false→(∃ u',w'.cell? (ad3 b o)=some u')∧w'.frozen? (ad3 b o)=false
theorem Room.refl (w:World):Room w w:=fun _ _ u h1 h2=>⟨⟨u,h1⟩,h2⟩
theorem Room.trans {w w' w'':World} (h:Room w w') (k:Room w' w''):Room w w'':=fun b o u h1 h2=>let⟨⟨u',h3⟩,h4⟩:=h b o u h1 h2;k b o u' h3 h4
structure Fr (dep:Nat) (x x':Cx) (w w':World):Prop where
 size:w.heap.size≤w'.heap.size
 same:∀ b,b<w.heap.size→x.ow b=none∨x.ow b=some .outer→w'.heap[b]? =w.heap[b]? ∧x'.ow b=x.ow b
 ad:∀ d k,d<dep→x'.ad d k=x.ad d k
 io:B3 w w'
 room:Room w w'
 base:x'.base=x.base
theorem Fr.refl (dep:Nat) (x:Cx) (w:World):Fr dep x x w w:=⟨abn _,fun _ _ _=>⟨rfl,rfl⟩,fun _ _ _=>rfl,.refl _,.refl _,rfl⟩
theorem Fr.trans {dep:Nat} {x x' x'':Cx} {w w' w'':World} (h:Fr dep x x' w w') (h':Fr dep x' x'' w' w''):Fr dep x x'' w w'':=
 ⟨abo h.size h'.size,fun b hb ho=>
  let⟨h1,h2⟩:=h.same b hb ho
  let⟨h3,h4⟩:=h'.same b (ab3 hb h.size) (by rw[h2];exact ho)
  ⟨h3.trans h1,h4.trans h2⟩,fun d k hd=>(h'.ad d k hd).trans (h.ad d k hd),h.io.trans h'.io,h.room.trans h'.room,h'.base.trans h.base⟩
structure FrK (K dep:Nat) (x x':Cx) (w w':World):Prop where
 size:w.heap.size≤w'.heap.size
 same:∀ b,b<w.heap.size→x.ow b=none∨x.ow b=some .outer→(b≠K→w'.heap[b]? =w.heap[b]?)∧x'.ow b=x.ow b
 ad:∀ d k,d<dep→x'.ad d k=x.ad d k
 io:B3 w w'
 room:Room w w'
 base:x'.base=x.base
theorem Fr.toK {dep:Nat} {x x':Cx} {w w':World} (h:Fr dep x x' w w') (K:Nat):FrK K dep x x' w w':=⟨h.size,fun b hb ho=>⟨fun _=>(h.same b hb ho).1,(h.same b hb ho).2⟩,h.ad,h.io,h.room,h.base⟩
theorem FrK.dZ {K dep:Nat} {x x':Cx} {w w':World} (h:FrK K dep x x' w w') (hK:w.heap.size≤K):Fr dep x x' w w':=⟨h.size,fun b hb ho=>⟨(h.same b hb ho).1 aa1,(h.same b hb ho).2⟩,h.ad,h.io,h.room,h.base⟩
theorem FrK.trans {K dep:Nat} {x x' x'':Cx} {w w' w'':World} (h:FrK K dep x x' w w') (h':FrK K dep x' x'' w' w''):FrK K dep x x'' w w'':=
 ⟨abo h.size h'.size,fun b hb ho=>
  let⟨h1,h2⟩:=h.same b hb ho
  let⟨h3,h4⟩:=h'.same b (ab3 hb h.size) (by rw[h2];exact ho)
  ⟨fun e=>(h3 e).trans (h1 e),h4.trans h2⟩,fun d k hd=>(h'.ad d k hd).trans (h.ad d k hd),h.io.trans h'.io,h.room.trans h'.room,h'.base.trans h.base⟩
theorem RdV.mono {x x':Cx} {s s':Get} {cv cv':Loc→Option Value} {w w':World} {l:Option Loc} {v:Value} {y:V} (h:RdV x s cv w l v y)
  (hc:∀ b o u,x.ow b=none→w.cell? (ad3 b o)=some u→x'.ow b=none∧w'.cell? (ad3 b o)=some u)
  (hR:∀ b o u,w.cell? (ad3 b o)=some u→w.frozen? (ad3 b o)=false→(∃ u',w'.cell? (ad3 b o)=some u')∧w'.frozen? (ad3 b o)=false)
  (hS:∀ l' z es,s' l'=some (.own false z es)→∃ es0,s l'=some (.own false z es0)∧es0.length=es.length∧
    ∀ b o L C,cv l'=some (.slice (some (ad3 b o)) L C)→∃ L' C',cv' l'=some (.slice (some (ad3 b o)) L' C'))
  (hB:∀ d k,(s (.cell ⟨d,k,0⟩)).isSome→(s' (.cell ⟨d,k,0⟩)).isSome∧x'.ad d k=x.ad d k)
  (hO:∀ l0,l=some l0→∀ b,x.ow b=some (.at l0)→x'.ow b=some (.at l0)∧∀ o u,w.cell? (ad3 b o)=some u→w'.cell? (ad3 b o)=some u):
  RdV x' s' cv' w' l v y:=by
 induction h with
 |d l v y h=>exact .d l v y (h.mono hc)
 | own l b o len cap z nw es how hlen hcap h=>
  obtain⟨ho1,ho2⟩:=hO l rfl b how;refine .own l b o len cap z nw es ho1 hlen hcap ⟨h.pos,fun j hj=> ?_,h.wid,h.cel,fun i e he j c hj=> ?_⟩
  · obtain⟨⟨u,hu⟩,hf⟩:=h.room j hj
    exact hR b _ u hu hf
  · obtain⟨v,h1,h2⟩:=h.els i e he j c hj
    exact⟨v,ho2 _ _ h1,h2.mono hc⟩
 | bor l l' off len b o' cap' hcap h=>
  refine .bor l l' off len b o' cap' hcap fun z es hs=> ?_
  obtain⟨es0,h0,hl,hcv⟩:=hS l' z es hs;obtain⟨o,L,C,h1,h3,h5,h6⟩:=h z es0 h0;obtain⟨L',C',h7⟩:=hcv b o L C h1;refine⟨o,L',C',h7,hl ▸ h3,h5,fun j hj=> ?_⟩
  obtain⟨⟨u,hu⟩,hf⟩:=h6 j hj;exact hR b _ u hu hf
 | Az l l' i off b o' h=>
  refine .Az l l' i off b o' fun z es hs=> ?_
  obtain⟨es0,h0,_,hcv⟩:=hS l' z es hs;obtain⟨o,L,C,h1,h2⟩:=h z es0 h0;obtain⟨L',C',h7⟩:=hcv b o L C h1;exact⟨o,L',C',h7,h2⟩
 |Ax l b o off e h=>exact .Ax l b o off e (h.mono hc)
 | ref l d k off h=>
  obtain⟨h1,h2⟩:=hB d k h;rw[← h2];exact .ref l d k off h1
 | clo l f va vb xs ys hl hl' _ _ ih ih'=>
  exact .clo l f va vb xs ys hl hl' (fun i v y h1 h2=>ih i v y h1 h2 aa3) (fun i v y h1 h2=>ih' i v y h1 h2 aa3)
 |ifc l t v y _ ih=>exact .ifc l t v y (ih aa3)
 |vec l b o cap ys vs hcap hm _ ih=>exact .vec l b o cap ys vs hcap (fun i y hy=>hc b _ _ (hm i y hy).1 (hm i y hy).2) (fun i y hy=>ih i y hy aa3)
 |rcd l vs ys hl _ hd ih=>exact .rcd l vs ys hl (fun i v y h1 h2=>ih i v y h1 h2 hO) hd
 |B4 l b o v y hb hm _ ih=>exact .B4 l b o v y (hc b _ _ hb hm).1 (hc b _ _ hb hm).2 (ih aa3)
 |AY l v=>exact .AY l v
def V.BC:V→Bool
 | .own _ _ _| .rcd _=>true
 |_=>false
theorem RdV.CZ {x:Cx} {s:Get} {cv:Loc→Option Value} {w:World} {l l':Option Loc} {v:Value} {y:V} (h:RdV x s cv w l v y) (hn:y.BC=false):
  RdV x s cv w l' v y:=by
 cases h with
 |d l v y h=>exact .d _ _ _ h
 |own=>simp[V.BC] at hn
 |rcd=>simp[V.BC] at hn
 |bor l l' off len b o' cap' hcap h=>exact .bor _ _ _ _ _ _ _ hcap h
 |Az l l' i off b o' h=>exact .Az _ _ _ _ _ _ h
 |Ax l b o off e h=>exact .Ax _ _ _ _ _ h
 |ref l d k off h=>exact .ref _ _ _ _ h
 |clo l f va vb xs ys hl hl' h h'=>exact .clo _ _ _ _ _ _ hl hl' h h'
 |ifc l t v y h=>exact .ifc _ _ _ _ h
 |vec l b o cap ys vs hcap hm h=>exact .vec _ _ _ _ _ _ hcap hm h
 |B4 l b o v y hb hm h=>exact .B4 _ _ _ _ _ hb hm h
 |AY l v=>exact .AY _ _
theorem Rel.step {cfg:Cfg} {x x':Cx} {N:Nat} {s s':Get} {a a':Act} {w w':World} (R:Rel cfg x N s a w) (U:List Loc)
   (h1:a'.tmps.size=N) (h2:a'.defers=a.defers) (hz:x'.base=x.base)
   (hb:∀ b,x'.ow b≠none→b<w'.heap.size)
   (hs:∀ l,l ∉ U→∀ v,s' l=some v→s l=some v∧∀ u,Aa x a w l=some u→Aa x' a' w' l=some u)
   (hU:∀ l,l∈U→∀ v,s' l=some v→∃ u,Aa x' a' w' l=some u∧RdV x' s' (Aa x' a' w') w' (some l) u v)
   (hn:∀ k,.slot k∈U→k<N)
   (hc:∀ b o u,x.ow b=none→w.cell? (ad3 b o)=some u→x'.ow b=none∧w'.cell? (ad3 b o)=some u)
   (hR:∀ b o u,w.cell? (ad3 b o)=some u→w.frozen? (ad3 b o)=false→(∃ u',w'.cell? (ad3 b o)=some u')∧w'.frozen? (ad3 b o)=false)
   (hS:∀ l',l'∈U→∀ z es,s' l'=some (.own false z es)→∃ es0,s l'=some (.own false z es0)∧es0.length=es.length∧
     ∀ b o L C,Aa x a w l'=some (.slice (some (ad3 b o)) L C)→∃ L' C',Aa x' a' w' l'=some (.slice (some (ad3 b o)) L' C'))
   (hB:∀ d k,(s (.cell ⟨d,k,0⟩)).isSome→(s' (.cell ⟨d,k,0⟩)).isSome∧x'.ad d k=x.ad d k)
   (hO:∀ l0,l0 ∉ U→∀ b,x.ow b=some (.at l0)→x'.ow b=some (.at l0)∧∀ o u,w.cell? (ad3 b o)=some u→w'.cell? (ad3 b o)=some u)
   (hx:∀ c v,s' (.cell c)=some v→x'.ow (x'.ad c.d c.k)=some (.box c.d c.k)∧(s' (.cell ⟨c.d,c.k,0⟩)).isSome∧w'.frozen? (ad3 (x'.ad c.d c.k) c.off)=false) (hZ:∀ b,Ir (x'.ow b)→D2 w' b)
   (hG:∀ b,x.ow b=none∨x.ow b=some .outer→b<w.heap.size→x'.ow b=x.ow b∧w'.heap[b]? =w.heap[b]?):
   Rel cfg x' N s' a' w':=by
 refine⟨h1,R.defs.mono R.bound h2 hz (fun b h hb=>hG b (.inr h) hb),hb,fun l v hl=> ?_,fun k v hk=> ?_,hx,fun n e hg=>(R.Cu n e hg).mono hc,hZ,fun n ob hg=> ?_⟩
 rotate_left 2
 · obtain⟨g1,g2⟩:=R.B1 n ob hg
   obtain⟨g3,g4⟩:=hG n (.inl g1) g2.lt;exact⟨g3.trans g1,g2.heap g4⟩
 · by_cases hm:l∈U
   · exact hU l hm v hl
   · obtain⟨h3,h4⟩:=hs l hm v hl
     obtain⟨u,hu,hr⟩:=R.Bj l v h3;refine⟨u,h4 u hu,hr.mono hc hR (fun l' z es hs'=> ?_) hB (fun l0 e=> ?_)⟩
     · by_cases hm':l'∈U
       · exact hS l' hm' z es hs'
       · obtain⟨h5,h6⟩:=hs l' hm' _ hs'
         exact⟨es,h5,rfl,fun b o L C hcv=>⟨L,C,h6 _ hcv⟩⟩
     · cases e
       exact hO l hm
 · by_cases hm:Loc.slot k∈U
   · exact hn k hm
   · exact R.CD k v (hs _ hm v hk).1
end Go.Ev
namespace Go.Ev
open Go
@[simp] theorem oz (s:Get):AN s []=s:=rfl
theorem br (s:Get) (l:Loc) (v:V) (r:List (Loc×V)):AN s ((l,v)::r)=AN (fun l'=>if l'=l then some v else s l') r:=rfl
theorem b6 (s:Get) (l:Loc) (v:V) (l':Loc):AN s [(l,v)] l'=if l'=l then some v else s l':=rfl
theorem dj (s:Get) (u v:List (Loc×V)):AN s (u++v)=AN (AN s u) v:=by
 induction u generalizing s with
 |nil=>rfl
 |cons p r ih=>obtain⟨l,y⟩:=p;simp only[List.cons_append,br];exact ih _
theorem kl {x:Cx} {a:Act} {w:World} {k:Nat} {v:Value} (h:k<a.tmps.size):Aa x (a.put (some k) v) w (.slot k)=some v:=by
 simp[Aa,Act.put,h]
theorem zu {x:Cx} {a:Act} {w:World} {k j:Nat} {v:Value} (h:j≠k):Aa x (a.put (some k) v) w (.slot j)=Aa x a w (.slot j):=by
 simp[Aa,Act.put,Array.getElem?_setIfInBounds_ne (Ne.symm h)]
theorem vd {x:Cx} {a:Act} {w:World} {k:Nat} {v:Value} {l:Loc} (h:l≠ .slot k):Aa x (a.put (some k) v) w l=Aa x a w l:=by
 cases l with
 |slot j=>exact zu (fun e=>h (e ▸ rfl))
 |cell c=>rfl
theorem awk (a:Act) (d:Option Nat) (v:Value):(a.put d v).tmps.size=a.tmps.size:=by cases d<;>simp[Act.put]
theorem bfc (a:Act) (d:Option Nat) (v:Value):(a.put d v).defers=a.defers:=by cases d<;>rfl
def Cx.AX (x:Cx) (b:Nat) (o:Option Own):Cx:={x with ow:=fun b'=>if b'=b then o else x.ow b'}
@[simp] theorem Cx.Eb (x:Cx) (b:Nat) (o:Option Own):(x.AX b o).ow b=o:=by simp[Cx.AX]
theorem Cx.AR (x:Cx) {b b':Nat} (o:Option Own) (h:b'≠b):(x.AX b o).ow b'=x.ow b':=by simp[Cx.AX,h]
@[simp] theorem Cx.Ds (x:Cx) (b:Nat) (o:Option Own):(x.AX b o).ad=x.ad:=rfl
section
variable {cfg:Cfg} {x:Cx} {N:Nat} {s:Get} {a:Act} {w:World}
theorem Rel.Cb (R:Rel cfg x N s a w) {b:Nat} {o:Option Own} (h:Ir o→Ir (x.ow b)):∀ b',Ir ((x.AX b o).ow b')→D2 w b':=fun b' h'=>by
 by_cases e:b'=b
 · subst e
   simp only[Cx.AX,if_true] at h';exact R.B5 _ (h h')
 · rw[Cx.AR _ _ e] at h'
   exact R.B5 _ h'
theorem Rel.putAt (R:Rel cfg x N s a w) {k:Nat} (hk:k<N) {v:Value} {y:V} (hy:∀ z es,y≠ .own false z es) (hv:RdV x s (Aa x a w) w (some (.slot k)) v y):
   Rel cfg x N (AN s [(.slot k,y)]) (a.put (some k) v) w:=by
 have hs':∀ l',AN s [(.slot k,y)] l'=if l'= .slot k then some y else s l':=fun l'=>rfl
 have hcv:∀ l',l'≠ .slot k→Aa x (a.put (some k) v) w l'=Aa x a w l':=fun l' h=>vd h
 have hkk:Aa x (a.put (some k) v) w (.slot k)=some v:=kl (by rw[R.size];exact hk)
 have hS:∀ l' z es,AN s [(.slot k,y)] l'=some (.own false z es)→s l'=some (.own false z es)∧Aa x (a.put (some k) v) w l'=Aa x a w l':=by
   intro l' z es h;rw[hs'] at h;split at h
   · cases h;exact absurd rfl (hy z es)
   · rename_i hne;exact⟨h,hcv l' hne⟩
 have hB:∀ d j,(s (.cell ⟨d,j,0⟩)).isSome→(AN s [(.slot k,y)] (.cell ⟨d,j,0⟩)).isSome∧x.ad d j=x.ad d j:=by
   intro d j h;rw[hs'];simp[h]
 refine R.step [.slot k] (by rw[awk];exact R.size) (by rw[bfc]) rfl R.bound (fun l' hl' v' h=> ?_) (fun l' hl' v' h=> ?_) (fun j hj=> ?_)
   (fun b o u h1 h2=>⟨h1,h2⟩) (fun b o u h1 h2=>⟨⟨u,h1⟩,h2⟩) (fun l' hl' z es h=> ?_) hB (fun l0 _ b h=>⟨h,fun _ _ h=>h⟩) (fun c v' h=> ?_) R.B5 (fun _ _ _=>⟨rfl,rfl⟩)
 · have hne:l'≠ .slot k:=by simpa using hl'
   rw[hs',if_neg hne] at h;exact⟨h,fun u hu=>by rw[hcv l' hne];exact hu⟩
 · have he:l'= .slot k:=by simpa using hl'
   subst he;rw[hs',if_pos rfl] at h;cases h;refine⟨v,hkk,hv.mono (fun b o u h1 h2=>⟨h1,h2⟩) (fun b o u h1 h2=>⟨⟨u,h1⟩,h2⟩) (fun l' z es h=> ?_) hB (fun l0 _ b h=>⟨h,fun _ _ h=>h⟩)⟩
   obtain⟨h1,h2⟩:=hS l' z es h;exact⟨es,h1,rfl,fun b o L C hcv=>⟨L,C,by rw[h2];exact hcv⟩⟩
 · have:j=k:=by simpa using hj
   omega
 · obtain⟨h1,h2⟩:=hS l' z es h
   exact⟨es,h1,rfl,fun b o L C hcv=>⟨L,C,by rw[h2];exact hcv⟩⟩
 · rw[hs',if_neg aa3] at h
   obtain⟨h1,h2,h3⟩:=R.box c v' h;exact⟨h1,by rw[hs',if_neg aa3];exact h2,h3⟩
theorem Rel.put (R:Rel cfg x N s a w) {k:Nat} (hk:k<N) {v:Value} {y:V} (hy:y.BC=false) {l:Option Loc} (hv:RdV x s (Aa x a w) w l v y):
  Rel cfg x N (AN s [(.slot k,y)]) (a.put (some k) v) w:=
 R.putAt hk (fun z es e=>by subst e;simp[V.BC] at hy) (hv.CZ hy)
theorem Rel.congr (R:Rel cfg x N s a w) {s':Get} (h:∀ l,s' l=s l):Rel cfg x N s' a w:=by
 have:s'=s:=funext h;subst this;exact R
theorem Arr.mono {F F':Nat→Prop} {w w':World} {b o cap z:Nat} {es:List D} (h:Arr F w b o cap z es)
  (hc:∀ b o u,F b→w.cell? (ad3 b o)=some u→F' b∧w'.cell? (ad3 b o)=some u)
  (hb:∀ o u,w.cell? (ad3 b o)=some u→w'.cell? (ad3 b o)=some u)
  (hR:∀ o u,w.cell? (ad3 b o)=some u→w.frozen? (ad3 b o)=false→w'.frozen? (ad3 b o)=false):Arr F' w' b o cap z es:=
 ⟨h.pos,fun j hj=>let⟨⟨u,hu⟩,hf⟩:=h.room j hj;⟨⟨u,hb _ _ hu⟩,hR _ u hu hf⟩,h.wid,h.cel,fun i e he j c hj=>
  let⟨v,h1,h2⟩:=h.els i e he j c hj
  ⟨v,hb _ _ h1,h2.mono hc⟩⟩
theorem Arr.rd {F:Nat→Prop} {w:World} {b o cap z len:Nat} {es:List D} (h:Arr F w b o cap z es) (hb:F b) (hl:es.length=len) (hcap:len≤cap):
  Rd F w (.slice (some (ad3 b o)) len cap) (.sl es):=by
 have hv:∀ i j,∃ v,∀ e,es[i]? =some e→∀ c,e.cells[j]? =some c→w.cell? (ad3 b (o+i*z+j))=some v∧Rd F w v c:=by
  intro i j;cases he:es[i]? with
  |none=>exact⟨undef,fun e h=>by cases h⟩
  | some e=>
   cases hc:e.cells[j]? with
   |none=>exact⟨undef,fun e' h c h'=>by cases h;rw[hc] at h';cases h'⟩
   | some c=>
    obtain⟨v,h1,h2⟩:=h.els i e he j c hc;exact⟨v,fun e' h c' h'=>by cases h;rw[hc] at h';cases h';exact⟨h1,h2⟩⟩
 exact .sl b o len cap z es (fun i j=>(hv i j).choose) hl hcap h.wid h.cel
  (fun i e he j c hc=>⟨hb,((hv i j).choose_spec e he c hc).1⟩) (fun i e he j c hc=>((hv i j).choose_spec e he c hc).2)
theorem Rel.forget (R:Rel cfg x N s a w) {l0:Loc} (h0:(s l0).isSome):Rel cfg x N (AN s [(l0,.AY)]) a w:=by
 have hs':∀ l',AN s [(l0,.AY)] l'=if l'=l0 then some .AY else s l':=fun l'=>rfl
 have hB:∀ d j,(s (.cell ⟨d,j,0⟩)).isSome→(AN s [(l0,.AY)] (.cell ⟨d,j,0⟩)).isSome∧x.ad d j=x.ad d j:=by
   intro d j h;rw[hs'];split<;>simp[h]
 refine R.step [l0] R.size rfl rfl R.bound (fun l' hl' v' h=> ?_) (fun l' hl' v' h=> ?_) (fun j hj=> ?_)
   (fun b o u h1 h2=>⟨h1,h2⟩) (fun b o u h1 h2=>⟨⟨u,h1⟩,h2⟩) (fun l' hl' z es h=> ?_) hB (fun l0 _ b h=>⟨h,fun _ _ h=>h⟩) (fun c v' h=> ?_) R.B5 (fun _ _ _=>⟨rfl,rfl⟩)
 · have hne:l'≠l0:=by simpa using hl'
   rw[hs',if_neg hne] at h;exact⟨h,fun u hu=>hu⟩
 · have he:l'=l0:=by simpa using hl'
   subst he;rw[hs',if_pos rfl] at h;cases h;obtain⟨v0,hv0⟩:=abq.1 h0;obtain⟨u,hu,_⟩:=R.Bj l' v0 hv0;exact⟨u,hu,.AY _ _⟩
 · obtain⟨v0,hv0⟩:=abq.1 h0
   have:l0= .slot j:=(ab9.1 hj).symm;exact R.CD j v0 (this ▸ hv0)
 · have he:l'=l0:=by simpa using hl'
   subst he;rw[hs',if_pos rfl] at h;cases h
 · obtain⟨v0,hv0⟩:=abq.1 h0
   rw[hs'] at h;split at h
   · rename_i he
     obtain⟨h1,h2,h3⟩:=R.box c v0 (he ▸ hv0);exact⟨h1,(hB _ _ h2).1,h3⟩
   · obtain⟨h1,h2,h3⟩:=R.box c v' h
     exact⟨h1,(hB _ _ h2).1,h3⟩
theorem Rel.hand (R:Rel cfg x N s a w) {k:Nat} (hk:k<N) {l0:Loc} (hne:l0≠ .slot k) {nw:Bool} {z:Nat} {es:List D} (h0:s l0=some (.own nw z es))
   {b:Nat} (how:x.ow b=some (.at l0)) {o len cap:Nat} {es':List D} (hA:Arr (AK x) w b o cap z es') (hl:es'.length=len) (hcap:len≤cap):
   Rel cfg (x.AX b (some (.at (.slot k)))) N (AN s [(.slot k,.own true z es'),(l0,.AY)]) (a.put (some k) (.slice (some (ad3 b o)) len cap)) w:=by
 have hs':∀ l',AN s [(.slot k,.own true z es'),(l0,.AY)] l'=if l'=l0 then some .AY else if l'= .slot k then some (.own true z es') else s l':=fun l'=>rfl
 have hx:∀ b',x.ow b'=none→(x.AX b (some (.at (.slot k)))).ow b'=none:=fun b' h=>by
   rw[Cx.AR];· exact h
   intro e;rw[e,how] at h;cases h
 have hB:∀ d j,(s (.cell ⟨d,j,0⟩)).isSome→(AN s [(.slot k,.own true z es'),(l0,.AY)] (.cell ⟨d,j,0⟩)).isSome∧(x.AX b (some (.at (.slot k)))).ad d j=x.ad d j:=by
   intro d j h;rw[hs'];split<;>simp[h]
 have hkk:Aa (x.AX b (some (.at (.slot k)))) (a.put (some k) (.slice (some (ad3 b o)) len cap)) w (.slot k)=some (.slice (some (ad3 b o)) len cap):=
   kl (by rw[R.size];exact hk)
 have hcv:∀ l',l'≠ .slot k→Aa (x.AX b (some (.at (.slot k)))) (a.put (some k) (.slice (some (ad3 b o)) len cap)) w l'=Aa x a w l':=fun l' h=>by
   rw[vd h];cases l'<;>rfl
 refine R.step [.slot k,l0] (by rw[awk];exact R.size) (by rw[bfc]) rfl (fun b' hb'=> ?_) (fun l' hl' v' h=> ?_) (fun l' hl' v' h=> ?_) (fun j hj=> ?_)
   (fun b o u h1 h2=>⟨hx b h1,h2⟩) (fun b o u h1 h2=>⟨⟨u,h1⟩,h2⟩) (fun l' hl' z es h=> ?_) hB (fun l1 hl1 b1 h1=>⟨?_,fun _ _ h=>h⟩) (fun c v' h=> ?_) (R.Cb (fun _=> .inr ⟨_,how⟩)) (fun b' h _=>⟨Cx.AR _ _ (fun e=>by subst e;rw[how] at h;rcases h with h|h<;>cases h),rfl⟩)
 · by_cases e:b'=b
   · subst e;exact R.bound _ (by rw[how];simp)
   · rw[Cx.AR _ _ e] at hb';exact R.bound _ hb'
 · simp only[abr,ach,or_false,not_or] at hl'
   rw[hs',if_neg hl'.2,if_neg hl'.1] at h;exact⟨h,fun u hu=>by rw[hcv l' hl'.1];exact hu⟩
 · rw[hs'] at h
   simp only[abr,ach,or_false] at hl';by_cases e:l'=l0
   · rw[if_pos e] at h
     cases h;obtain⟨u,hu,_⟩:=R.Bj l0 _ h0;exact⟨u,by rw[e,hcv l0 hne];exact hu,.AY _ _⟩
   · rw[if_neg e] at h
     rcases hl' with hl'|hl'
     · subst hl'
       rw[if_pos rfl] at h;cases h;exact⟨_,hkk,.own _ b o len cap z true es' aa3 hl hcap (hA.mono (fun b o u h1 h2=>⟨hx b h1,h2⟩) (fun _ _ h=>h) (fun _ _ _ h=>h))⟩
     · exact absurd hl' e
 · simp only[abr,ach,or_false] at hj
   rcases hj with hj|hj
   · cases hj;exact hk
   · exact R.CD j _ (hj ▸ h0)
 · rw[hs'] at h
   split at h
   · cases h
   · split at h
     · cases h
     · simp_all
 · simp only[abr,ach,or_false,not_or] at hl1
   rw[Cx.AR];· exact h1
   intro e;rw[e,how] at h1;cases h1;exact hl1.2 rfl
 · have key:∀ v0,s (.cell c)=some v0→(x.AX b (some (.at (.slot k)))).ow (x.ad c.d c.k)=some (.box c.d c.k)∧
       (AN s [(.slot k,.own true z es'),(l0,.AY)] (.cell ⟨c.d,c.k,0⟩)).isSome∧w.frozen? (ad3 (x.ad c.d c.k) c.off)=false:=fun v0 hv0=>by
     obtain⟨h1,h2,h3⟩:=R.box c v0 hv0;refine⟨?_,(hB _ _ h2).1,h3⟩;rw[Cx.AR];· exact h1
     intro e;rw[e,how] at h1;cases h1
   rw[hs'] at h;split at h
   · rename_i e;exact key _ (e ▸ h0)
   · rw[if_neg aa3] at h;exact key _ h
theorem Rel.release (R:Rel cfg x N s a w) {l0:Loc} {nw:Bool} {z:Nat} {es:List D} (h0:s l0=some (.own nw z es)):
   ∃ b,x.ow b=some (.at l0)∧(∃ o L C,Aa x a w l0=some (.slice (some (ad3 b o)) L C))∧Rel cfg (x.AX b none) N (AN s [(l0,.d (.sl es))]) a w:=by
 obtain⟨u,hu,hr⟩:=R.Bj l0 _ h0;cases hr with
 |own l b o len cap z nw es how hlen hcap hA=>
 refine⟨b,how,⟨o,len,cap,hu⟩,?_⟩;have hs':∀ l',AN s [(l0,.d (.sl es))] l'=if l'=l0 then some (.d (.sl es)) else s l':=fun l'=>rfl
 have hx:∀ b',x.ow b'=none→(x.AX b none).ow b'=none:=fun b' h=>by
   simp only[Cx.AX];split<;>simp_all
 have hB:∀ d j,(s (.cell ⟨d,j,0⟩)).isSome→(AN s [(l0,.d (.sl es))] (.cell ⟨d,j,0⟩)).isSome∧(x.AX b none).ad d j=x.ad d j:=by
   intro d j h;rw[hs'];split<;>simp[h]
 have hcv:∀ l',Aa (x.AX b none) a w l'=Aa x a w l':=fun l'=>by cases l'<;>rfl
 refine R.step [l0] R.size rfl rfl (fun b' hb'=> ?_) (fun l' hl' v' h=> ?_) (fun l' hl' v' h=> ?_) (fun j hj=> ?_)
   (fun b o u h1 h2=>⟨hx b h1,h2⟩) (fun b o u h1 h2=>⟨⟨u,h1⟩,h2⟩) (fun l' hl' z es h=> ?_) hB (fun l1 hl1 b1 h1=>⟨?_,fun _ _ h=>h⟩) (fun c v' h=> ?_) (R.Cb (fun h=>by rcases h with h|⟨_,h⟩<;>cases h)) (fun b' h _=>⟨Cx.AR _ _ (fun e=>by subst e;rw[how] at h;rcases h with h|h<;>cases h),rfl⟩)
 · by_cases e:b'=b
   · subst e;simp at hb'
   · rw[Cx.AR _ _ e] at hb';exact R.bound _ hb'
 · have hne:l'≠l0:=by simpa using hl'
   rw[hs',if_neg hne] at h;exact⟨h,fun u hu=>by rw[hcv];exact hu⟩
 · have he:l'=l0:=by simpa using hl'
   subst he;rw[hs',if_pos rfl] at h;cases h;exact⟨_,by rw[hcv];exact hu,.d _ _ _ ((hA.mono (fun b o u h1 h2=>⟨hx b h1,h2⟩) (fun _ _ h=>h) (fun _ _ _ h=>h)).rd (Cx.Eb _ _ _) hlen hcap)⟩
 · have:l0= .slot j:=(ab9.1 hj).symm
   exact R.CD j _ (this ▸ h0)
 · have he:l'=l0:=by simpa using hl'
   subst he;rw[hs',if_pos rfl] at h;cases h
 · have hne:l1≠l0:=by simpa using hl1
   rw[Cx.AR];· exact h1
   intro e;rw[e,how] at h1;cases h1;exact hne rfl
 · have key:∀ v0,s (.cell c)=some v0→(x.AX b none).ow (x.ad c.d c.k)=some (.box c.d c.k)∧
      (AN s [(l0,.d (.sl es))] (.cell ⟨c.d,c.k,0⟩)).isSome∧w.frozen? (ad3 (x.ad c.d c.k) c.off)=false:=fun v0 hv0=>by
     obtain⟨h1,h2,h3⟩:=R.box c v0 hv0;refine⟨?_,(hB _ _ h2).1,h3⟩;rw[Cx.AR];· exact h1
     intro e;rw[e,how] at h1;cases h1
   rw[hs'] at h;split at h
   · rename_i e;exact key _ (e ▸ h0)
   · exact key _ h
theorem Rel.relabel (R:Rel cfg x N s a w) {l0:Loc} {b:Nat} (how:x.ow b=some (.at l0)) (h0:∀ v,s l0=some v→v.BC=false) (hn:∀ k,l0= .slot k→k<N) (l1:Loc):
   Rel cfg (x.AX b (some (.at l1))) N s a w:=by
 have hx:∀ b',x.ow b'=none→(x.AX b (some (.at l1))).ow b'=none:=fun b' h=>by
   rw[Cx.AR];· exact h
   intro e;rw[e,how] at h;cases h
 have hcv:∀ l',Aa (x.AX b (some (.at l1))) a w l'=Aa x a w l':=fun l'=>by cases l'<;>rfl
 refine R.step [l0] R.size rfl rfl (fun b' hb'=> ?_) (fun l' hl' v' h=>⟨h,fun u hu=>by rw[hcv];exact hu⟩) (fun l' hl' v' h=> ?_) (fun j hj=>hn j (ab9.1 hj).symm)
   (fun b o u h1 h2=>⟨hx b h1,h2⟩) (fun b o u h1 h2=>⟨⟨u,h1⟩,h2⟩) (fun l' hl' z es h=> ?_) (fun d k h=>⟨h,rfl⟩) (fun l2 hl2 b2 h2=>⟨?_,fun _ _ h=>h⟩) (fun c v' h=> ?_) (R.Cb (fun _=> .inr ⟨_,how⟩)) (fun b' h _=>⟨Cx.AR _ _ (fun e=>by subst e;rw[how] at h;rcases h with h|h<;>cases h),rfl⟩)
 · by_cases e:b'=b
   · subst e;exact R.bound _ (by rw[how];simp)
   · rw[Cx.AR _ _ e] at hb';exact R.bound _ hb'
 · have he:l'=l0:=by simpa using hl'
   subst he;obtain⟨u,hu,hr⟩:=R.Bj _ _ h;refine⟨u,by rw[hcv];exact hu,((hr.CZ (l':=none) (h0 _ h)).mono (fun b o u h1 h2=>⟨hx b h1,h2⟩) (fun b o u h1 h2=>⟨⟨u,h1⟩,h2⟩) (fun l2 z es hs=>⟨es,hs,rfl,fun b o L C hc=>⟨L,C,by rw[hcv];exact hc⟩⟩) (fun d k h=>⟨h,rfl⟩) (fun l0 e=>by cases e)).CZ (h0 _ h)⟩
 · have he:l'=l0:=by simpa using hl'
   subst he;have:=h0 _ h;simp[V.BC] at this
 · have hne:l2≠l0:=by simpa using hl2
   rw[Cx.AR];· exact h2
   intro e;rw[e,how] at h2;cases h2;exact hne rfl
 · obtain⟨h1,h2,h3⟩:=R.box c v' h
   refine⟨?_,h2,h3⟩;rw[Cx.Ds,Cx.AR];· exact h1
   intro e;rw[e,how] at h1;cases h1
theorem Fr.AX {dep:Nat} {l0:Loc} {b:Nat} (how:x.ow b=some (.at l0)) (o:Option Own):Fr dep x (x.AX b o) w w:=
 ⟨abn _,fun b' _ h=>⟨rfl,Cx.AR _ _ (fun e=>by rw[e,how] at h;simp at h)⟩,fun _ _ _=>rfl,.refl _,.refl _,rfl⟩
end
end Go.Ev
namespace Go.Ev
open Go
structure DF (b:Nat) (w w':World):Prop where
 size:w'.heap.size=w.heap.size
 other:∀ b',b'≠b→w'.heap[b']? =w.heap[b']?
 We:∀ o,(∃ u,w.cell? (ad3 b o)=some u)→w'.frozen? (ad3 b o)=w.frozen? (ad3 b o)
 Ak:∀ o u,w.cell? (ad3 b o)=some u→∃ u',w'.cell? (ad3 b o)=some u'
 io:B3 w w'
 B5:D2 w b→D2 w' b
theorem bw {w w':World} {b o:Nat} (h:w'.heap[b]? =w.heap[b]?):w'.cell? (ad3 b o)=w.cell? (ad3 b o):=by simp[World.cell?,h]
theorem dq {w w':World} {b o:Nat} (h:w'.heap[b]? =w.heap[b]?):w'.frozen? (ad3 b o)=w.frozen? (ad3 b o):=by simp[World.frozen?,h]
theorem DF.cell {b b' o:Nat} {w w':World} (h:DF b w w') (hb:b'≠b):w'.cell? (ad3 b' o)=w.cell? (ad3 b' o):=bw (h.other b' hb)
theorem DF.frozen {b b' o:Nat} {w w':World} (h:DF b w w') (hb:b'≠b):w'.frozen? (ad3 b' o)=w.frozen? (ad3 b' o):=dq (h.other b' hb)
theorem DF.room {b:Nat} {w w':World} (h:DF b w w'):Room w w':=fun b' o u h1 h2=>by
 by_cases e:b'=b
 · subst e
   exact⟨h.Ak o u h1,by rw[h.We o ⟨u,h1⟩];exact h2⟩
 · exact⟨⟨u,by rw[h.cell e];exact h1⟩,by rw[h.frozen e];exact h2⟩
theorem ml (w:World) (a:Addr) (v:Value) {b':Nat} (h:b'≠a.block):(w.setCell a v).heap[b']? =w.heap[b']? :=by
 simp only[World.setCell,Array.getElem?_modify];rw[if_neg (Ne.symm h)]
theorem gk (b:Nat):∀ (vs:List Value) (o:Nat) (w:World) {b':Nat},b'≠b→(w.setCells b o vs).heap[b']? =w.heap[b']?
 | [],_,_,_,_=>rfl
 |v::r,o,w,b',h=>by rw[World.setCells,gk b r (o+1) _ h,ml _ _ _ h]
theorem ke (b:Nat):∀ (vs:List Value) (o:Nat) (w:World),(w.setCells b o vs).heap.size=w.heap.size
 | [],_,_=>rfl
 |v::r,o,w=>by rw[World.setCells,ke b r,World.size_setCell]
theorem r8 (w:World) (a b:Addr) (v:Value) {u:Value} (h:w.cell? b=some u):∃ u',(w.setCell a v).cell? b=some u':=by
 by_cases e:a=b
 · subst e;exact⟨v,World.cell?_setCell_same _ _ _ h⟩
 · exact⟨u,by rw[World.cell?_setCell_other _ _ _ _ e];exact h⟩
theorem gy (b:Nat):∀ (vs:List Value) (o:Nat) (w:World) (p:Addr) {u:Value},w.cell? p=some u→∃ u',(w.setCells b o vs).cell? p=some u'
 | [],_,_,_,u,h=>⟨u,h⟩
 | v::r,o,w,p,u,h=>by
  obtain⟨u',h'⟩:=r8 w ⟨b,o,none⟩ p v h;exact gy b r (o+1) _ p h'
theorem ot (b:Nat):∀ (vs:List Value) (o:Nat) (w:World),B3 w (w.setCells b o vs)
 | [],_,_=> .refl _
 |v::r,o,w=>B3.trans (w':=w.setCell ⟨b,o,none⟩ v) ⟨rfl,rfl,rfl⟩ (ot b r (o+1) _)
theorem aof {w:World} (a:Addr) (v:Value) {b:Nat} (h:D2 w b):D2 (w.setCell a v) b:=by
 intro c e lo hi h1 h2;simp only[World.setCell,Array.getElem?_modify] at h1;split at h1
 · cases hw:w.heap[b]? with
   |none=>rw[hw] at h1;cases h1
   | some ob=>
    rw[hw] at h1;simp only[Option.map_some,Option.some.injEq] at h1;cases ob with
    | cells c' e' fr=>
     simp only[Obj.cells.injEq] at h1;obtain⟨h3,_,h4⟩:=h1;subst h4;have:=h c' e' lo hi hw h2;rw[← h3];split<;>simp[this]
    |_=>cases h1
 · exact h c e lo hi h1 h2
theorem pn (b:Nat) {b':Nat}:∀ (vs:List Value) (o:Nat) (w:World),D2 w b'→D2 (w.setCells b o vs) b'
 | [],_,_,h=>h
 |v::r,o,w,h=>pn b r (o+1) _ (aof _ v h)
def dV:Obj→Prop
 | .cells c _ (lo,hi)=>lo≠hi→c.size≤lo
 |_=>True
theorem ft (w:World) (b o:Nat) (vs:List Value):DF b w (w.setCells b o vs):=
 ⟨ke b vs o w,fun _ h=>gk b vs o w h,fun _ _=>World.frozen?_setCells b vs o w _,fun _ _ h=>gy b vs o w _ h,ot b vs o w,pn b vs o w⟩
theorem er (w:World) (b o:Nat) (v:Value):DF b w (w.setCell (ad3 b o) v):=ft w b o [v]
section
variable {cfg:Cfg} {x:Cx} {N:Nat} {s:Get} {a:Act} {w:World}
theorem Rel.FU (R:Rel cfg x N s a w) {b:Nat} {w':World} (hw:DF b w w'):∀ b',Ir (x.ow b')→D2 w' b':=fun b' h=>by
 by_cases e:b'=b
 · subst e;exact hw.B5 (R.B5 _ h)
 · exact(R.B5 _ h).heap (hw.other _ e)
theorem Rel.write (R:Rel cfg x N s a w) {l0:Loc} {nw:Bool} {z:Nat} {es:List D} (h0:s l0=some (.own nw z es))
   {b o len cap:Nat} (hv:Aa x a w l0=some (.slice (some (ad3 b o)) len cap)) (how:x.ow b=some (.at l0)) {w':World} (hw:DF b w w') {es':List D}
   (hA:Arr (AK x) w' b o cap z es') (hl:es'.length=es.length) (hlen:es.length=len) (hcap:len≤cap):
   Rel cfg x N (AN s [(l0,.own nw z es')]) a w':=by
 have hs':∀ l',AN s [(l0,.own nw z es')] l'=if l'=l0 then some (.own nw z es') else s l':=fun l'=>rfl
 have hB:∀ d j,(s (.cell ⟨d,j,0⟩)).isSome→(AN s [(l0,.own nw z es')] (.cell ⟨d,j,0⟩)).isSome∧x.ad d j=x.ad d j:=by
   intro d j h;rw[hs'];split<;>simp[h]
 have hcv:∀ l' v,s l'=some v→Aa x a w' l'=Aa x a w l':=fun l' v h=>by
   cases l' with
   |slot k=>rfl
   | cell c=>
     obtain⟨h1,_,_⟩:=R.box c v h;exact hw.cell (fun e=>by rw[e,how] at h1;cases h1)
 have hbn:∀ b',x.ow b'≠x.ow b→b'≠b:=fun b' h e=>h (e ▸ rfl)
 refine R.step [l0] R.size rfl rfl (fun b' hb'=>hw.size ▸ R.bound b' hb') (fun l' hl' v' h=> ?_) (fun l' hl' v' h=> ?_) (fun j hj=> ?_)
   (fun b1 o1 u h1 h2=>⟨h1,by rw[hw.cell (hbn b1 (by rw[h1,how];simp))];exact h2⟩) (fun b1 o1 u h1 h2=> ?_) (fun l' hl' z' es1 h=> ?_) hB (fun l1 hl1 b1 h1=>⟨h1,fun o1 u h=> ?_⟩) (fun c v' h=> ?_) (R.FU hw) (fun b1 h _=>⟨rfl,hw.other b1 (hbn b1 (by rcases h with h|h<;>rw[h,how]<;>simp))⟩)
 · have hne:l'≠l0:=by simpa using hl'
   rw[hs',if_neg hne] at h;exact⟨h,fun u hu=>by rw[hcv l' v' h];exact hu⟩
 · have he:l'=l0:=by simpa using hl'
   subst he;rw[hs',if_pos rfl] at h;cases h;exact⟨_,by rw[hcv _ _ h0];exact hv,.own _ b o len cap z nw es' how aa1 hcap hA⟩
 · have:l0= .slot j:=(ab9.1 hj).symm
   exact R.CD j _ (this ▸ h0)
 · by_cases e:b1=b
   · subst e
     exact⟨hw.Ak _ _ h1,by rw[hw.We _ ⟨u,h1⟩];exact h2⟩
   · exact⟨⟨u,by rw[hw.cell e];exact h1⟩,by rw[hw.frozen e];exact h2⟩
 · have he:l'=l0:=by simpa using hl'
   subst he;rw[hs',if_pos rfl] at h;cases h;exact⟨es,h0,hl.symm,fun b2 o2 L C hc=>⟨L,C,by rw[hcv _ _ h0];exact hc⟩⟩
 · have hne:l1≠l0:=by simpa using hl1
   rw[hw.cell (hbn b1 (by rw[h1,how];simp[hne]))]
   exact h
 · have key:∀ v0,s (.cell c)=some v0→x.ow (x.ad c.d c.k)=some (.box c.d c.k)∧(AN s [(l0,.own nw z es')] (.cell ⟨c.d,c.k,0⟩)).isSome∧w'.frozen? (ad3 (x.ad c.d c.k) c.off)=false:=fun v0 hv0=>by
     obtain⟨h1,h2,h3⟩:=R.box c v0 hv0;refine⟨h1,(hB _ _ h2).1,?_⟩;rw[hw.frozen (fun e=>by rw[e,how] at h1;cases h1)]
     exact h3
   rw[hs'] at h;split at h
   · rename_i e;exact key _ (e ▸ h0)
   · exact key _ h
theorem Fr.write {dep:Nat} {l0:Loc} {b:Nat} {w':World} (how:x.ow b=some (.at l0)) (hw:DF b w w'):Fr dep x x w w':=
 ⟨by rw[hw.size];exact abn _,fun b' _ h=>⟨hw.other b' (fun e=>by rw[e,how] at h;simp at h),rfl⟩,fun _ _ _=>rfl,hw.io,hw.room,rfl⟩
theorem Rel.EF (R:Rel cfg x N s a w) {c:Cel} {old:V} (h0:s (.cell c)=some old) {v:Value} {y:V} (hy:y.BC=false) {l:Option Loc}
   (hv:RdV x s (Aa x a w) w l v y):Rel cfg x N (AN s [(.cell c,y)]) a (w.setCell (ad3 (x.ad c.d c.k) c.off) v):=by
 obtain⟨hbx,hal,hfz⟩:=R.box c old h0;obtain⟨u0,hu0,_⟩:=R.Bj _ _ h0;have hu0':w.cell? (ad3 (x.ad c.d c.k) c.off)=some u0:=hu0;have hw:=er w (x.ad c.d c.k) c.off v;have hs':∀ l',AN s [(.cell c,y)] l'=if l'= .cell c then some y else s l':=fun l'=>rfl
 have hB:∀ d j,(s (.cell ⟨d,j,0⟩)).isSome→(AN s [(.cell c,y)] (.cell ⟨d,j,0⟩)).isSome∧x.ad d j=x.ad d j:=by
   intro d j h;rw[hs'];split<;>simp[h]
 have hcv:∀ l' v',s l'=some v'→l'≠ .cell c→Aa x a (w.setCell (ad3 (x.ad c.d c.k) c.off) v) l'=Aa x a w l':=fun l' v' h hne=>by
   cases l' with
   |slot k=>rfl
   | cell c'=>
     refine World.cell?_setCell_other _ _ _ _ (fun e=>hne ?_)
     simp only[Addr.mk.injEq,and_true] at e;obtain⟨h1,_,_⟩:=R.box c' v' h;rw[← e.1,hbx] at h1;obtain⟨c1,c2,c3⟩:=c;obtain⟨c1',c2',c3'⟩:=c';simp only[Option.some.injEq,Own.box.injEq] at h1;simp only at e;simp[h1.1,h1.2,e.2]
 have hbn:∀ b',x.ow b'≠some (.box c.d c.k)→b'≠x.ad c.d c.k:=fun b' h e=>h (by rw[e];exact hbx)
 have hS:∀ l' z es,AN s [(.cell c,y)] l'=some (.own false z es)→s l'=some (.own false z es)∧Aa x a (w.setCell (ad3 (x.ad c.d c.k) c.off) v) l'=Aa x a w l':=by
   intro l' z es h;rw[hs'] at h;split at h
   · cases h;simp[V.BC] at hy
   · rename_i hne;exact⟨h,hcv l' _ h hne⟩
 have hR:∀ b o u,w.cell? (ad3 b o)=some u→w.frozen? (ad3 b o)=false→(∃ u',(w.setCell (ad3 (x.ad c.d c.k) c.off) v).cell? (ad3 b o)=some u')∧(w.setCell (ad3 (x.ad c.d c.k) c.off) v).frozen? (ad3 b o)=false:=
   fun b o u h1 h2=>⟨r8 _ _ _ _ h1,by rw[World.frozen?_setCell];exact h2⟩
 have hc:∀ b o u,x.ow b=none→w.cell? (ad3 b o)=some u→x.ow b=none∧(w.setCell (ad3 (x.ad c.d c.k) c.off) v).cell? (ad3 b o)=some u:=
   fun b o u h1 h2=>⟨h1,by rw[hw.cell (hbn b (by rw[h1];simp))];exact h2⟩
 have hO:∀ (l0:Loc) b,x.ow b=some (.at l0)→x.ow b=some (.at l0)∧∀ o u,w.cell? (ad3 b o)=some u→(w.setCell (ad3 (x.ad c.d c.k) c.off) v).cell? (ad3 b o)=some u:=
   fun l0 b h=>⟨h,fun o u h'=>by rw[hw.cell (hbn b (by rw[h];simp))];exact h'⟩
 refine R.step [.cell c] R.size rfl rfl (fun b' hb'=>hw.size ▸ R.bound b' hb') (fun l' hl' v' h=> ?_) (fun l' hl' v' h=> ?_) (fun j hj=> ?_)
   hc hR (fun l' hl' z' es1 h=> ?_) hB (fun l1 _ b1 h1=>hO l1 b1 h1) (fun c' v' h=> ?_) (R.FU hw) (fun b1 h _=>⟨rfl,hw.other b1 (hbn b1 (by rcases h with h|h<;>rw[h]<;>simp))⟩)
 · have hne:l'≠ .cell c:=by simpa using hl'
   rw[hs',if_neg hne] at h;exact⟨h,fun u hu=>by rw[hcv l' v' h hne];exact hu⟩
 · have he:l'= .cell c:=by simpa using hl'
   subst he;rw[hs',if_pos rfl] at h;cases h;refine⟨v,World.cell?_setCell_same _ _ _ hu0',(hv.CZ hy).mono hc hR (fun l' z es h=> ?_) hB (fun l0 _ b h=>hO l0 b h)⟩
   obtain⟨h1,h2⟩:=hS l' z es h;exact⟨es,h1,rfl,fun b o L C hcv=>⟨L,C,by rw[h2];exact hcv⟩⟩
 · simp at hj
 · obtain⟨h1,h2⟩:=hS l' z' es1 h
   exact⟨es1,h1,rfl,fun b o L C hcv=>⟨L,C,by rw[h2];exact hcv⟩⟩
 · have key:∀ v0,s (.cell c')=some v0→x.ow (x.ad c'.d c'.k)=some (.box c'.d c'.k)∧(AN s [(.cell c,y)] (.cell ⟨c'.d,c'.k,0⟩)).isSome∧(w.setCell (ad3 (x.ad c.d c.k) c.off) v).frozen? (ad3 (x.ad c'.d c'.k) c'.off)=false:=fun v0 hv0=>by
     obtain⟨h1,h2,h3⟩:=R.box c' v0 hv0;exact⟨h1,(hB _ _ h2).1,by rw[World.frozen?_setCell];exact h3⟩
   rw[hs'] at h;split at h
   · rename_i e;cases e;exact key _ h0
   · exact key _ h
theorem Fr.EF {dep:Nat} {d k:Nat} (hb:x.ow (x.ad d k)=some (.box d k)) (o:Nat) (v:Value):Fr dep x x w (w.setCell (ad3 (x.ad d k) o) v):=
 ⟨by simp,fun b' _ h=>⟨ml _ _ _ (fun e=>by rw[show b'=x.ad d k from e,hb] at h;simp at h),rfl⟩,fun _ _ _=>rfl,⟨rfl,rfl,rfl⟩,(er w _ _ _).room,rfl⟩
theorem Rel.alloc (R:Rel cfg x N s a w) (ob:Obj) (o:Option Own) (hob:dV ob:=by simp[dV]):Rel cfg (x.AX w.heap.size o) N s a (w.alloc ob):=by
 have hlt:∀ b,x.ow b≠none→b≠w.heap.size:=fun b h e=>by have:=R.bound b h;omega
 have hold:∀ b o' u,w.cell? (ad3 b o')=some u→b≠w.heap.size:=fun b o' u h e=>by have:=World.block_lt_of_cell? _ _ h;simp at this;omega
 have hcell:∀ b o',b≠w.heap.size→(w.alloc ob).cell? (ad3 b o')=w.cell? (ad3 b o'):=fun b o' h=>World.cell?_alloc_old _ _ _ h
 have hcv:∀ l' v,s l'=some v→Aa (x.AX w.heap.size o) a (w.alloc ob) l'=Aa x a w l':=fun l' v h=>by
   cases l' with
   |slot k=>rfl
   | cell c=>
     obtain⟨h1,_,_⟩:=R.box c v h;exact hcell _ _ (hlt _ (by rw[Cx.Ds,h1];simp))
 refine R.step [] R.size rfl rfl (fun b' hb'=> ?_) (fun l' _ v' h=>⟨h,fun u hu=>by rw[hcv l' v' h];exact hu⟩) (fun l' hl'=>by simp at hl') (fun j hj=>by simp at hj)
   (fun b1 o1 u h1 h2=>⟨?_,by rw[hcell _ _ (hold b1 o1 u h2)];exact h2⟩) (fun b1 o1 u h1 h2=>⟨⟨u,by rw[hcell _ _ (hold b1 o1 u h1)];exact h1⟩,?_⟩) (fun l' hl'=>by simp at hl')
   (fun d k h=>⟨h,rfl⟩) (fun l1 _ b1 h1=>⟨?_,fun o1 u h=>by rw[hcell _ _ (hlt b1 (by rw[h1];simp))];exact h⟩) (fun c v' h=> ?_) (fun b1 h1=> ?_) (fun b1 h hlt'=>⟨Cx.AR _ _ aa1,by show(w.heap.push ob)[b1]? =_;rw[Array.getElem?_push,if_neg aa1]⟩)
 · by_cases e:b'=w.heap.size
   · subst e;simp
   · rw[Cx.AR _ _ e] at hb';have:=R.bound _ hb';simp;omega
 · rw[Cx.AR _ _ (hold b1 o1 u h2)];exact h1
 · rw[World.frozen?_alloc_old _ _ _ (hold b1 o1 u h1)];exact h2
 · rw[Cx.AR _ _ (hlt b1 (by rw[h1];simp))];exact h1
 · obtain⟨h1,h2,h3⟩:=R.box c v' h
   have hn:=hlt _ (by rw[h1];simp)
   exact⟨by rw[Cx.Ds,Cx.AR _ _ hn];exact h1,h2,by rw[Cx.Ds,World.frozen?_alloc_old _ _ _ hn];exact h3⟩
 · by_cases e:b1=w.heap.size
   · subst e
     intro c t lo hi h2;have h3:(w.heap.push ob)[w.heap.size]? =some (.cells c t (lo,hi)):=h2;rw[Array.getElem?_push,if_pos rfl] at h3;cases h3;exact hob
   · rw[Cx.AR _ _ e] at h1
     have hlt':=R.bound b1 (by rcases h1 with h1|⟨_,h1⟩<;>rw[h1]<;>simp)
     refine(R.B5 b1 h1).heap ?_;show(w.heap.push ob)[b1]? =_;rw[Array.getElem?_push,if_neg aa1]
theorem Fr.alloc {dep:Nat} (ob:Obj) (o:Option Own):Fr dep x (x.AX w.heap.size o) w (w.alloc ob):=
 ⟨by simp,fun b' hb _=>⟨heap_alloc_lt w ob hb,Cx.AR _ _ aa1⟩,fun _ _ _=>rfl,⟨rfl,rfl,rfl⟩,fun b' o' u h1 h2=>
  have hne:b'≠w.heap.size:=fun e=>by have:=World.block_lt_of_cell? _ _ h1;simp[e] at this
  ⟨⟨u,by rw[World.cell?_alloc_old _ _ _ hne];exact h1⟩,by rw[World.frozen?_alloc_old _ _ _ hne];exact h2⟩,rfl⟩
where
 heap_alloc_lt (w:World) (ob:Obj) {b:Nat} (h:b<w.heap.size):(w.alloc ob).heap[b]? =w.heap[b]? :=by
  show(w.heap.push ob)[b]? =_;rw[Array.getElem?_push,if_neg aa1]
theorem Rel.drew (R:Rel cfg x N s a w):Rel cfg x N s a w.drew:=
 R.step [] R.size rfl rfl R.bound (fun l' _ v' h=>⟨h,fun u hu=>by cases l'<;>exact hu⟩) (fun l' hl'=>by simp at hl') (fun j hj=>by simp at hj)
  (fun b o u h1 h2=>⟨h1,h2⟩) (fun b o u h1 h2=>⟨⟨u,h1⟩,h2⟩) (fun l' hl'=>by simp at hl') (fun d k h=>⟨h,rfl⟩) (fun l0 _ b h=>⟨h,fun _ _ h=>h⟩)
  (fun c v h=>R.box c v h) (fun b h=>(R.B5 b h).heap rfl) (fun _ _ _=>⟨rfl,rfl⟩)
theorem Fr.drew {dep:Nat}:Fr dep x x w w.drew:=⟨abn _,fun _ _ _=>⟨rfl,rfl⟩,fun _ _ _=>rfl,⟨rfl,rfl,rfl⟩,fun _ _ u h1 h2=>⟨⟨u,h1⟩,h2⟩,rfl⟩
def Cx.lay (x:Cx) (d k b:Nat):Cx:={x with ad:=fun d' k'=>if d'=d∧k'=k then b else x.ad d' k'}
@[simp] theorem Cx.EI (x:Cx) (d k b:Nat):(x.lay d k b).ad d k=b:=by simp[Cx.lay]
theorem Cx.Hc (x:Cx) {d k b d' k':Nat} (h:¬ (d'=d∧k'=k)):(x.lay d k b).ad d' k'=x.ad d' k':=by simp[Cx.lay,h]
@[simp] theorem Cx.lay_ow (x:Cx) (d k b:Nat):(x.lay d k b).ow=x.ow:=rfl
theorem Rel.lay (R:Rel cfg x N s a w) {d k:Nat} (h0:s (.cell ⟨d,k,0⟩)=none) (b:Nat):Rel cfg (x.lay d k b) N s a w:=by
 have hne:∀ c v,s (.cell c)=some v→(x.lay d k b).ad c.d c.k=x.ad c.d c.k:=fun c v h=>Cx.Hc _ (fun e=>by
   obtain⟨_,h2,_⟩:=R.box c v h;rw[e.1,e.2,h0] at h2;simp at h2)
 refine R.step [] R.size rfl rfl R.bound (fun l' _ v' h=>⟨h,fun u hu=> ?_⟩) (fun l' hl'=>by simp at hl') (fun j hj=>by simp at hj)
   (fun b o u h1 h2=>⟨h1,h2⟩) (fun b o u h1 h2=>⟨⟨u,h1⟩,h2⟩) (fun l' hl'=>by simp at hl') (fun d' k' h=>⟨h,?_⟩) (fun l0 _ b h=>⟨h,fun _ _ h=>h⟩) (fun c v h=> ?_) R.B5 (fun _ _ _=>⟨rfl,rfl⟩)
 · cases l' with
   |slot k=>exact hu
   |cell c=>simp only[Aa,hne c v' h] at hu ⊢;exact hu
 · obtain⟨v,hv⟩:=abq.1 h;exact hne ⟨d',k',0⟩ v hv
 · rw[hne c v h];exact R.box c v h
theorem Fr.lay {dep d k b:Nat} (h:dep≤d):Fr dep x (x.lay d k b) w w:=⟨abn _,fun _ _ _=>⟨rfl,rfl⟩,fun d' k' hd=>Cx.Hc _ aa1,.refl _,.refl _,rfl⟩
theorem Rel.S5 (R:Rel cfg x N s a w) {c:Cel} (hb:x.ow (x.ad c.d c.k)=some (.box c.d c.k)) (hal:c.off=0∨(s (.cell ⟨c.d,c.k,0⟩)).isSome)
   (hf:w.frozen? (ad3 (x.ad c.d c.k) c.off)=false) {v:Value} (hcell:w.cell? (ad3 (x.ad c.d c.k) c.off)=some v) {y:V} (hy:y.BC=false) {l:Option Loc}
   (hv:RdV x s (Aa x a w) w l v y):Rel cfg x N (AN s [(.cell c,y)]) a w:=by
 have hs':∀ l',AN s [(.cell c,y)] l'=if l'= .cell c then some y else s l':=fun l'=>rfl
 have hB:∀ d j,(s (.cell ⟨d,j,0⟩)).isSome→(AN s [(.cell c,y)] (.cell ⟨d,j,0⟩)).isSome∧x.ad d j=x.ad d j:=by
   intro d j h;rw[hs'];split<;>simp[h]
 have hS:∀ l' z es,AN s [(.cell c,y)] l'=some (.own false z es)→s l'=some (.own false z es):=by
   intro l' z es h;rw[hs'] at h;split at h
   · cases h;simp[V.BC] at hy
   · exact h
 have h00:(AN s [(.cell c,y)] (.cell ⟨c.d,c.k,0⟩)).isSome:=by
   rcases hal with h|h
   · rw[hs',if_pos (by obtain⟨c1,c2,c3⟩:=c;simp at h;simp[h])];rfl
   · exact(hB _ _ h).1
 refine R.step [.cell c] R.size rfl rfl R.bound (fun l' hl' v' h=> ?_) (fun l' hl' v' h=> ?_) (fun j hj=>by simp at hj)
   (fun b o u h1 h2=>⟨h1,h2⟩) (fun b o u h1 h2=>⟨⟨u,h1⟩,h2⟩) (fun l' hl' z es h=> ?_) hB (fun l0 _ b h=>⟨h,fun _ _ h=>h⟩) (fun c' v' h=> ?_) R.B5 (fun _ _ _=>⟨rfl,rfl⟩)
 · have hne:l'≠ .cell c:=by simpa using hl'
   rw[hs',if_neg hne] at h;exact⟨h,fun u hu=>hu⟩
 · have he:l'= .cell c:=by simpa using hl'
   subst he;rw[hs',if_pos rfl] at h;cases h;refine⟨v,hcell,(hv.CZ hy).mono (fun b o u h1 h2=>⟨h1,h2⟩) (fun b o u h1 h2=>⟨⟨u,h1⟩,h2⟩) (fun l' z es h=> ?_) hB (fun l0 _ b h=>⟨h,fun _ _ h=>h⟩)⟩
   exact⟨es,hS l' z es h,rfl,fun b o L C hcv=>⟨L,C,hcv⟩⟩
 · exact⟨es,hS l' z es h,rfl,fun b o L C hcv=>⟨L,C,hcv⟩⟩
 · rw[hs'] at h
   split at h
   · rename_i e;cases e;exact⟨hb,h00,hf⟩
   · obtain⟨h1,h2,h3⟩:=R.box c' v' h
     exact⟨h1,(hB _ _ h2).1,h3⟩
theorem Rel.reown (R:Rel cfg x N s a w) {l0 l1:Loc} (hne:l0≠l1) {nw:Bool} {z:Nat} {es:List D} (h0:s l0=some (.own nw z es)) {y1:V} (h1:s l1=some y1)
   {b:Nat} (how:x.ow b=some (.at l0)) {o len cap:Nat} (hv1:Aa x a w l1=some (.slice (some (ad3 b o)) len cap)) {es':List D} (hA:Arr (AK x) w b o cap z es') (hl:es'.length=len) (hcap:len≤cap):
   Rel cfg (x.AX b (some (.at l1))) N (AN s [(l1,.own true z es'),(l0,.AY)]) a w:=by
 have hs':∀ l',AN s [(l1,.own true z es'),(l0,.AY)] l'=if l'=l0 then some .AY else if l'=l1 then some (.own true z es') else s l':=fun l'=>rfl
 have hx:∀ b',x.ow b'=none→(x.AX b (some (.at l1))).ow b'=none:=fun b' h=>by
   rw[Cx.AR];· exact h
   intro e;rw[e,how] at h;cases h
 have hB:∀ d j,(s (.cell ⟨d,j,0⟩)).isSome→(AN s [(l1,.own true z es'),(l0,.AY)] (.cell ⟨d,j,0⟩)).isSome∧(x.AX b (some (.at l1))).ad d j=x.ad d j:=by
   intro d j h;rw[hs'];split
   · simp
   · split<;>simp[h]
 have hcv:∀ l',Aa (x.AX b (some (.at l1))) a w l'=Aa x a w l':=fun l'=>by cases l'<;>rfl
 have hpl:∀ j,Loc.slot j∈[l1,l0]→j<N:=fun j hj=>by
   simp only[abr,ach,or_false] at hj;rcases hj with hj|hj
   · exact R.CD j _ (hj ▸ h1)
   · exact R.CD j _ (hj ▸ h0)
 refine R.step [l1,l0] R.size rfl rfl (fun b' hb'=> ?_) (fun l' hl' v' h=> ?_) (fun l' hl' v' h=> ?_) hpl
   (fun b o u h1 h2=>⟨hx b h1,h2⟩) (fun b o u h1 h2=>⟨⟨u,h1⟩,h2⟩) (fun l' hl' z es h=> ?_) hB (fun l2 hl2 b2 h2=>⟨?_,fun _ _ h=>h⟩) (fun c v' h=> ?_) (R.Cb (fun _=> .inr ⟨_,how⟩)) (fun b' h _=>⟨Cx.AR _ _ (fun e=>by subst e;rw[how] at h;rcases h with h|h<;>cases h),rfl⟩)
 · by_cases e:b'=b
   · subst e;exact R.bound _ (by rw[how];simp)
   · rw[Cx.AR _ _ e] at hb';exact R.bound _ hb'
 · simp only[abr,ach,or_false,not_or] at hl'
   rw[hs',if_neg hl'.2,if_neg hl'.1] at h;exact⟨h,fun u hu=>by rw[hcv];exact hu⟩
 · rw[hs'] at h
   simp only[abr,ach,or_false] at hl';by_cases e:l'=l0
   · rw[if_pos e] at h
     cases h;obtain⟨u,hu,_⟩:=R.Bj l0 _ h0;exact⟨u,by rw[e,hcv];exact hu,.AY _ _⟩
   · rw[if_neg e] at h
     rcases hl' with hl'|hl'
     · subst hl'
       rw[if_pos rfl] at h;cases h;exact⟨_,by rw[hcv];exact hv1,.own _ b o len cap z true es' aa3 hl hcap (hA.mono (fun b o u h1 h2=>⟨hx b h1,h2⟩) (fun _ _ h=>h) (fun _ _ _ h=>h))⟩
     · exact absurd hl' e
 · rw[hs'] at h
   split at h
   · cases h
   · split at h
     · cases h
     · simp_all
 · simp only[abr,ach,or_false,not_or] at hl2
   rw[Cx.AR];· exact h2
   intro e;rw[e,how] at h2;cases h2;exact hl2.2 rfl
 · have key:∀ v0,s (.cell c)=some v0→(x.AX b (some (.at l1))).ow (x.ad c.d c.k)=some (.box c.d c.k)∧
       (AN s [(l1,.own true z es'),(l0,.AY)] (.cell ⟨c.d,c.k,0⟩)).isSome∧w.frozen? (ad3 (x.ad c.d c.k) c.off)=false:=fun v0 hv0=>by
     obtain⟨h1,h2,h3⟩:=R.box c v0 hv0;refine⟨?_,(hB _ _ h2).1,h3⟩;rw[Cx.AR];· exact h1
     intro e;rw[e,how] at h1;cases h1
   rw[hs'] at h;split at h
   · rename_i e;exact key _ (e ▸ h0)
   · split at h
     · rename_i e;exact key _ (e ▸ h1)
     · exact key _ h
theorem Rel.W8 (R:Rel cfg x N s a w) {l1:Loc} {y1:V} (h1:s l1=some y1) {b:Nat} (how:x.ow b=some (.at l1)) {o len cap z:Nat}
   (hv1:Aa x a w l1=some (.slice (some (ad3 b o)) len cap)) {es':List D} (hA:Arr (AK x) w b o cap z es') (hl:es'.length=len) (hcap:len≤cap):
   Rel cfg x N (AN s [(l1,.own true z es')]) a w:=by
 have hs':∀ l',AN s [(l1,.own true z es')] l'=if l'=l1 then some (.own true z es') else s l':=fun l'=>rfl
 have hB:∀ d j,(s (.cell ⟨d,j,0⟩)).isSome→(AN s [(l1,.own true z es')] (.cell ⟨d,j,0⟩)).isSome∧x.ad d j=x.ad d j:=by
   intro d j h;rw[hs'];split<;>simp[h]
 refine R.step [l1] R.size rfl rfl R.bound (fun l' hl' v' h=> ?_) (fun l' hl' v' h=> ?_) (fun j hj=> ?_)
   (fun b o u h1 h2=>⟨h1,h2⟩) (fun b o u h1 h2=>⟨⟨u,h1⟩,h2⟩) (fun l' hl' z es h=> ?_) hB (fun l0 _ b h=>⟨h,fun _ _ h=>h⟩) (fun c v' h=> ?_) R.B5 (fun _ _ _=>⟨rfl,rfl⟩)
 · have hne:l'≠l1:=by simpa using hl'
   rw[hs',if_neg hne] at h;exact⟨h,fun u hu=>hu⟩
 · have he:l'=l1:=by simpa using hl'
   subst he;rw[hs',if_pos rfl] at h;cases h;exact⟨_,hv1,.own _ b o len cap z true es' how hl hcap hA⟩
 · have:l1= .slot j:=(ab9.1 hj).symm
   exact R.CD j _ (this ▸ h1)
 · have he:l'=l1:=by simpa using hl'
   subst he;rw[hs',if_pos rfl] at h;cases h
 · have key:∀ v0,s (.cell c)=some v0→x.ow (x.ad c.d c.k)=some (.box c.d c.k)∧
      (AN s [(l1,.own true z es')] (.cell ⟨c.d,c.k,0⟩)).isSome∧w.frozen? (ad3 (x.ad c.d c.k) c.off)=false:=fun v0 hv0=>by
     obtain⟨h1,h2,h3⟩:=R.box c v0 hv0;exact⟨h1,(hB _ _ h2).1,h3⟩
   rw[hs'] at h;split at h
   · rename_i e;exact key _ (e ▸ h1)
   · exact key _ h
end
