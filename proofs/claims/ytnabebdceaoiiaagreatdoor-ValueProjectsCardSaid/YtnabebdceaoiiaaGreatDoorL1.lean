/- The evaluator of Go code and its proofs, part 1. Own work. -/
import Derived.Calls
set_option linter.unusedVariables false
set_option linter.unusedSimpArgs false
set_option linter.unusedSectionVars false
/-! EvA -/
/- The evaluator's data, its small code and its rules: own work. Definitions only. -/
namespace Go.Ev

/-- Immutable data, as a tree. -/
inductive D where
  | bool (b : Bool)
  | int (k : IntKind) (n : Int)
  | str (s : List UInt8)
  | nilS | nilP | nilI | nilF | nilM
  | sl (es : List D)
  | agg (cs : List D)
  | ptr (e : D)
  | ifc (t : TypeId) (d : D)
  | fn (f : FuncId)
  | tup (ds : List D)
  /-- a cell of which nothing is known -/
  | unk
  /-- a truth value of which nothing is known -/
  | unkB
  deriving Inhabited

def D.cells : D → List D
  | .agg cs => cs
  | d => [d]

/-- the value of one cell -/
def D.isCell : D → Bool
  | .agg _ | .tup _ => false
  | _ => true

/-- what may be stored -/
def D.storable : D → Bool
  | .tup _ => false
  | _ => true

structure Cel where
  d : Nat
  k : Nat
  off : Nat
  deriving DecidableEq

inductive Loc where
  | slot (k : Nat)
  | cell (c : Cel)
  deriving DecidableEq

/-- What a slot or a cell of the call's own holds. -/
inductive V where
  | d (x : D)
  /-- the only road to an array of its own; 'new': placed in this region -/
  | own (new : Bool) (z : Nat) (es : List D)
  /-- a piece of the array that the place l owns -/
  | bor (l : Loc) (off len : Nat)
  /-- the address of a cell of element i of the array that the place l owns -/
  | bref (l : Loc) (i off : Nat)
  /-- the address of a cell of immutable data -/
  | iptr (e : D) (off : Nat)
  /-- the address of a cell of a box -/
  | ref (d k off : Nat)
  | clo (f : FuncId) (first captured : List V)
  | ifc (t : TypeId) (v : V)
  /-- a slice over an array that nobody writes, of values that lead to memory -/
  | vec (ys : List V)
  /-- the address of a cell of such an array -/
  | vref (y : V)
  /-- a struct whose cells may be the only roads to arrays of the call's own -/
  | rcd (ys : List V)
  | junk
  deriving Inhabited

inductive IOpd where
  | t (k : Nat)
  | c (x : D)
  | g (n : Nat)

/-- of which kind a type is whose values are held against each other -/
inductive ECls where
  | bool | ptr | func | iface
  /-- structs, held against each other cell by cell; the cells' kinds -/
  | agg (ks : List Nat)

inductive IOp where
  | mv (x : IOpd)
  | asg (x : IOpd)
  | pick (c a b : IOpd)
  | alloc (zs : List D)
  | box (n : Nat) (x : IOpd)
  | build (zs : List D) (ps : List (Nat × Nat × IOpd))
  /-- a struct of cells, all of them given, whose arrays stay the call's own -/
  | buildR (n : Nat) (ps : List (Nat × Nat × IOpd))
  | lit (own : Bool) (z n : Nat) (zd : D) (ps : List (Nat × IOpd))
  | load (z : Option Nat) (a : IOpd)
  | store (n : Nat) (a x : IOpd)
  | nilck (x : IOpd)
  | bin (op : BinOp) (x y : IOpd)
  | eqn (neg : Bool) (cls : ECls) (x y : IOpd)
  /-- a slice against nil -/
  | isNil (neg : Bool) (x : IOpd)
  | un (op : UnOp) (x : IOpd)
  | cvInt (k : IntKind) (x : IOpd)
  | cvStr (x : IOpd)
  | b2s (x : IOpd)
  | s2b (own : Bool) (x : IOpd)
  | cvB (own : Bool) (x : IOpd)
  | mkI (t : TypeId) (x : IOpd)
  | mkF (f : FuncId) (first captured : List IOpd)
  | mkS (z bytes : Nat) (zd : D) (len cap : IOpd)
  | slice (z : Nat) (x : IOpd) (lo hi mx : Option IOpd)
  | sliceS (x : IOpd) (lo hi : Option IOpd)
  | fieldA (off : Nat) (x : IOpd)
  | field (off : Nat) (z : Option Nat) (x : IOpd)
  | idxA (z : Nat) (x i : IOpd)
  | idxS (x i : IOpd)
  | idxC (n z : Nat) (g : Bool) (x i : IOpd)
  /-- the address of an element of an array that lies behind an address -/
  | idxB (n z : Nat) (x i : IOpd)
  | ext (x : IOpd) (i : Nat)
  | len (isS : Bool) (x : IOpd)
  | minmax (mx : Bool) (xs : List IOpd)
  | append (z bytes : Nat) (x y : IOpd)
  | appendS (x y : IOpd)
  | copy (z : Nat) (x y : IOpd)
  | tass (t : TypeId) (zero : D) (ok : Bool) (x : IOpd)
  | call (own : Bool) (f : FuncId) (args : List IOpd)
  /-- a call that is given the array of argument i -/
  | callg (own : Bool) (f : FuncId) (args : List IOpd) (i : Nat)
  | callv (own : Bool) (x : IOpd) (args : List IOpd)
  | inv (own : Bool) (x : IOpd) (name : String) (args : List IOpd)
  | bad

structure IOper where
  dst : Option Nat
  guard : Option (Nat × Bool)
  op : IOp

inductive ICode where
  | skip
  | region (ops : List IOper) (unord : List (Nat × Nat)) (keep : List Nat)
  | seq (a b : ICode)
  | cond (x : IOpd) (a b : ICode)
  | block (id : Nat) (b : ICode)
  | loop (b : ICode)
  /-- a range over a function: of which value, into which slots -/
  | each (x : IOpd) (ps : List Nat) (a b : ICode)
  | exit (id : Nat)
  | ret
  | demote (ls : List Nat)
  /-- arrays in boxes that are no longer written: the boxes' slots -/
  | give (ls : List Nat)
  | free (k : Nat)
  | bad

inductive IRes where
  | t (k : Nat)
  | cell (k : Nat) (z : Option Nat)

structure IFunc where
  arity : Nat
  results : List IRes
  body : ICode

/-- What is known of the program besides its code. -/
structure Cfg where
  funcs : FuncId → Option IFunc
  meth : TypeId → String → Option FuncId
  glob : Nat → Option D
  /-- objects of package-level variables that stay as they are -/
  gobj : Nat → Option (Array Value) := fun _ => none
  /-- types whose values of integer kind are compared as such in interface values -/
  intTy : TypeId → Bool
  /-- functions that hand their one argument back, a slice, with no more room than it is long -/
  clip : FuncId → Bool
  /-- functions that are taken by their contracts -/
  ext : FuncId → Option (List D → Option V)
  /-- functions that are ranged over: what they tell, by what they have captured -/
  iter : FuncId → Option (List D → Option (List (List D))) := fun _ => none

section maps
variable {α : Type} [DecidableEq α] {β : Type}
def lk : List (α × β) → α → Option β
  | [], _ => none
  | (k', v) :: r, k => if k' = k then some v else lk r k
def st : List (α × β) → α → β → List (α × β)
  | [], k, v => [(k, v)]
  | (k', v') :: r, k, v => if k' = k then (k, v) :: r else (k', v') :: st r k v
end maps

structure St where
  env : List (Nat × V)
  mem : List (Cel × V)

def St.get (s : St) : Loc → Option V
  | .slot k => lk s.env k
  | .cell c => lk s.mem c

def St.set (s : St) (l : Loc) (v : V) : St :=
  match l with
  | .slot k => { s with env := st s.env k v }
  | .cell c => { s with mem := st s.mem c v }

def St.upd (s : St) : List (Loc × V) → St
  | [] => s
  | (l, v) :: r => (s.set l v).upd r

abbrev Get := Loc → Option V

/-- most elements of an array of the call's own -/
def ax : Nat := 2 ^ 36
def aoc : Nat := 2 ^ 60

def val (cfg : Cfg) (s : Get) : IOpd → Option V
  | .t k => s (.slot k)
  | .c x => some (.d x)
  | .g n => (cfg.glob n).map fun e => .iptr e 0

/-- a slice's elements -/
def cont (s : Get) : V → Option (List D)
  | .d .nilS => some []
  | .d (.sl es) => some es
  | .own _ _ es => some es
  | .bor l off n => match s l with
    | some (.own false _ es) => some ((es.drop off).take n)
    | _ => none
  | _ => none

/-- nil slices are told as empty ones -/
def D.can : D → D
  | .nilS => .sl []
  | d => d
def D.canA : D → D
  | .agg cs => .agg (cs.map D.can)
  | d => d.can
def D.canon : D → D
  | .tup cs => .tup (cs.map D.canA)
  | d => d.canA

def V.asD : V → Option D
  | .d x => some x.canon
  | .iptr e 0 => some (.ptr e)
  | _ => none

/-- an operand as data; arrays of the call's own don't count -/
def dat (cfg : Cfg) (s : Get) (x : IOpd) : Option D := (val cfg s x).bind V.asD

def dats (cfg : Cfg) (s : Get) : List IOpd → Option (List D)
  | [] => some []
  | x :: r => match dat cfg s x, dats cfg s r with
    | some d, some ds => some (d :: ds)
    | _, _ => none

def put1 (dst : Option Nat) (v : V) : List (Loc × V) :=
  match dst with
  | some k => [(.slot k, v)]
  | none => []

def setCells (cs : List D) (off : Nat) : List D → List D
  | [] => cs
  | x :: r => setCells (cs.set off x) (off + 1) r

def fillD (cs : List D) : List (Nat × Nat × D) → Option (List D)
  | [] => some cs
  | (off, size, x) :: r =>
    if x.cells.length = size ∧ off + size ≤ cs.length ∧ x.storable then fillD (setCells cs off x.cells) r else none

def fillE (z : Nat) (es : List D) : List (Nat × D) → Option (List D)
  | [] => some es
  | (i, x) :: r => if x.cells.length = z ∧ i < es.length ∧ x.storable then fillE z (es.set i x) r else none

def ldD (z : Option Nat) (e : D) (off : Nat) : Option D :=
  match z with
  | none => e.cells[off]?
  | some z => if off + z ≤ e.cells.length then some (.agg ((e.cells.drop off).take z)) else none

def az (op : BinOp) (k : IntKind) (a : Int) (k' : IntKind) (b : Int) : Option D :=
  match op with
  | .shl => if b < 0 then none else some (.int k (k.wrap (a * 2 ^ (min b.toNat k.bits))))
  | .shr => if b < 0 then none else some (.int k (a.fdiv (2 ^ (min b.toNat k.bits))))
  | .add => if k = k' then some (.int k (k.wrap (a + b))) else none
  | .sub => if k = k' then some (.int k (k.wrap (a - b))) else none
  | .mul => if k = k' then some (.int k (k.wrap (a * b))) else none
  | .quo => if k = k' ∧ b ≠ 0 then some (.int k (k.wrap (a.tdiv b))) else none
  | .rem => if k = k' ∧ b ≠ 0 then some (.int k (a.tmod b)) else none
  | .and => if k = k' then some (.int k (k.wrap (BitVec.ofInt k.bits a &&& BitVec.ofInt k.bits b).toNat)) else none
  | .or => if k = k' then some (.int k (k.wrap (BitVec.ofInt k.bits a ||| BitVec.ofInt k.bits b).toNat)) else none
  | .xor => if k = k' then some (.int k (k.wrap (BitVec.ofInt k.bits a ^^^ BitVec.ofInt k.bits b).toNat)) else none
  | .andNot => if k = k' then some (.int k (k.wrap (BitVec.ofInt k.bits a &&& ~~~ BitVec.ofInt k.bits b).toNat)) else none
  | .eql => if k = k' then some (.bool (a == b)) else none
  | .neq => if k = k' then some (.bool (a != b)) else none
  | .lss => if k = k' then some (.bool (decide (a < b))) else none
  | .leq => if k = k' then some (.bool (decide (a ≤ b))) else none
  | .gtr => if k = k' then some (.bool (decide (a > b))) else none
  | .geq => if k = k' then some (.bool (decide (a ≥ b))) else none

def dl (op : BinOp) (a b : List UInt8) : Option D :=
  match op with
  | .add => if a.length + b.length ≤ aoc then some (.str (a ++ b)) else none
  | .eql => some (.bool (a == b))
  | .neq => some (.bool !(a == b))
  | .lss => some (.bool (_root_.Go.Op.bytesLess a b))
  | .leq => some (.bool (_root_.Go.Op.bytesLess a b || a == b))
  | .gtr => some (.bool !(_root_.Go.Op.bytesLess a b || a == b))
  | .geq => some (.bool !(_root_.Go.Op.bytesLess a b))
  | _ => none

def D.bin (op : BinOp) : D → D → Option D
  | .int k a, .int k' b => az op k a k' b
  | .str a, .str b => dl op a b
  | _, _ => none

/-- cells held against each other -/
def o5 : Nat → D → D → Option Bool
  | 0, .int k a, .int k' b => if k = k' then some (a == b) else none
  | 1, .bool a, .bool b => some (a == b)
  | 2, .str a, .str b => some (a == b)
  | _, _, _ => none
def co : List Nat → List D → List D → Option Bool
  | [], [], [] => some true
  | n :: ns, a :: r, b :: r' => match o5 n a b, co ns r r' with
    | some t, some t' => some (t && t')
    | _, _ => none
  | _, _, _ => none

/-- '==' where it needs a type -/
def D.eqn (cfg : Cfg) : ECls → D → D → Option Bool
  | .bool, .bool a, .bool b => some (a == b)
  | .ptr, .nilP, .nilP => some true
  | .ptr, .nilP, .ptr _ => some false
  | .ptr, .ptr _, .nilP => some false
  | .agg ks, .agg xs, .agg ys => co ks xs ys
  | .func, .nilF, .nilF => some true
  | .func, .nilF, .fn _ => some false
  | .func, .fn _, .nilF => some false
  | .iface, .nilI, .ifc _ _ => some false
  | .iface, .ifc _ _, .nilI => some false
  | .iface, .ifc t a, .ifc u b => if t ≠ u then some false else match a, b with
    | .int k a, .int k' b => if cfg.intTy t ∧ k = k' then some (a == b) else none
    | _, _ => none
  | _, _, _ => none

def V.eqn (cfg : Cfg) : ECls → V → V → Option Bool
  | c, .d a, .d b => a.eqn cfg c b
  | .ptr, .ref _ _ _, .d .nilP => some false
  | .ptr, .iptr _ _, .d .nilP => some false
  | .ptr, .bref _ _ _, .d .nilP => some false
  | .func, .clo _ _ _, .d .nilF => some false
  | .iface, .ifc _ _, .d .nilI => some false
  | _, _, _ => none

def g9 (neg : Bool) : V → Option D
  | .d .nilS | .d (.sl []) => some .unkB
  | .d (.sl (_ :: _)) | .own _ _ _ | .bor _ _ _ => some (.bool neg)
  | _ => none

def D.un (op : UnOp) : D → Option D
  | .int k n => match op with
    | .neg => some (.int k (k.wrap (0 - n)))
    | .xor => some (.int k (k.wrap (BitVec.ofInt k.bits (if k.signed then -1 else k.max) ^^^ BitVec.ofInt k.bits n).toNat))
    | _ => none
  | .bool b => match op with
    | .not => some (.bool !b)
    | _ => none
  | _ => none

def D.byte? : D → Option UInt8
  | .int .u8 n => some (UInt8.ofNat n.toNat)
  | _ => none

def bu : List D → Option (List UInt8)
  | [] => some []
  | x :: r => match x.byte?, bu r with
    | some b, some bs => some (b :: bs)
    | _, _ => none

def byteD (b : UInt8) : D := .int .u8 b.toNat

def D.toInt? : D → Option Int
  | .int _ n => some n
  | _ => none

def minD (mx : Bool) : List D → Option D
  | [] => none
  | .int k a :: r => go k a r
  | _ => none
where
  go (k : IntKind) (a : Int) : List D → Option D
    | [] => some (.int k a)
    | .int _ b :: r => go k (if mx then (if b > a then b else a) else (if b < a then b else a)) r
    | _ => none

/-- bounds of a slice expression without a third index -/
def a8 (cfg : Cfg) (s : Get) (len : Nat) (lo hi : Option IOpd) : Option (Nat × Nat) :=
  let h? : Option Nat := match hi with
    | none => some len
    | some x => match (dat cfg s x).bind D.toInt? with
      | some n => if 0 ≤ n ∧ n ≤ len then some n.toNat else none
      | none => none
  match h? with
  | none => none
  | some h => match lo with
    | none => some (0, h)
    | some x => match (dat cfg s x).bind D.toInt? with
      | some n => if 0 ≤ n ∧ n ≤ h then some (n.toNat, h) else none
      | none => none

end Go.Ev

/-! EvB -/
/- The evaluator: one operation, a region, code, a function. Own work. -/
namespace Go.Ev

def allZ (z : Nat) : List D → Bool
  | [] => true
  | e :: r => e.cells.length == z && allZ z r

def vals (cfg : Cfg) (s : Get) : List IOpd → Option (List V)
  | [] => some []
  | x :: r => match val cfg s x, vals cfg s r with
    | some v, some vs => some (v :: vs)
    | _, _ => none

def cg (dep k : Nat) : Nat → List V → List (Loc × V)
  | _, [] => []
  | off, v :: r => (.cell ⟨dep, k, off⟩, v) :: cg dep k (off + 1) r

/-- the cells of a box as data; arrays that they own are given up -/
def b4 (s : Get) (d k off : Nat) : Nat → Option (List D × List (Loc × V))
  | 0 => some ([], [])
  | n + 1 => match s (.cell ⟨d, k, off⟩), b4 s d k (off + 1) n with
    | some (.d x), some (r, u) => if x.isCell then some (x.can :: r, u) else none
    | some (.iptr e 0), some (r, u) => some (.ptr e :: r, u)
    | some (.own _ _ es), some (r, u) => some (.sl es :: r, (.cell ⟨d, k, off⟩, .d (.sl es)) :: u)
    | _, _ => none

def alive (s : Get) (d k off : Nat) : Nat → Bool
  | 0 => true
  | n + 1 => (s (.cell ⟨d, k, off⟩)).isSome && alive s d k (off + 1) n

def ce (cfg : Cfg) (s : Get) : List (Nat × Nat × IOpd) → Option (List (Nat × Nat × D))
  | [] => some []
  | (o, n, x) :: r => match dat cfg s x, ce cfg s r with
    | some d, some ds => some ((o, n, d) :: ds)
    | _, _ => none

def dn (cfg : Cfg) (s : Get) : List (Nat × IOpd) → Option (List (Nat × D))
  | [] => some []
  | (i, x) :: r => match dat cfg s x, dn cfg s r with
    | some d, some ds => some ((i, d) :: ds)
    | _, _ => none

/-- what may be handed on as it is -/
def V.plainV : V → Bool
  | .d _ | .iptr _ _ | .ref _ _ _ | .clo _ _ _ | .ifc _ _ => true
  | _ => false

def evMv (dst : Option Nat) (x : IOpd) (v : V) : Option (List (Loc × V)) :=
  match x, v with
  | .t k, .own false _ es => some (put1 dst (.bor (.slot k) 0 es.length))
  | .t k, .own true z es => some (put1 dst (.own true z es) ++ [(.slot k, .junk)])
  | _, .rcd _ => none
  | _, v => some (put1 dst v)

def evAsg (s : Get) (dst : Option Nat) (x : IOpd) (v : V) : Option (List (Loc × V)) :=
  match x, v with
  | .t k, .own _ z es => some (put1 dst (.own true z es) ++ [(.slot k, .junk)])
  | _, .bor l off n => match s l with
    | some (.own false z es) => if off = 0 ∧ n = es.length then
        (if dst.map Loc.slot = some l then some [(l, .own true z es)] else some (put1 dst (.own true z es) ++ [(l, .junk)])) else none
    | _ => none
  | _, .bref _ _ _ => none
  | _, .rcd _ => none
  | _, v => some (put1 dst v)

def evBox (dep : Nat) (s : Get) (k n : Nat) (v : V) : Option (List (Loc × V)) :=
  if (s (.cell ⟨dep, k, 0⟩)).isSome then none else
  match v with
  | .d y => if y.cells.length = n ∧ n ≠ 0 ∧ y.storable then some ((.slot k, .ref dep k 0) :: cg dep k 0 (y.cells.map .d)) else none
  | v => if n = 1 ∧ v.plainV then some [(.slot k, .ref dep k 0), (.cell ⟨dep, k, 0⟩, v)] else none

def c6 (s : Get) (dst : Option Nat) (z : Option Nat) (v : V) : Option (List (Loc × V)) :=
  match v with
  | .iptr e off => (ldD z e off).map fun x => put1 dst (.d x)
  | .d (.ptr e) => (ldD z e 0).map fun x => put1 dst (.d x)
  | .bref l i off => match s l with
    | some (.own false _ es) => (es[i]?).bind fun e => (ldD z e off).map fun x => put1 dst (.d x)
    | _ => none
  | .vref y => match z with
    | none => if y.plainV then some (put1 dst y) else none
    | some _ => none
  | .ref d k off => match z with
    | none => match s (.cell ⟨d, k, off⟩) with
      | some (.own false _ es) => some (put1 dst (.bor (.cell ⟨d, k, off⟩) 0 es.length))
      | some v => if v.plainV then some (put1 dst v) else none
      | none => none
    | some n => (b4 s d k off n).map fun (cs, u) => u ++ put1 dst (.d (.agg cs))
  | _ => none

/-- a whole element with some cells turned -/
def D.setAt (e : D) (off : Nat) (cs : List D) : Option D :=
  if off + cs.length ≤ e.cells.length then
    match e with
    | .agg es => some (.agg (setCells es off cs))
    | _ => match cs with
      | [] => some e
      | c :: _ => if c.cells.length = 1 then some c else none
  else none

/-- a state with some places turned -/
def updG (s : Get) : List (Loc × V) → Get
  | [] => s
  | (l, v) :: r => updG (fun l' => if l' = l then some v else s l') r

/-- the cells of a struct that goes to slot k; what it takes -/
def recOf (cfg : Cfg) (k : Nat) : Get → Nat → List (Nat × Nat × IOpd) → Option (List V × List (Loc × V))
  | _, _, [] => some ([], [])
  | s, i, (o, n, x) :: r => if o = i ∧ n = 1 then
      match x, val cfg s x with
      | .t j, some (.own _ z es) => if j = k then none else (recOf cfg k (updG s [(.slot j, .junk)]) (i + 1) r).map fun p => (.own true z es :: p.1, (.slot j, .junk) :: p.2)
      | _, some (.d y) => if y.isCell then (recOf cfg k s (i + 1) r).map fun p => (.d y.can :: p.1, p.2) else none
      | _, _ => none
    else none
/-- the cells of a box that a struct is stored into -/
def du (d k : Nat) : Nat → List V → Option (List (Loc × V))
  | _, [] => some []
  | off, .d y :: r => if y.isCell then (du d k (off + 1) r).map fun u => (.cell ⟨d, k, off⟩, .d y) :: u else none
  | off, .own _ z es :: r => (du d k (off + 1) r).map fun u => (.cell ⟨d, k, off⟩, .own true z es) :: u
  | _, _ :: _ => none

def bd (s : Get) (n : Nat) (a : V) (x : IOpd) (v : V) : Option (List (Loc × V)) :=
  match a with
  | .ref d k off =>
    if alive s d k off n then
      match x, v with
      | .t j, .own _ z es => if n = 1 then some [(.cell ⟨d, k, off⟩, .own true z es), (.slot j, .junk)] else none
      | .t j, .rcd ys => if n = ys.length ∧ n ≠ 0 then (du d k off ys).map fun u => (.slot j, .junk) :: u else none
      | _, .bor l o m => match s l with
        | some (.own false z es) => if o = 0 ∧ m = es.length ∧ n = 1 then
            (if Loc.cell ⟨d, k, off⟩ = l then some [(l, .own true z es)] else some [(.cell ⟨d, k, off⟩, .own true z es), (l, .junk)]) else none
        | _ => none
      | _, .d y => if y.cells.length = n ∧ y.storable then some (cg d k off (y.cells.map .d)) else none
      | _, v => if n = 1 ∧ v.plainV then some [(.cell ⟨d, k, off⟩, v)] else none
    else none
  | .bref l i off => match s l, v.asD with
    | some (.own false z es), some y => if y.cells.length = n ∧ y.storable then
        (es[i]?).bind fun e => (e.setAt off y.cells).map fun e' => [(l, .own false z (es.set i e'))] else none
    | _, _ => none
  | _ => none

def evNil (dst : Option Nat) (v : V) : Option (List (Loc × V)) :=
  match v with
  | .d (.ptr _) | .d (.fn _) | .d (.ifc _ _) | .iptr _ _ | .ref _ _ _ | .bref _ _ _ | .clo _ _ _ | .ifc _ _ | .vref _ => some (put1 dst v)
  | _ => none

/-- the end that a third index sets -/
def topOf (cfg : Cfg) (s : Get) (len : Nat) : Option IOpd → Option Nat
  | none => some len
  | some m => match (dat cfg s m).bind D.toInt? with
    | some n => if 0 ≤ n ∧ n ≤ len then some n.toNat else none
    | none => none

def headZ (z : Nat) : List D → Bool
  | [] => true
  | e :: _ => e.cells.length == z

def dp (cfg : Cfg) (s : Get) (dst : Option Nat) (z : Nat) (x : IOpd) (v : V) (lo hi mx : Option IOpd) : Option (List (Loc × V)) :=
  match cont s v with
  | none => none
  | some es =>
    match topOf cfg s es.length mx with
    | none => none
    | some top => match a8 cfg s top lo hi with
      | none => none
      | some (l, h) => if mx.isSome && hi.isNone then none else match x, v with
        | _, .d .nilS => some (put1 dst (.d .nilS))
        | _, .d (.sl es) => if headZ z es then some (put1 dst (.d (.sl ((es.take h).drop l)))) else none
        | .t k, .own false z' _ => if z' = z then some (put1 dst (.bor (.slot k) l (h - l))) else none
        | .t k, .own true z' es => if z' = z then some (put1 dst (.own true z ((es.take h).drop l)) ++ [(.slot k, .junk)]) else none
        | _, .bor loc off _ => match s loc with
          | some (.own false z' _) => if z' = z then some (put1 dst (.bor loc (off + l) (h - l))) else none
          | _ => none
        | _, _ => none

def evIdx (s : Get) (dst : Option Nat) (z : Nat) (x : IOpd) (v : V) (n : Int) : Option (List (Loc × V)) :=
  if n < 0 then none else
  match x, v with
  | _, .d (.sl es) => (es[n.toNat]?).bind fun e => if e.cells.length = z then some (put1 dst (.iptr e 0)) else none
  | .t k, .own false z' es => if n.toNat < es.length ∧ z' = z then some (put1 dst (.bref (.slot k) n.toNat 0)) else none
  | _, .bor l off len => match s l with
    | some (.own false z' _) => if n.toNat < len ∧ z' = z then some (put1 dst (.bref l (off + n.toNat) 0)) else none
    | _ => none
  | _, .vec ys => (ys[n.toNat]?).bind fun y => if z = 1 then some (put1 dst (.vref y)) else none
  | _, _ => none

def b7 (s : Get) (dst : Option Nat) (z bytes : Nat) (x : IOpd) (v : V) (ys : List D) : Option (List (Loc × V)) :=
  if allZ z ys && decide (bytes ≤ 2048) then
    match x, v with
    | _, .d .nilS => match ys with
      | [] => some (put1 dst (.d .nilS))
      | _ => if ys.length ≤ ax then some (put1 dst (.own true z ys)) else none
    | _, .d (.sl es) => match ys with
      | [] => some (put1 dst (.d (.sl es)))
      | _ => none
    | .t k, .own _ z' es => if z' = z ∧ es.length + ys.length ≤ ax then some (put1 dst (.own true z (es ++ ys)) ++ [(.slot k, .junk)]) else none
    | _, .bor l off n => match s l with
      | some (.own false z' es) => if off = 0 ∧ n ≤ es.length ∧ z' = z ∧ n + ys.length ≤ ax then
          some (put1 dst (.own true z (es.take n ++ ys)) ++ [(l, .junk)]) else none
      | _ => none
    | _, _ => none
  else none

def jf (s : Get) (dst : Option Nat) (z : Nat) (x : IOpd) (v : V) (ys : List D) : Option (List (Loc × V)) :=
  if allZ z ys then
    let go (l : Loc) (off n : Nat) : Option (List (Loc × V)) := match s l with
      | some (.own false z' es) => if z' = z ∧ off + n ≤ es.length then
          some ((l, .own false z (es.take off ++ ys.take n ++ es.drop (off + min n ys.length))) :: put1 dst (.d (.int .i64 (min n ys.length : Nat)))) else none
      | _ => none
    match x, v with
    | .t k, .own false _ es => go (.slot k) 0 es.length
    | _, .bor l off n => go l off n
    | _, _ => none
  else none

def w9 (dst : Option Nat) (t : TypeId) (zero : D) (ok : Bool) (v : V) : Option (List (Loc × V)) :=
  match v with
  | .d (.ifc u x) =>
    if u = t then some (put1 dst (.d (if ok then .tup [x, .bool true] else x)))
    else if ok then some (put1 dst (.d (.tup [zero, .bool false]))) else none
  | .d .nilI => if ok then some (put1 dst (.d (.tup [zero, .bool false]))) else none
  | _ => none

/-- parts of a literal that are addresses of boxes, one behind the other -/
def cd (cfg : Cfg) (s : Get) : Nat → List (Nat × IOpd) → Option (List V)
  | _, [] => some []
  | i, (j, x) :: r => match val cfg s x with
    | some (.ref d k o) => if j = i then (cd cfg s (i + 1) r).map (.ref d k o :: ·) else none
    | _ => none
def evVec (cfg : Cfg) (s : Get) (dst : Option Nat) (z n : Nat) (ps : List (Nat × IOpd)) : Option (List (Loc × V)) :=
  match cd cfg s 0 ps with
  | some (y :: ys) => if z = 1 ∧ n = (y :: ys).length then some (put1 dst (.vec (y :: ys))) else none
  | _ => none

/-- One operation that calls nothing: what it turns. -/
def evOp (cfg : Cfg) (dep : Nat) (s : Get) (dst : Option Nat) : IOp → Option (List (Loc × V))
  | .mv x => (val cfg s x).bind fun v => evMv dst x v
  | .asg x => (val cfg s x).bind fun v => evAsg s dst x v
  | .pick c a b => match val cfg s c with
    | some (.d (.bool t)) => match val cfg s (if t then a else b) with
      | some (.d x) => some (put1 dst (.d x))
      | _ => none
    | _ => none
  | .alloc zs => match dst with
    | some k => if (s (.cell ⟨dep, k, 0⟩)).isSome || zs.isEmpty then none
      else some ((.slot k, .ref dep k 0) :: cg dep k 0 (zs.map .d))
    | none => none
  | .box n x => match dst, val cfg s x with
    | some k, some v => evBox dep s k n v
    | _, _ => none
  | .build zs ps => (ce cfg s ps).bind fun l => (fillD zs l).map fun cs => put1 dst (.d (.agg cs))
  | .buildR n ps => match dst with
    | some k => (recOf cfg k s 0 ps).bind fun p => if p.1.length = n ∧ n ≠ 0 then some (p.2 ++ [(.slot k, .rcd p.1)]) else none
    | none => none
  | .lit own z n zd ps => match evVec cfg s dst z n ps with
    | some u => some u
    | none => (dn cfg s ps).bind fun l =>
      if zd.cells.length = z ∧ n ≤ 1000 ∧ zd.storable then
        (fillE z (List.replicate n zd) l).map fun es => put1 dst (if n = 0 then .d .nilS else if own then .own true z es else .d (.sl es)) else none
  | .load z a => (val cfg s a).bind fun v => c6 s dst z v
  | .store n a x => match val cfg s a, val cfg s x with
    | some a, some v => if dst.isSome then none else bd s n a x v
    | _, _ => none
  | .nilck x => (val cfg s x).bind fun v => evNil dst v
  | .bin op x y => match val cfg s x, val cfg s y with
    | some (.d a), some (.d b) => (D.bin op a b).map fun r => put1 dst (.d r)
    | _, _ => none
  | .eqn neg c x y => match val cfg s x, val cfg s y with
    | some a, some b => (V.eqn cfg c a b).map fun r => put1 dst (.d (.bool (if neg then !r else r)))
    | _, _ => none
  | .isNil neg x => (val cfg s x).bind fun v => (g9 neg v).map fun r => put1 dst (.d r)
  | .un op x => match val cfg s x with
    | some (.d a) => (D.un op a).map fun r => put1 dst (.d r)
    | _ => none
  | .cvInt k x => match val cfg s x with
    | some (.d (.int _ n)) => some (put1 dst (.d (.int k (k.wrap n))))
    | _ => none
  | .cvStr x => match val cfg s x with
    | some (.d (.str b)) => some (put1 dst (.d (.str b)))
    | _ => none
  | .b2s x => ((val cfg s x).bind (cont s)).bind fun es => (bu es).map fun b => put1 dst (.d (.str b))
  | .s2b own x => match val cfg s x with
    | some (.d (.str b)) => if b.length ≤ ax then some (put1 dst (if own then .own true 1 (b.map byteD) else .d (.sl (b.map byteD)))) else none
    | _ => none
  | .cvB own x => match x, val cfg s x with
    | .t k, some (.own _ z es) => some (put1 dst (if own then .own true z es else .d (.sl es)) ++ [(.slot k, .junk)])
    | _, _ => none
  | .mkI t x => match val cfg s x with
    | some (.d a) => some (put1 dst (.d (.ifc t a.canon)))
    | some (.ref d k off) => some (put1 dst (.ifc t (.ref d k off)))
    | some (.iptr e 0) => some (put1 dst (.d (.ifc t (.ptr e))))
    | _ => none
  | .mkF f a b => match vals cfg s a, vals cfg s b with
    | some [], some [] => some (put1 dst (.d (.fn f)))
    | some xs, some ys => if xs.all V.plainV && ys.all V.plainV then some (put1 dst (.clo f xs ys)) else none
    | _, _ => none
  | .mkS z bytes zd l c => match (dat cfg s l).bind D.toInt?, (dat cfg s c).bind D.toInt? with
    | some n, some m => if 0 ≤ n ∧ n ≤ m ∧ m ≤ ax ∧ bytes ≤ 2048 ∧ zd.cells.length = z ∧ zd.storable then some (put1 dst (.own true z (List.replicate n.toNat zd))) else none
    | _, _ => none
  | .slice z x lo hi mx => (val cfg s x).bind fun v => dp cfg s dst z x v lo hi mx
  | .sliceS x lo hi => match val cfg s x with
    | some (.d (.str b)) => (a8 cfg s b.length lo hi).map fun (l, h) => put1 dst (.d (.str ((b.take h).drop l)))
    | _ => none
  | .fieldA off x => match val cfg s x with
    | some (.ref d k o) => some (put1 dst (.ref d k (o + off)))
    | some (.bref l i o) => some (put1 dst (.bref l i (o + off)))
    | some (.iptr e o) => some (put1 dst (.iptr e (o + off)))
    | some (.d (.ptr e)) => some (put1 dst (.iptr e off))
    | _ => none
  | .field off z x => match val cfg s x with
    | some (.d (.agg cs)) => (ldD z (.agg cs) off).map fun r => put1 dst (.d r)
    | _ => none
  | .idxA z x i => match val cfg s x, (dat cfg s i).bind D.toInt? with
    | some v, some n => evIdx s dst z x v n
    | _, _ => none
  | .idxS x i => match val cfg s x, (dat cfg s i).bind D.toInt? with
    | some (.d (.str b)), some n => if n < 0 then none else (b[n.toNat]?).map fun c => put1 dst (.d (byteD c))
    | _, _ => none
  | .idxC n z g x i => match val cfg s x, (dat cfg s i).bind D.toInt? with
    | some (.d (.agg cs)), some j => if 0 ≤ j ∧ j < n then (ldD (if g then some z else none) (.agg cs) (j.toNat * z)).map fun r => put1 dst (.d r) else none
    | _, _ => none
  | .idxB n z x i => match val cfg s x, (dat cfg s i).bind D.toInt? with
    | some v, some j => if 0 ≤ j ∧ j < n then match v with
        | .ref d k o => some (put1 dst (.ref d k (o + j.toNat * z)))
        | .bref l i o => some (put1 dst (.bref l i (o + j.toNat * z)))
        | .iptr e o => some (put1 dst (.iptr e (o + j.toNat * z)))
        | .d (.ptr e) => some (put1 dst (.iptr e (j.toNat * z)))
        | _ => none else none
    | _, _ => none
  | .ext x i => match val cfg s x with
    | some (.d (.tup ds)) => (ds[i]?).map fun r => put1 dst (.d r)
    | _ => none
  | .len true x => match val cfg s x with
    | some (.d (.str b)) => some (put1 dst (.d (.int .i64 b.length)))
    | _ => none
  | .len false x => match val cfg s x with
    | some v => match v with
      | .d .nilS => some (put1 dst (.d (.int .i64 0)))
      | .d (.sl es) => some (put1 dst (.d (.int .i64 es.length)))
      | .own _ _ es => some (put1 dst (.d (.int .i64 es.length)))
      | .bor _ _ n => some (put1 dst (.d (.int .i64 n)))
      | .vec ys => some (put1 dst (.d (.int .i64 ys.length)))
      | _ => none
    | none => none
  | .minmax mx xs => (dats cfg s xs).bind fun l => (minD mx l).map fun r => put1 dst (.d r)
  | .append z bytes x y => match val cfg s x, (val cfg s y).bind (cont s) with
    | some v, some ys => b7 s dst z bytes x v ys
    | _, _ => none
  | .appendS x y => match val cfg s x, val cfg s y with
    | some v, some (.d (.str b)) => b7 s dst 1 1 x v (b.map byteD)
    | _, _ => none
  | .copy z x y => match val cfg s x, (val cfg s y).bind (cont s) with
    | some v, some ys => jf s dst z x v ys
    | _, _ => none
  | .tass t zero ok x => (val cfg s x).bind fun v => w9 dst t zero ok v
  | .call _ _ _ | .callg _ _ _ _ | .callv _ _ _ | .inv _ _ _ _ | .bad => none

/-- an argument of a call by values; true: it stands for an array of the caller's own -/
def argD (s : Get) : V → Option (D × Bool)
  | .d x => some (x.canon, false)
  | .iptr e 0 => some (.ptr e, false)
  | .own _ _ es => some (.sl es, true)
  | .bor l off n => match s l with
    | some (.own false _ es) => some (.sl ((es.drop off).take n), true)
    | _ => none
  | _ => none

def argsD (s : Get) : List V → Option (List D × Bool)
  | [] => some ([], false)
  | v :: r => match argD s v, argsD s r with
    | some (x, a), some (xs, b) => some (x :: xs, a || b)
    | _, _ => none

mutual
/-- nothing in it leads to memory -/
def D.plain : D → Bool
  | .tup ds => D.plains ds
  | .agg ds => D.plains ds
  | .ifc _ d => d.plain
  | .sl [] => true
  | .sl _ | .ptr _ => false
  | _ => true
def D.plains : List D → Bool
  | [] => true
  | d :: r => d.plain && D.plains r
end

/-- which function a call goes to, with the values ahead of its arguments and behind them -/
def target (cfg : Cfg) (s : Get) : IOp → Option (Bool × FuncId × List V)
  | .call own f args => (vals cfg s args).map fun vs => (own, f, vs)
  | .callv own x args => match val cfg s x, vals cfg s args with
    | some (.d (.fn f)), some vs => some (own, f, vs)
    | some (.clo f a b), some vs => if a.all V.plainV && b.all V.plainV then some (own, f, a ++ vs ++ b) else none
    | _, _ => none
  | .inv own x name args => match val cfg s x, vals cfg s args with
    | some (.d (.ifc t d)), some vs => (cfg.meth t name).map fun f => (own, f, .d d :: vs)
    | some (.ifc t v), some vs => if v.plainV then (cfg.meth t name).map fun f => (own, f, v :: vs) else none
    | _, _ => none
  | _ => none

/-- the argument of a call that hands its slice back -/
def clipArg (cfg : Cfg) : IOp → Option IOpd
  | .call _ f [x] => if cfg.clip f then some x else none
  | _ => none

/-- a slice's value handed back -/
def evClip (dst : Option Nat) (x : IOpd) (v : V) : Option (List (Loc × V)) :=
  match v with
  | .d .nilS | .d (.sl _) | .own _ _ _ | .bor _ _ _ => evMv dst x v
  | _ => none

def allD : List V → Option (List D)
  | [] => some []
  | .d x :: r => (allD r).map (x :: ·)
  | _ => none

/-- a function's value over data, handed back -/
def landC (dst : Option Nat) (shared : Bool) : V → Option (List (Loc × V))
  | .clo f [] b => if shared || (allD b).isNone then none else some (put1 dst (.clo f [] b))
  | _ => none

/-- what a call by values leaves -/
def landed (dst : Option Nat) (own shared : Bool) : V → Option (List (Loc × V))
  | V.d r => if shared && !r.plain then none else some (put1 dst (.d (if own then r else r.canon)))
  | .own _ z es => if shared && !D.plains es then none else some (put1 dst (if own then .own true z es else .d (.sl es)))
  | _ => none

mutual
/-- it leads to no box of depth n or more -/
def V.upTo (n : Nat) : V → Bool
  | .d _ | .own _ _ _ | .junk | .iptr _ _ => true
  | .ref e _ _ => decide (e < n)
  | .ifc _ v => v.upTo n
  | .clo _ a b => V.upTos n a && V.upTos n b
  | .vec ys => V.upTos n ys
  | .vref y => y.upTo n
  | .bor _ _ _ | .bref _ _ _ | .rcd _ => false
def V.upTos (n : Nat) : List V → Bool
  | [] => true
  | v :: r => v.upTo n && V.upTos n r
end

def IOp.isStore : IOp → Bool
  | .store _ _ _ => true
  | _ => false

def isCallOp : IOp → Bool
  | .call _ _ _ | .callv _ _ _ | .inv _ _ _ _ => true
  | _ => false

def cutMem (dep : Nat) : List (Cel × V) → List (Cel × V)
  | [] => []
  | (c, v) :: r => if c.d ≤ dep then (c, v) :: cutMem dep r else cutMem dep r

/-- the oracle: function, depth, arguments, memory ahead; result, memory behind -/
abbrev Orc := FuncId → Nat → List V → List (Cel × V) → Option (V × List (Cel × V))

def guardOk (s : Get) : Option (Nat × Bool) → Option Bool
  | none => some true
  | some (k, b) => match s (.slot k) with
    | some (.d (.bool t)) => some (t == b)
    | some (.d (.tup [])) => some false
    | _ => none

/-- a call by values: what it turns -/
def callU (orc : Orc) (s : Get) (dst : Option Nat) (own : Bool) (f : FuncId) (vs : List V) : Option (List (Loc × V)) :=
  match argsD s vs with
  | some (ds, shared) => match orc f 0 (ds.map .d) [] with
    | some (r, _) => match landed dst own shared r with
      | some u => some u
      | none => landC dst shared r
    | none => none
  | none => none

/-- an argument that is given away: what becomes of its place, and the callee's value -/
def givenV (s : Get) (x : IOpd) (v : V) : Option (List (Loc × V) × V) :=
  match x, v with
  | _, .d .nilS => some ([], .d .nilS)
  | _, .d y => some ([], .d y.canon)
  | .t k, .own _ z es => some ([(.slot k, .junk)], .own false z es)
  | _, .bor l off n => match s l with
    | some (.own false z es) => if off = 0 ∧ n ≤ es.length then some ([(l, .junk)], .own false z (es.take n)) else none
    | _ => none
  | _, _ => none

/-- a call that is given an array: what it turns -/
def callG (cfg : Cfg) (orc : Orc) (s : Get) (dst : Option Nat) (own : Bool) (f : FuncId) (args : List IOpd) (i : Nat) : Option (List (Loc × V)) :=
  (args[i]?).bind fun x => (val cfg s x).bind fun v => (givenV s x v).bind fun g =>
    (vals cfg (updG s g.1) (args.set i (.c .nilS))).bind fun vs => (argsD (updG s g.1) vs).bind fun q =>
      (orc f 0 ((q.1.map .d).set i g.2) []).bind fun r => (landed dst own q.2 r.1).map fun u => g.1 ++ u

/-- arrays of the call's own among operands that are given up: from now on they are data -/
def giveL (s : Get) : List IOpd → List (Loc × V)
  | [] => []
  | .t k :: r => match s (.slot k) with
    | some (.own _ _ es) => (.slot k, .d (.sl es)) :: giveL s r
    | some (.bor l _ _) => match s l with
      | some (.own false _ es) => (l, .d (.sl es)) :: giveL s r
      | _ => giveL s r
    | _ => giveL s r
  | .c _ :: r => giveL s r
  | .g _ :: r => giveL s r
/-- the pieces of them that are at hand -/
def giveP (s : Get) : List IOpd → List (Loc × V)
  | [] => []
  | .t k :: r => match s (.slot k) with
    | some (.bor l off n) => match s l with
      | some (.own false _ es) => (.slot k, .d (.sl ((es.drop off).take n))) :: giveP s r
      | _ => giveP s r
    | _ => giveP s r
  | .c _ :: r => giveP s r
  | .g _ :: r => giveP s r
def giveUp (s : Get) (l : List IOpd) : List (Loc × V) := giveL s l ++ giveP s l
/-- operations that take arrays of the call's own as data -/
def gives (cfg : Cfg) (s : Get) : IOp → Bool
  | .lit _ _ _ _ _ => true
  | .build _ _ => true
  | .store _ a _ => match val cfg s a with
    | some (.bref _ _ _) => true
    | _ => false
  | _ => false
def upds (op : IOp) : List IOpd := match op with
  | .lit _ _ _ _ ps => ps.map fun p => p.2
  | .build _ ps => ps.map fun p => p.2.2
  | .store _ a x => [a, x]
  | _ => []
def evOpD (cfg : Cfg) (dep : Nat) (s : Get) (dst : Option Nat) (op : IOp) : Option (List (Loc × V)) :=
  if gives cfg s op then (evOp cfg dep (updG s (giveUp s (upds op))) dst op).map (giveUp s (upds op) ++ ·) else evOp cfg dep s dst op

/-- one operation that is no plain call -/
def evOpG (cfg : Cfg) (orc : Orc) (dep : Nat) (s : Get) (dst : Option Nat) : IOp → Option (List (Loc × V))
  | .callg own f args i => callG cfg orc s dst own f args i
  | op => evOpD cfg dep s dst op

/-- a call whose result may lead to an array of the caller's own that it was lent: such arrays are given up -/
def callT (cfg : Cfg) (orc : Orc) (s : Get) (dst : Option Nat) (own : Bool) (f : FuncId) (args : List IOpd) : Option (List (Loc × V)) :=
  (vals cfg (updG s (giveUp s args)) args).bind fun vs => (callU orc (updG s (giveUp s args)) dst own f vs).map (giveUp s args ++ ·)
def callR (cfg : Cfg) (orc : Orc) (s : Get) (dst : Option Nat) (op : IOp) (vs : List V) : Option (List (Loc × V)) :=
  match op with
  | .call own f args => match argsD s vs with
    | some (ds, true) => match orc f 0 (ds.map .d) [] with
      | some _ => callT cfg orc s dst own f args
      | none => none
    | _ => none
  | _ => none

def callW (cfg : Cfg) (orc : Orc) (s : Get) (dst : Option Nat) (own : Bool) (f : FuncId) (args : List IOpd) (vs : List V) : Option (List (Loc × V)) :=
  match callU orc s dst own f vs with
  | some u => some u
  | none => callR cfg orc s dst (.call own f args) vs

/-- what is borrowed from a box is given up -/
def V.unbor (dep : Nat) (v : V) : V :=
  match v with
  | .bor (.slot _) _ _ => v
  | .bref (.slot _) _ _ => v
  | v => if v.upTo (dep + 1) then v else .junk

def dropBor (dep : Nat) : List (Nat × V) → List (Nat × V)
  | [] => []
  | (k, v) :: r => (k, v.unbor dep) :: dropBor dep r

/-- a call that is handed boxes -/
def callM (orc : Orc) (dep : Nat) (s : St) (dst : Option Nat) (own : Bool) (f : FuncId) (vs : List V) : Option St :=
  if (argsD s.get vs).isNone && vs.all V.plainV then
    match orc f (dep + 1) vs s.mem with
    | some (r, m) =>
      if (cutMem dep m).all (fun p => p.2.upTo (dep + 1)) then
        match landed dst own false r with
        | some u => some (St.upd ⟨dropBor dep s.env, cutMem dep m⟩ u)
        | none => if r.upTo (dep + 1) && r.plainV then some (St.upd ⟨dropBor dep s.env, cutMem dep m⟩ (put1 dst r)) else none
      else none
    | none => none
  else none

/-- one operation, where it is no call that is handed boxes: what it turns -/
def stepU (cfg : Cfg) (orc : Orc) (dep : Nat) (s : Get) (o : IOper) : Option (List (Loc × V)) :=
  match guardOk s o.guard with
  | none => none
  | some false => some (put1 o.dst (.d (.tup [])))
  | some true =>
    if o.dst.isNone && !o.op.isStore then none else
    if isCallOp o.op then
      match clipArg cfg o.op with
      | some x => (val cfg s x).bind fun v => evClip o.dst x v
      | none => match target cfg s o.op with
        | some (own, f, vs) => match callU orc s o.dst own f vs with
          | some u => some u
          | none => callR cfg orc s o.dst o.op vs
        | none => none
    else evOpG cfg orc dep s o.dst o.op

def stepM (cfg : Cfg) (orc : Orc) (dep : Nat) (s : St) (o : IOper) : Option St :=
  match guardOk s.get o.guard with
  | some true =>
    if o.dst.isSome && isCallOp o.op && (clipArg cfg o.op).isNone then
      match target cfg s.get o.op with
      | some (own, f, vs) => callM orc dep s o.dst own f vs
      | none => none
    else none
  | _ => none

def evStep (cfg : Cfg) (orc : Orc) (dep : Nat) (s : St) (o : IOper) : Option St :=
  match stepU cfg orc dep s.get o with
  | some u => some (s.upd u)
  | none => stepM cfg orc dep s o

def evOps (cfg : Cfg) (orc : Orc) (dep : Nat) : List IOper → St → Option St
  | [], s => some s
  | o :: r, s => match evStep cfg orc dep s o with
    | some s' => evOps cfg orc dep r s'
    | none => none

/-- behind a region: what is borrowed is gone, what was placed is at home -/
def V.home (dep : Nat) : V → V
  | .own _ z es => .own false z es
  | v => if v.upTo (dep + 1) then v else .junk

def settleE (dep : Nat) : List Nat → List (Nat × V) → List (Nat × V)
  | [], _ => []
  | k :: r, e => match lk e k with
    | some v => (k, v.home dep) :: settleE dep r e
    | none => settleE dep r e

def settleM (dep : Nat) : List (Cel × V) → List (Cel × V)
  | [] => []
  | (k, v) :: r => (k, v.home dep) :: settleM dep r

def settle (dep : Nat) (keep : List Nat) (s : St) : St := ⟨settleE dep keep s.env, settleM dep s.mem⟩

inductive Ex where
  | normal | ret | exit (id : Nat)

def demoteE (k : Nat) : List (Nat × V) → List (Nat × V)
  | [] => []
  | (k', v) :: r => if k' = k then (match v with | .own _ _ es => (k', .d (.sl es)) | v => (k', v)) :: r else (k', v) :: demoteE k r

end Go.Ev

/-! EvC -/
/- The evaluator: regions that draw their order, code, functions; the limit over the fuel. Own work. -/
namespace Go.Ev

def IOp.operands : IOp → List IOpd
  | .isNil _ x => [x]
  | .mv x | .asg x | .box _ x | .load _ x | .nilck x | .un _ x | .cvInt _ x | .cvStr x | .b2s x | .s2b _ x | .cvB _ x | .mkI _ x | .fieldA _ x | .field _ _ x
  | .ext x _ | .len _ x | .tass _ _ _ x => [x]
  | .pick c a b => [c, a, b]
  | .alloc _ | .bad => []
  | .build _ ps | .buildR _ ps => ps.map fun p => p.2.2
  | .lit _ _ _ _ ps => ps.map fun p => p.2
  | .store _ a x => [a, x]
  | .bin _ x y | .eqn _ _ x y | .append _ _ x y | .appendS x y | .copy _ x y => [x, y]
  | .mkF _ a b => a ++ b
  | .mkS _ _ _ l c => [l, c]
  | .slice _ x lo hi mx => [x] ++ lo.toList ++ hi.toList ++ mx.toList
  | .sliceS x lo hi => [x] ++ lo.toList ++ hi.toList
  | .idxA _ x i | .idxS x i | .idxC _ _ _ x i | .idxB _ _ x i => [x, i]
  | .minmax _ xs => xs
  | .call _ _ args => args
  | .callg _ _ args _ => args
  | .callv _ x args | .inv _ x _ args => x :: args

/-- how many cells are looked at behind an address -/
def IOp.span : IOp → Nat
  | .load z _ => z.getD 1
  | .store n _ _ => n
  | _ => 0

def dx (d k off : Nat) : Nat → List Loc
  | 0 => []
  | n + 1 => .cell ⟨d, k, off⟩ :: dx d k (off + 1) n

def aa (s : Get) (span : Nat) : IOpd → List Loc
  | .t k => .slot k :: (match s (.slot k) with
    | some (.bor l _ _) => [l]
    | some (.bref l _ _) => [l]
    | some (.ref d j off) => dx d j off span
    | _ => [])
  | _ => []

def ck (dep : Nat) (s : Get) (o : IOper) : List Loc :=
  (match o.guard with | some (k, _) => [.slot k] | none => []) ++
  (match o.op, o.dst with
    | .alloc _, some k | .box _ _, some k => [.cell ⟨dep, k, 0⟩]
    | _, _ => []) ++ o.op.operands.flatMap (aa s o.op.span)

def disj (a b : List Loc) : Bool := a.all fun l => !b.contains l

/-- the operations of a region that draws its order, in the order of the text; what each one reads and turns -/
def b5 (cfg : Cfg) (orc : Orc) (dep : Nat) : List IOper → St → Option (List (List Loc × List Loc) × St)
  | [], s => some ([], s)
  | o :: r, s => match stepU cfg orc dep s.get o with
    | some u => match b5 cfg orc dep r (s.upd u) with
      | some (l, s') => some ((ck dep s.get o, u.map (·.1)) :: l, s')
      | none => none
    | none => none

/-- operations that Go leaves in no order turn nothing for each other -/
def fh (l : List (List Loc × List Loc)) : List (Nat × Nat) → Bool
  | [] => true
  | (i, j) :: r => match l[i]?, l[j]? with
    | some (ri, wi), some (rj, wj) => disj wi (rj ++ wj) && disj wj ri && fh l r
    | _, _ => false

def av (cfg : Cfg) (orc : Orc) (dep : Nat) (ops : List IOper) (un : List (Nat × Nat)) (s : St) : Option St :=
  match un with
  | [] => evOps cfg orc dep ops s
  | un => match b5 cfg orc dep ops s with
    | some (l, s') => if fh l un then some s' else none
    | none => none

def b6 (f : St → Option (Ex × St)) : Nat → St → Option (Ex × St)
  | 0, _ => none
  | n + 1, s => match f s with
    | some (.normal, s') => b6 f n s'
    | r => r

mutual
/-- it does not lead to box (d, k) -/
def V.apart (d k : Nat) : V → Bool
  | .ref d' k' _ => !(decide (d' = d) && decide (k' = k))
  | .ifc _ v => v.apart d k
  | .clo _ a b => V.aparts d k a && V.aparts d k b
  | .vec ys => V.aparts d k ys
  | .vref y => y.apart d k
  | .rcd ys => V.aparts d k ys
  | _ => true
def V.aparts (d k : Nat) : List V → Bool
  | [] => true
  | v :: r => v.apart d k && V.aparts d k r
end

def V.free (d k : Nat) : V → V
  | .ref d' k' off => if d' = d ∧ k' = k then .junk else .ref d' k' off
  | .ifc t v => if v.apart d k then .ifc t v else .junk
  | .clo f a b => if V.aparts d k a && V.aparts d k b then .clo f a b else .junk
  | .vec ys => if V.aparts d k ys then .vec ys else .junk
  | .vref y => if y.apart d k then .vref y else .junk
  | .rcd _ => .junk
  | v => v

def freeE (d k : Nat) : List (Nat × V) → List (Nat × V)
  | [] => []
  | (j, v) :: r => (j, v.free d k) :: freeE d k r

def freeM (d k : Nat) : List (Cel × V) → List (Cel × V)
  | [] => []
  | (c, v) :: r => if c.d = d ∧ c.k = k then freeM d k r else (c, v.free d k) :: freeM d k r

/-- surely the same -/
def D.same : D → D → Bool
  | .nilS, .nilS => true
  | .sl [], .sl [] => true
  | .unkB, .unkB => true
  | .bool a, .bool b => a == b
  | .int k a, .int k' b => decide (k = k') && a == b
  | .str a, .str b => a == b
  | _, _ => false

def envSame : List (Nat × V) → List (Nat × V) → Bool
  | [], [] => true
  | (k, .d a) :: r, (k', .d b) :: r' => k == k' && a.same b && envSame r r'
  | _, _ => false

def exSame : Ex → Ex → Bool
  | .normal, .normal => true
  | .ret, .ret => true
  | .exit a, .exit b => a == b
  | _, _ => false

/-- two ways that come to the same -/
def bothWays (a b : Option (Ex × St)) : Option (Ex × St) :=
  match a, b with
  | some (e, s), some (e', s') => if exSame e e' && envSame s.env s'.env && s.mem.isEmpty && s'.mem.isEmpty then some (e, s) else none
  | _, _ => none

/-- what a round of a range over a function sees of a slot -/
def V.roundV : V → V
  | .own _ _ _ | .bor _ _ _ | .bref _ _ _ | .rcd _ => .junk
  | v => v
def roundE : List (Nat × V) → List (Nat × V)
  | [] => []
  | (k, v) :: r => (k, v.roundV) :: roundE r
def putPs : List Nat → List D → List (Nat × V) → Option (List (Nat × V))
  | [], [], e => some e
  | p :: ps, d :: ds, e => putPs ps ds (st e p (.d d))
  | _, _, _ => none

/-- a value without the boxes from depth n on -/
def V.homeN (n : Nat) : V → V
  | .own _ z es => .own false z es
  | v => if v.upTo n then v else .junk

/-- the memory that a call leaves: its own boxes are gone -/
def leaveM (dep : Nat) : List (Cel × V) → List (Cel × V)
  | [] => []
  | (c, v) :: r => if c.d < dep then (c, v.homeN dep) :: leaveM dep r else leaveM dep r

def evEach (f : List D → List (Cel × V) → Option (Ex × List (Cel × V))) : List (List D) → List (Cel × V) → Option (Ex × List (Cel × V))
  | [], m => some (.normal, m)
  | x :: r, m => match f x m with
    | some (.normal, m') => evEach f r m'
    | y => y

/-- a round: of the slots and the memory ahead of it, what it leaves of the memory -/
def evRound (ca cb : St → Option (Ex × St)) (dep : Nat) (ps : List Nat) (e : List (Nat × V)) (x : List D) (m : List (Cel × V)) : Option (Ex × List (Cel × V)) :=
  match putPs ps x (roundE e) with
  | some e1 => match ca ⟨e1, m⟩ with
    | some (.normal, s1) => match cb s1 with
      | some (r, s2) => some (r, leaveM (dep + 1) s2.mem)
      | none => none
    | _ => none
  | none => none

/-- what a function that is ranged over tells -/
def itemsOf (cfg : Cfg) : V → Option (List (List D))
  | .clo f [] caps => match cfg.iter f, allD caps with
    | some g, some ds => g ds
    | _, _ => none
  | _ => none

/-- the array in the box that a slot leads to is given up -/
def givenB (s : Get) (k : Nat) : List (Loc × V) :=
  match s (.slot k) with
  | some (.ref d j off) => match s (.cell ⟨d, j, off⟩) with
    | some (.own _ _ es) => [(.cell ⟨d, j, off⟩, .d (.sl es))]
    | _ => []
  | _ => []
def givesB (s : St) (ls : List Nat) : St := ls.foldl (fun s k => s.upd (givenB s.get k)) s

def evCode (cfg : Cfg) (orc : Orc) (dep n : Nat) : ICode → St → Option (Ex × St)
  | .skip, s => some (.normal, s)
  | .region ops un keep, s => match av cfg orc dep ops un s with
    | some s' => some (.normal, settle dep keep s')
    | none => none
  | .seq a b, s => match evCode cfg orc dep n a s with
    | some (.normal, s') => evCode cfg orc dep n b s'
    | r => r
  | .cond x a b, s => match val cfg s.get x with
    | some (.d (.bool t)) => if t then evCode cfg orc dep n a s else evCode cfg orc dep n b s
    | some (.d .unkB) => bothWays (evCode cfg orc dep n a s) (evCode cfg orc dep n b s)
    | _ => none
  | .block id b, s => match evCode cfg orc dep n b s with
    | some (.exit id', s') => if id' = id then some (.normal, s') else some (.exit id', s')
    | r => r
  | .loop b, s => b6 (evCode cfg orc dep n b) n s
  | .each x ps a b, s => match (val cfg s.get x).bind (itemsOf cfg) with
    | some l => match evEach (evRound (evCode cfg orc (dep + 1) n a) (evCode cfg orc (dep + 1) n b) dep ps (dropBor dep s.env)) l s.mem with
      | some (e, m) => some (e, ⟨dropBor dep s.env, m⟩)
      | none => none
    | none => none
  | .exit id, s => some (.exit id, s)
  | .bad, _ => none
  | .ret, s => some (.ret, s)
  | .demote ls, s => some (.normal, { s with env := ls.foldl (fun e k => demoteE k e) s.env })
  | .give ls, s => some (.normal, givesB s ls)
  | .free k, s => some (.normal, ⟨freeE dep k s.env, freeM dep k s.mem⟩)

def entry (i : Nat) : List V → List (Nat × V)
  | [] => []
  | v :: r => (i, v) :: entry (i + 1) r

/-- a cell of a result -/
def resCell : V → Option D
  | .d x => some x.canon
  | .own _ _ es => some (.sl es)
  | .iptr e 0 => some (.ptr e)
  | _ => none

def gatherR (s : Get) (d k off : Nat) : Nat → Option (List D)
  | 0 => some []
  | n + 1 => match (s (.cell ⟨d, k, off⟩)).bind resCell, gatherR s d k (off + 1) n with
    | some x, some r => if x.isCell then some (x :: r) else none
    | _, _ => none

def resV (dep : Nat) (s : Get) : IRes → Option V
  | .t k => match s (.slot k) with
    | some (.own _ z es) => some (.own false z es)
    | some v => if v.plainV then some v else none
    | none => none
  | .cell k z => match s (.slot k) with
    | some (.ref d j off) => if dep ≤ d then match z with
      | none => match s (.cell ⟨d, j, off⟩) with
        | some (.own _ z es) => some (.own false z es)
        | some v => if v.plainV then some v else none
        | none => none
      | some n => (gatherR s d j off n).map fun cs => .d (.agg cs)
      else none
    | _ => none

def resD (dep : Nat) (s : Get) : List IRes → Option (List D)
  | [] => some []
  | r :: rs => match (resV dep s r).bind resCell, resD dep s rs with
    | some d, some ds => some (d :: ds)
    | _, _ => none

def resAll (dep : Nat) (s : Get) : List IRes → Option V
  | [r] => resV dep s r
  | rs => (resD dep s rs).map fun ds => .d (.tup ds)

/-- what a call hands back, its own boxes gone -/
def leaveR (dep : Nat) (v : V) (m : List (Cel × V)) : Option (V × List (Cel × V)) :=
  if v.upTo dep then some (v, leaveM dep m) else none

def V.isD : V → Bool
  | .d _ => true
  | _ => false

/-- arguments: one may be an array that is given away -/
def oneOwn : List V → Bool
  | .own false _ _ :: r => r.all V.isD
  | .d _ :: r => oneOwn r
  | _ => false
def argsOk (vs : List V) (m : List (Cel × V)) : Bool := vs.all V.plainV || (m.isEmpty && oneOwn vs)

def evBody (cfg : Cfg) (orc : Orc) (n : Nat) (fn : IFunc) (dep : Nat) (vs : List V) (m : List (Cel × V)) : Option (V × List (Cel × V)) :=
  if vs.length = fn.arity ∧ argsOk vs m then
    match evCode cfg orc dep n fn.body ⟨entry 0 vs, m⟩ with
    | some (.normal, s) | some (.ret, s) => (resAll dep s.get fn.results).bind fun v => leaveR dep v s.mem
    | _ => none
  else none

def evFn (cfg : Cfg) : Nat → Orc
  | 0 => fun _ _ _ _ => none
  | n + 1 => fun f dep vs m => match cfg.ext f with
    | some g => ((allD vs).bind g).map fun v => (v, m)
    | none => match cfg.funcs f with
      | some fn => evBody cfg (evFn cfg n) n fn dep vs m
      | none => none

end Go.Ev

/-! EvD -/
/- From the model's code to the evaluator's small code. Own work. -/
namespace Go.Ev

structure Advice where
  /-- slots whose arrays are kept as the call's own -/
  own : List Nat
  /-- by region: what is still wanted behind it -/
  keep : List (Nat × List Nat)
  /-- by region: slots whose arrays are no longer written from here on -/
  demote : List (Nat × List Nat)
  /-- by region: boxes that are made anew in it -/
  free : List (Nat × List Nat)
  /-- calls, by their destination: the argument whose array they are given -/
  give : List (Nat × Nat) := []
  /-- by region: slots of boxes whose arrays are no longer written from here on -/
  cool : List (Nat × List Nat) := []

def valD0 : Value → Option D
  | .bool b => some (.bool b)
  | .int k n => some (.int k n)
  | .string s => some (.str s.data.toList)
  | .slice none 0 0 => some .nilS
  | .pointer none => some .nilP
  | .map none => some .nilM
  | .nilFunc => some .nilF
  | .nilIface => some .nilI
  | _ => none

def valDs : List Value → Option (List D)
  | [] => some []
  | v :: r => match valD0 v, valDs r with
    | some d, some ds => some (d :: ds)
    | _, _ => none

def valD : Value → Option D
  | .agg cs => (valDs cs.toList).map .agg
  | v => valD0 v

def cOpd : Operand → Option IOpd
  | .tmp t => some (.t t)
  | .const v => (valD v).map .c
  | .global g => some (.g g)
  | .func f => some (.c (.fn f))

def cOpds : List Operand → Option (List IOpd)
  | [] => some []
  | x :: r => match cOpd x, cOpds r with
    | some a, some b => some (a :: b)
    | _, _ => none

def cOpdO : Option Operand → Option (Option IOpd)
  | none => some none
  | some x => (cOpd x).map some

def dc : List (Nat × Operand) → Option (List (Nat × IOpd))
  | [] => some []
  | (i, x) :: r => match cOpd x, dc r with
    | some a, some b => some ((i, a) :: b)
    | _, _ => none

def sizeD (P : Program) (t : TypeId) : Option Nat := (P.info? t).map (·.size)

def zOpt (P : Program) (t : TypeId) : Option (Option Nat) :=
  match P.underlying t, sizeD P t with
  | some (.struct _), some n => some (some n)
  | some (.array _ _), some n => some (some n)
  | some _, some n => if n = 1 then some none else none
  | _, _ => none

def valC (v : Value) : Option D := (valD v).map D.canon
def zeroC (P : Program) (t : TypeId) : Option D := ((P.info? t).bind (·.zero)).bind valC
def zeroD (P : Program) (t : TypeId) : Option D := ((P.info? t).bind (·.zero)).bind valD

def jr (P : Program) : List Field → Option (List (Nat × Nat))
  | [] => some []
  | f :: r => match sizeD P f.type, jr P r with
    | some n, some l => some ((f.offset, n) :: l)
    | _, _ => none

def f9 (pl : List (Nat × Nat)) : List (Nat × Operand) → Option (List (Nat × Nat × IOpd))
  | [] => some []
  | (i, x) :: r => match pl[i]?, cOpd x, f9 pl r with
    | some (o, n), some a, some b => some ((o, n, a) :: b)
    | _, _, _ => none

def b9 (P : Program) (b : Builtin) (args : List IOpd) (ts : List TypeId) : Option IOp :=
  match b, args, ts with
  | .len, [x], [t] => match P.underlying t with
    | some .string => some (.len true x)
    | some (.slice _) => some (.len false x)
    | _ => none
  | .min, xs, _ => some (.minmax false xs)
  | .max, xs, _ => some (.minmax true xs)
  | .append, [x, y], [t, u] => match P.underlying t, P.underlying u with
    | some (.slice e), some (.slice e') => match P.info? e, zeroD P e with
      | some i, some zd => if e = e' ∧ i.size ≠ 0 ∧ i.bytes ≠ 0 ∧ zd.cells.length = i.size then some (.append i.size i.bytes x y) else none
      | _, _ => none
    | some (.slice e), some .string => match P.info? e, P.underlying e, zeroD P e with
      | some i, some (.int .u8), some (.int .u8 _) => if i.size = 1 ∧ i.bytes = 1 then some (.appendS x y) else none
      | _, _, _ => none
    | _, _ => none
  | .copy, [x, y], [t, u] => match P.underlying t, P.underlying u with
    | some (.slice e), some (.slice e') => match sizeD P e, sizeD P e' with
      | some z, some z' => if z = z' ∧ z ≠ 0 then some (.copy z x y) else none
      | _, _ => none
    | _, _ => none
  | _, _, _ => none

def j8 : TypeDesc → Option ECls
  | .bool => some .bool
  | .pointer _ => some .ptr
  | .func _ _ _ => some .func
  | .interface _ => some .iface
  | _ => none

/-- fields of one cell each, one behind the other, which are held against each other as they are -/
def flatK (P : Program) (f : Field) : Option Nat :=
  match P.underlying f.type with
  | some (.int _) => some 0
  | some .bool => some 1
  | some .string => some 2
  | _ => none
def ahz (P : Program) (i : Nat) : List Field → Option (List Nat)
  | [] => some []
  | f :: r => match flatK P f, ahz P (i + 1) r with
    | some k, some ks => if f.name ≠ "_" ∧ f.offset = i ∧ zOpt P f.type = some none then some (k :: ks) else none
    | _, _ => none
def ah0 (P : Program) (t : TypeId) (fs : Array Field) : Option (List Nat) := if P.stoodInHeld t ∨ P.eqGuardType P.depth t then none else ahz P 0 fs.toList

def cOp (P : Program) (own : Bool) : Op → Option IOp
  | .move x => (cOpd x).map .mv
  | .assign x => (cOpd x).map .asg
  | .pick c a b => match cOpd c, cOpd a, cOpd b with
    | some c, some a, some b => some (.pick c a b)
    | _, _, _ => none
  | .alloc t => match zeroD P t, sizeD P t with
    | some z, some n => if z.cells.length = n ∧ n ≠ 0 then some (.alloc z.cells) else none
    | _, _ => none
  | .box t x => match cOpd x, sizeD P t with
    | some x, some n => if n ≠ 0 then some (.box n x) else none
    | _, _ => none
  | .build t ps => match P.underlying t, zeroD P t with
    | some (.struct fs), some (.agg zs) => match jr P fs.toList with
      | some pl => (f9 pl ps.toList).map (if own then .buildR zs.length else .build zs)
      | none => none
    | some (.array _ e), some (.agg zs) => match sizeD P e with
      | some z => (dc ps.toList).map fun l => .build zs (l.map fun p => (p.1 * z, z, p.2))
      | none => none
    | _, _ => none
  | .buildSlice t n ps => match P.underlying t with
    | some (.slice e) => match sizeD P e, zeroC P e, dc ps.toList with
      | some z, some zd, some l => if z ≠ 0 ∧ z ≤ 1000 ∧ n ≤ 1000 then some (.lit own z n zd l) else none
      | _, _, _ => none
    | _ => none
  | .load t a => match zOpt P t, cOpd a with
    | some z, some a => some (.load z a)
    | _, _ => none
  | .store t a x => match sizeD P t, cOpd a, cOpd x with
    | some n, some a, some x => some (.store n a x)
    | _, _, _ => none
  | .nilCheck x => (cOpd x).map .nilck
  | .binOp op t x y _ => match cOpd x, cOpd y, P.underlying t with
    | some x, some y, some (.int _) => some (.bin op x y)
    | some x, some y, some .string => some (.bin op x y)
    | some x, some (.c .nilS), some (.slice _) => match op with
      | .eql => some (.isNil false x)
      | .neq => some (.isNil true x)
      | _ => none
    | some x, some y, some (.struct fs) => match ah0 P t fs, op with
      | some ks, .eql => some (.eqn false (.agg ks) x y)
      | some ks, .neq => some (.eqn true (.agg ks) x y)
      | _, _ => none
    | some x, some y, some d => match j8 d, op with
      | some c, .eql => some (.eqn false c x y)
      | some c, .neq => some (.eqn true c x y)
      | _, _ => none
    | _, _, _ => none
  | .unOp op _ x => (cOpd x).map (.un op)
  | .convert s d x => match P.underlying s, P.underlying d, cOpd x with
    | some (.int _), some (.int k), some x => some (.cvInt k x)
    | some .string, some .string, some x => some (.cvStr x)
    | some (.slice e), some .string, some x => match P.underlying e with
      | some (.int .u8) => some (.b2s x)
      | _ => none
    | some .string, some (.slice e), some x => match P.underlying e, sizeD P e with
      | some (.int .u8), some 1 => some (.s2b own x)
      | _, _ => none
    | some (.slice _), some (.slice e), some x => match P.underlying e with
      | some (.int .u8) => if s = d ∧ sizeD P e = some 1 then some (.cvB own x) else none
      | _ => none
    | _, _, _ => none
  | .makeInterface t x => match P.underlying t, cOpd x with
    | some (.interface _), _ => none
    | some _, some x => some (.mkI t x)
    | _, _ => none
  | .makeFunc (.func f) a b => match cOpds a.toList, cOpds b.toList with
    | some a, some b => some (.mkF f a b)
    | _, _ => none
  | .makeSlice t l c => match P.underlying t with
    | some (.slice e) => match P.info? e, zeroC P e, cOpd l, cOpd c with
      | some i, some zd, some l, some c => if i.size ≠ 0 then some (.mkS i.size i.bytes zd l c) else none
      | _, _, _, _ => none
    | _ => none
  | .slice t x lo hi mx => match P.underlying t, cOpd x, cOpdO lo, cOpdO hi, cOpdO mx with
    | some (.slice e), some x, some lo, some hi, some mx => match sizeD P e with
      | some z => if z ≠ 0 then some (.slice z x lo hi mx) else none
      | none => none
    | some .string, some x, some lo, some hi, some none => some (.sliceS x lo hi)
    | _, _, _, _, _ => none
  | .fieldAddr t x f => match P.underlying t, cOpd x with
    | some (.struct fs), some x => match fs[f]? with
      | some fd => match sizeD P fd.type with
        | some n => if n ≠ 0 then some (.fieldA fd.offset x) else none
        | none => none
      | none => none
    | _, _ => none
  | .field t x f => match P.underlying t, cOpd x with
    | some (.struct fs), some x => match fs[f]? with
      | some fd => (zOpt P fd.type).map fun z => .field fd.offset z x
      | none => none
    | _, _ => none
  | .indexAddr t x i => match P.underlying t, cOpd x, cOpd i with
    | some (.slice e), some x, some i => match sizeD P e with
      | some z => if z ≠ 0 then some (.idxA z x i) else none
      | none => none
    | some (.array n e), some x, some i => match sizeD P e with
      | some z => if z ≠ 0 then some (.idxB n z x i) else none
      | none => none
    | _, _, _ => none
  | .index t x i => match P.underlying t, cOpd x, cOpd i with
    | some .string, some x, some i => some (.idxS x i)
    | some (.array n e), some x, some i => match zOpt P e with
      | some none => some (.idxC n 1 false x i)
      | some (some z) => some (.idxC n z true x i)
      | none => none
    | _, _, _ => none
  | .typeAssert x _ t ok => match P.underlying t, zeroC P t, cOpd x with
    | some (.interface _), _, _ => none
    | some _, some z, some x => some (.tass t z ok x)
    | _, _, _ => none
  | .extract x i => (cOpd x).map fun x => .ext x i
  | .call c => match cOpds c.args.toList with
    | some args => match c.callee with
      | .value (.func f) => some (.call own f args)
      | .value x => (cOpd x).map fun x => .callv own x args
      | .invoke r m => (cOpd r).map fun r => .inv own r m args
      | .builtin b => b9 P b args c.argTypes.toList
    | none => none
  | _ => none

def okDst (nt : Nat) : Option Nat → Bool
  | some k => decide (k < nt)
  | none => true

/-- calls that are given an array -/
def gOp (g : Option Nat) (io : IOp) : IOp :=
  match g, io with
  | some i, .call own f args => .callg own f args i
  | _, io => io

def cOper (P : Program) (ad : Advice) (nt : Nat) (dsts : List (Option Nat)) (o : Oper) : Option IOper :=
  let io := gOp (o.dst.bind (lk ad.give)) ((cOp P ((o.dst.map ad.own.contains).getD false) o.op).getD .bad)
  if okDst nt o.dst then match o.guard with
    | none => some ⟨o.dst, none, io⟩
    | some (j, b) => match dsts[j]? with
      | some (some k) => some ⟨o.dst, some (k, b), io⟩
      | _ => none
    else none

def mo (P : Program) (ad : Advice) (nt : Nat) (dsts : List (Option Nat)) : List Oper → Option (List IOper)
  | [] => some []
  | o :: r => match cOper P ad nt dsts o, mo P ad nt dsts r with
    | some a, some b => some (a :: b)
    | _, _ => none

/-- each once -/
def uadd (x : Nat) (u : List Nat) : List Nat := if u.contains x then u else x :: u
def uniq : List Nat → List Nat
  | [] => []
  | x :: r => uadd x (uniq r)

/-- what must come ahead of each operation, all the way back -/
def am : List (List Nat) → List (List Nat) → List (List Nat)
  | acc, [] => acc
  | acc, es :: r => am (acc ++ [uniq (es.foldl (fun a e => e :: ((acc[e]?).getD [] ++ a)) [])]) r

def ae (o : Oper) : List Nat := (o.after.toList.filter (Region.binds .any)).map (·.on)

def aj (bs : List (List Nat)) : List (Nat × Nat) :=
  (List.range bs.length).flatMap fun j => ((List.range j).filter fun i => !((bs[j]?).getD []).contains i).map fun i => (i, j)

/-- what must come ahead of an operation stands ahead of it -/
def backw : Nat → List (List Nat) → Bool
  | _, [] => true
  | i, es :: r => es.all (fun e => decide (e < i)) && backw (i + 1) r

def look (l : List (Nat × List Nat)) (k : Nat) : List Nat := (lk l k).getD []

/-- what may stand in a range over a function -/
def d9 : Code → Bool
  | .region _ ops _ => ops.toList.all fun o => match o.op with
    | .defer _ => false
    | _ => true
  | .seq a b | .cond _ a b => d9 a && d9 b
  | .block _ b | .loop b => d9 b
  | .skip | .exit _ | .ret => true
  | _ => false

def cCode (P : Program) (ad : Advice) (nt : Nat) : Code → Option ICode
  | .skip => some .skip
  | .region id ops draw => match mo P ad nt (ops.toList.map (·.dst)) ops.toList with
    | some l =>
      if draw && !backw 0 (ops.toList.map ae) then some .bad else
      let un := if draw then aj (am [] (ops.toList.map ae)) else []
      let r := ICode.region l un (look ad.keep id)
      let r := if (look ad.cool id).isEmpty then r else .seq (.give (look ad.cool id)) r
      let r := if (look ad.demote id).isEmpty then r else .seq (.demote (look ad.demote id)) r
      some ((look ad.free id).foldl (fun c k => .seq (.free k) c) r)
    | none => none
  | .seq a b => match cCode P ad nt a, cCode P ad nt b with
    | some a, some b => some (.seq a b)
    | _, _ => none
  | .cond x a b => match cOpd x, cCode P ad nt a, cCode P ad nt b with
    | some x, some a, some b => some (.cond x a b)
    | _, _, _ => none
  | .block id b => (cCode P ad nt b).map (.block id)
  | .loop b => (cCode P ad nt b).map .loop
  | .rangeFunc g ps a b => if d9 a && d9 b && ps.toList.all (fun p => decide (p < nt)) then match cOpd g, cCode P ad nt a, cCode P ad nt b with
      | some x, some a, some b => some (.each x ps.toList a b)
      | _, _, _ => none
    else some .bad
  | .exit id => some (.exit id)
  | .ret => some .ret
  | _ => some .bad

def p4 : Code → Bool
  | .ret => true
  | .seq _ b => p4 b
  | _ => false

/-- a way that returns early, and what comes behind it as the other way -/
def cRot (P : Program) (ad : Advice) (nt : Nat) : Code → Option ICode
  | .seq (.seq a (.cond x p .skip)) b =>
    if p4 p then match cCode P ad nt a, cOpd x, cCode P ad nt p, cRot P ad nt b with
      | some a, some x, some p, some b => some (.seq a (.cond x p b))
      | _, _, _, _ => none
    else match cCode P ad nt (.seq a (.cond x p .skip)), cRot P ad nt b with
      | some a, some b => some (.seq a b)
      | _, _ => none
  | .seq a b => match cCode P ad nt a, cRot P ad nt b with
    | some a, some b => some (.seq a b)
    | _, _ => none
  | c => cCode P ad nt c

def cRes (P : Program) : List ResultVar → Option (List IRes)
  | [] => some []
  | .tmp t :: r => (cRes P r).map (.t t :: ·)
  | .cell a t :: r => match zOpt P t, cRes P r with
    | some z, some l => some (.cell a z :: l)
    | _, _ => none

def cFunc (P : Program) (ad : Advice) (fn : Func) : Option IFunc :=
  match fn.body with
  | some c => match cRot P ad fn.ntmps c, cRes P fn.results.toList with
    | some b, some rs => if fn.params.size + fn.nfree ≤ fn.ntmps then some ⟨fn.params.size + fn.nfree, rs, b⟩ else none
    | _, _ => none
  | none => none

end Go.Ev
