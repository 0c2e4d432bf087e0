import Derived.Test.YtplmdlobbfcknaaGreatDoorMeB
namespace Go.Me
open Go
inductive Ex where
 |normal
 |exit (id:Nat)
 |ret
structure S where
 s:Tr M
 H:Hp
def wantM (ops:Array Oper) (s:Tr M) (o:Oper):Option Bool:=match o.guard with
 |none=>some true
 | some (j,want)=>match(ops[j]?).bind (·.dst) with
  | some d=>match s.get d with
   |some (.bool b)=>some (b==want)
   |some .junk=>none
   |some _=>some false
   |none=>none
  |none=>some false
def putM (N:Nat) (s:Tr M) (d:Option Nat) (x:M):Option (Tr M):=match d with
 |none=>some s
 |some k=>bif Nat.blt k N then some (s.put k x) else none
inductive Did where
 |no
 |pure (x:M)
 |mk (x:M) (b:Nat)
 |eff (x:M)
 deriving Inhabited
def Did.val:Did→M
 | .no=> .tup []
 | .pure x=>x
 | .mk x _=>x
 | .eff x=>x
section
variable (C:Cfg) (call:FuncId→List M→Hp→Option (M×Hp))
def did (b:Nat→Nat) (up:Hp→Ob→Hp) (ops:Array Oper) (s:Tr M) (H:Hp) (o:Oper):Option (Did×Hp):=match wantM ops s o with
 |none=>none
 |some false=>some (.no,H)
 | some true=>match evPure C H s o with
  |some x=>some (.pure x,H)
  | none=>match evMk C s o with
   |some (ob,f)=>some (.mk (f (b H.n)) (b H.n),up H ob)
   | none=>match evEff C H s call o with
    |some (x,H')=>some (.eff x,H')
    |none=>none
def evOps (ops:Array Oper) (N:Nat):List Oper→S→Option S
 | [],st=>some st
 | o::r,st=>match did C call id Hp.push ops st.s st.H o with
  | some (d,H)=>match putM N st.s o.dst d.val with
   |some s=>evOps ops N r ⟨s,H⟩
   |none=>none
  |none=>none
structure Rec where
 i:Nat
 o:Oper
 s:Tr M
 st:Nat
 d:Did
def isEff:Did→Bool
 | .eff _=>true
 |_=>false
def Hp.lay (b:Nat) (H:Hp) (o:Ob):Hp:=⟨H.n,H.t.put b o⟩
def restr:List Nat→Tr M→Tr M
 | [],_=> .lf
 | k::l,s=>match s.get k with
  |some x=>(restr l s).put k x
  |none=>restr l s
def ye (n0:Nat) (ops:Array Oper) (N:Nat):List Oper→Nat→Nat→S→Option (List Rec×List Hp×S)
 | [],_,_,t=>some ([],[t.H],t)
 | o::r,i,st,t=>match did C call (fun _=>n0+i) (Hp.lay (n0+i)) ops (restr (o.looksAt ops) t.s) t.H o with
  | some (d,H)=>match putM N t.s o.dst d.val with
   |some s=>match ye n0 ops N r (i+1) (bif isEff d then st+1 else st) ⟨s,H⟩ with
    |some (l,hs,e)=>some (⟨i,o,restr (o.looksAt ops) t.s,st,d⟩::l,bif isEff d then t.H::hs else hs,e)
    |none=>none
   |none=>none
  |none=>none
def pg (acc:List Nat):List Edge→Nat
 | []=>0
 |e::r=>bif Region.binds .any e then 2 ^ e.on ||| acc.getD e.on 0 ||| pg acc r else pg acc r
def masks:List Oper→List Nat→List Nat
 | [],acc=>acc
 |o::r,acc=>masks r (acc++[pg acc o.after.toList])
def bef (m:List Nat) (i j:Nat):Bool:=(m.getD j 0).testBit i
def u9:Nat→List Oper→Bool
 |_,[]=>true
 |i,o::r=>o.after.toList.all (fun e=> !Region.binds .any e||Nat.blt e.on i)&&u9 (i+1) r
def asz (m:List Nat) (ops:Array Oper) (l:List Rec) (r:Rec):Bool:=
 (r.o.looksAt ops).all fun t=>l.all fun q=>bif q.o.dst==some t then bef m q.i r.i&&Nat.blt q.i r.i||bef m r.i q.i&&Nat.blt r.i q.i else true
def uv:List Rec→Bool
 | []=>true
 |r::l=>(match r.o.dst with|some d=>l.all fun q=> !(q.o.dst==some d)|none=>true)&&uv l
def pairOk (m:List Nat) (l:List Rec) (r:Rec):Bool:=
 bif isEff r.d then l.all fun q=>bif isEff q.d&&Nat.blt q.i r.i then bef m q.i r.i else true else true
def mayAt (m:List Nat) (l:List Rec) (r:Rec) (j:Nat):Bool:=
 l.all fun q=>bif isEff q.d then(bif Nat.blt q.st j then !(bef m r.i q.i) else !(bef m q.i r.i)) else true
def pr (m:List Nat) (l:List Rec) (r:Rec) (x:M):Nat→List Hp→Bool
 |_,[]=>true
 |j,H::hs=>(bif mayAt m l r j then(match evPure C H r.s r.o with
  |some y=>M.beq x y
  |none=>false) else true)&&pr m l r x (j+1) hs
def recOk (m:List Nat) (ops:Array Oper) (l:List Rec) (hs:List Hp) (r:Rec):Bool:=
 asz m ops l r&&pairOk m l r&&(match r.d with| .pure x=>pr C m l r x 0 hs|_=>true)
def a0y (ops:Array Oper) (N:Nat) (t:S):Option S:=match ye C call t.H.n ops N ops.toList 0 0 ⟨t.s,⟨t.H.n+ops.size,t.H.t⟩⟩ with
 | some (l,hs,e)=>let m:=masks ops.toList []
  bif u9 0 ops.toList&&uv l&&l.all (recOk C m ops l hs) then some e else none
 |none=>none
def iterM (f:S→Option (Ex×S)):Nat→S→Option (Ex×S)
 |0,_=>none
 | n+1,t=>match f t with
  |some (.normal,t')=>iterM f n t'
  |r=>r
def setPs (N:Nat):List Tmp→List M→Tr M→Option (Tr M)
 | [],[],s=>some s
 | p::ps,x::xs,s=>match putM N s (some p) x with
  |some s'=>setPs N ps xs s'
  |none=>none
 |_,_,_=>none
def gg (N:Nat) (ps:List Tmp) (items:Hp→Option (M×List (List M))) (key:M) (len:Nat) (body:S→Option (Ex×S)) (s:Tr M):Nat→Nat→Hp→Option (Ex×Hp)
 |0,_,_=>none
 | k+1,i,H=>match items H with
  | some (key',l)=>bif M.beq key key'&&l.length==len then(match l[i]? with
   |none=>some (.normal,H)
   | some x=>match setPs N ps x s with
    | some s'=>match body ⟨s',H⟩ with
     |some (.normal,t)=>gg N ps items key len body s k (i+1) t.H
     |some (e,t)=>some (e,t.H)
     |none=>none
    |none=>none) else none
  |none=>none
def roundOk:Code→Bool
 | .region _ ops _=>ops.toList.all fun o=>match o.op with
  | .defer _=>false
  |_=>true
 | .seq a b| .cond _ a b=>roundOk a&&roundOk b
 | .block _ b| .loop b=>roundOk b
 | .skip| .label _| .exit _| .ret=>true
 |_=>false
def evC (L N:Nat):Code→S→Option (Ex×S)
 | .skip,t=>some (.normal,t)
 | .label _,t=>some (.normal,t)
 | .region _ ops draw,t=>match(bif draw then a0y C call ops N t else evOps C call ops N ops.toList t) with
  |some t'=>some (.normal,t')
  |none=>none
 | .seq a b,t=>match evC L N a t with
  |some (.normal,t')=>evC L N b t'
  |r=>r
 | .cond c a b,t=>match val t.s c with
  |some (.bool true)=>evC L N a t
  |some (.bool false)=>evC L N b t
  |_=>none
 | .block id b,t=>match evC L N b t with
  |some (.exit i,t')=>bif i==id then some (.normal,t') else some (.exit i,t')
  |r=>r
 | .loop b,t=>iterM (evC L N b) L t
 | .exit id,t=>some (.exit id,t)
 | .ret,t=>some (.ret,t)
 | .rangeFunc f ps a b,t=>match val t.s f with
  | some (.fn (.func g) [] caps)=>match C.iter g with
   | some it=>bif roundOk a&&roundOk b then(match it caps t.H with
    |some (key,l)=>match gg N ps.toList (it caps) key l.length (fun t=>match evC L N a t with
      |some (.normal,t')=>evC L N b t'
      |_=>none) t.s L 0 t.H with
     |some (e,H)=>some (e,⟨t.s,H⟩)
     |none=>none
    |none=>none) else none
   |none=>none
  |_=>none
 |_,_=>none
def resM1 (H:Hp) (s:Tr M):ResultVar→Option M
 | .tmp t=>s.get t
 | .cell a t=>match s.get a with
  |some p=>loadM C H t p
  |none=>none
def resMs (H:Hp) (s:Tr M):List ResultVar→Option (List M)
 | []=>some []
 | r::l=>match resM1 C H s r,resMs H s l with
  |some x,some xs=>some (x::xs)
  |_,_=>none
def resM (H:Hp) (s:Tr M) (l:List ResultVar):Option M:=match resMs C H s l with
 |some [x]=>some x
 |some xs=>some (.tup xs)
 |none=>none
end
def extP (C:Cfg) (f:FuncId) (args:List M) (H:Hp):Option (M×Hp):=match toVs args with
 | some vs=>match cn C.P (callFunc f vs.toArray) with
  | some (.value v)=>match ofV v with
   |some x=>some (x,H)
   |none=>none
  |_=>none
 |none=>none
def evF (C:Cfg):Nat→FuncId→List M→Hp→Option (M×Hp)
 |0=>fun _ _ _=>none
 | n+1=>fun f args H=>match C.ext f with
  |some g=>g args H
  | none=>match C.fn f with
   | some F=>match F.body with
    | some c=>match evC C (evF C n) n F.ntmps c ⟨trOf 0 .lf args,H⟩ with
     | some (.normal,t)|some (.ret,t)=>match resM C t.H t.s F.results.toList with
      |some x=>some (x,t.H)
      |none=>none
     |_=>none
    |none=>extP C f args H
   |none=>none
end Go.Me
namespace Go.Me
open Go Go.Extern.Rtype
def kindQ (P:Program) (t:TypeId):Option Nat:=cn P (kind t)
def a0f (P:Program) (t:TypeId):M:= .glob P.globals.size t
def gj (P:Program):M→Option TypeId
 | .glob g o=>if g=P.globals.size then some o else none
 |_=>none
def vn (P:Program):List M→Hp→Option (M×Hp)
 | [.ifc t v],H=>match kindQ P t with
  |some k=>bif v.cells.all M.cell then some (.agg [a0f P t,.ptr H.n 0,.int .u64 (k+128:Nat)],H.push (obOf 0 v.cells)) else none
  |none=>none
 |_,_=>none
def vw (P:Program) (t:TypeId):Option M:=match cn P (Extern.ReflectliteType.toType t) with
 |some v=>ofV v
 |none=>none
def ae3 (P:Program):List M→Hp→Option (M×Hp)
 | [.ifc t _],H=>match vw P t with
  |some x=>some (x,H)
  |none=>none
 | [.nilI],H=>some (.nilI,H)
 |_,_=>none
def asc (P:Program):List M→Hp→Option (M×Hp)
 | [.agg [h,.ptr _ _,.int .u64 f]],H=>bif f==0 then none else match gj P h with
  | some t=>match vw P t with
   |some x=>some (x,H)
   |none=>none
  |none=>none
 |_,_=>none
def packQ (P:Program) (t:TypeId):Bool:= !P.packed t
def ae2 (C:Cfg):List M→Hp→Option (M×Hp)
 | [.agg [h,.ptr b o,.int .u64 (.ofNat f)]],H=>match gj C.P h with
  | some t=>bif packQ C.P t&&(f % 32==22) then(match und C t with
   | some (.pointer _)=>(match H.rd b o with
    |some (.ptr _ _)=>some (.bool false,H)
    |some .nilP=>some (.bool true,H)
    |_=>none)
   |_=>none) else none
  |none=>none
 |_,_=>none
def ase (C:Cfg):List M→Hp→Option (M×Hp)
 | [.agg [h,.ptr b o,.int .u64 (.ofNat f)]],H=>match gj C.P h with
  | some t=>bif packQ C.P t&&(f % 32==22) then(match und C t with
   | some (.pointer e)=>(match cn C.P (elem? t),kindQ C.P e,H.rd b o with
    |some (some e'),some k,some (.ptr c p)=>bif e'==e then some (.agg [a0f C.P e,.ptr c p,.int .u64 (k+128+256:Nat)],H) else none
    |_,_,_=>none)
   |_=>none) else none
  |none=>none
 |_,_=>none
def xVSet (C:Cfg):List M→Hp→Option (M×Hp)
 | [.agg [h,.ptr b o,.int .u64 (.ofNat f)],.agg [h',.ptr c p,.int .u64 (.ofNat f')]],H=>match gj C.P h,gj C.P h' with
  | some d,some s=>bif packQ C.P d&&packQ C.P s&&(f / 256 % 2==1)&& !(f'==0) then(match loadM C H s (.ptr c p) with
   | some v=>(match cn C.P (directlyAssignable d s) with
    | some true=>(match storeM C H d (.ptr b o) v with
     |some (_,H')=>some (.tup [],H')
     |none=>none)
    |_=>none)
   |none=>none) else none
  |_,_=>none
 |_,_=>none
