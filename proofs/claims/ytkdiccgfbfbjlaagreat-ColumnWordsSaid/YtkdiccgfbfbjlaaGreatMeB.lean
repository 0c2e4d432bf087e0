import Derived.Test.YtkdiccgfbfbjlaaGreatMeA
namespace Go.Me
open Go
structure Cfg where
 P:Program
 fn:FuncId→Option Func
 ext:FuncId→Option (List M→Hp→Option (M×Hp))
 gobj:Nat→Option (List M)
 meth:TypeId→String→Option (FuncId×Option Nat)
 iter:FuncId→Option (List M→Hp→Option (M×List (List M)))
 vobj:Nat→Option (List M):=fun _=>none
def ct {α:Type} (P:Program):Sem α→Option α
 | .pure a=>some a
 | .program k=>ct P (k P)
 | .mark _ k=>ct P k
 |_=>none
def ofV0:Value→Option M
 | .bool b=>some (.bool b)
 | .int k n=>some (.int k n)
 | .string s=>some (.str s.data.toList)
 | .pointer none=>some .nilP
 | .pointer (some ⟨g,o,none⟩)=>some (.glob g o)
 | .slice none 0 0=>some .nilS
 | .map none=>some .nilM
 | .nilFunc=>some .nilF
 | .nilIface=>some .nilI
 |_=>none
def ofVs:List Value→Option (List M)
 | []=>some []
 | v::l=>match ofV0 v,ofVs l with
  |some x,some r=>some (x::r)
  |_,_=>none
def ofV:Value→Option M
 | .agg cs=>match ofVs cs.toList with
  |some l=>some (.agg l)
  |none=>none
 | .iface t (.agg cs)=>match ofVs cs.toList with
  |some l=>some (.ifc t (.agg l))
  |none=>none
 | .iface t v=>match ofV0 v with
  |some x=>some (.ifc t x)
  |none=>none
 |v=>ofV0 v
mutual
def toV:M→Option Value
 | .bool b=>some (.bool b)
 | .int k n=>some (.int k n)
 | .str s=>some (.string ⟨s.toArray⟩)
 | .nilP=>some (.pointer none)
 | .glob g o=>some (.pointer (some ⟨g,o,none⟩))
 | .nilS=>some (.slice none 0 0)
 | .nilM=>some (.map none)
 | .nilF=>some .nilFunc
 | .nilI=>some .nilIface
 | .ifc t v=>match toV v with
  |some u=>some (.iface t u)
  |none=>none
 | .agg l=>match toVs l with
  |some vs=>some (.agg vs.toArray)
  |none=>none
 |_=>none
def toVs:List M→Option (List Value)
 | []=>some []
 | x::l=>match toV x,toVs l with
  |some v,some r=>some (v::r)
  |_,_=>none
end
section
variable (C:Cfg) (H:Hp) (s:Tr M)
def val:Operand→Option M
 | .tmp t=>s.get t
 | .const v=>ofV v
 | .global g=>some (.glob g 0)
 | .func f=>some (.fn (.func f) [] [])
def vals:List Operand→Option (List M)
 | []=>some []
 | x::l=>match val s x,vals l with
  |some v,some r=>some (v::r)
  |_,_=>none
def valO:Option Operand→Option (Option M)
 |none=>some none
 | some x=>match val s x with
  |some v=>some (some v)
  |none=>none
def und (t:TypeId):Option TypeDesc:=C.P.underlying t
def size (t:TypeId):Option Nat:=match C.P.info? t with
 |some i=>some i.size
 |none=>none
def zero (t:TypeId):Option M:=match C.P.info? t with
 | some i=>match i.zero with
  |some v=>ofV v
  |none=>none
 |none=>none
def aggQ (t:TypeId):Option Bool:=match und C t with
 |some (.struct _)=>some true
 |some (.array _ _)=>some true
 |some _=>some false
 |none=>none
def packM (t:TypeId) (l:List M):Option M:=match aggQ C t with
 |some true=>some (.agg l)
 | some false=>match l with
  | [x]=>some x
  |_=>none
 |none=>none
def rdsG (l:List M):Nat→Nat→Option (List M)
 |_,0=>some []
 | i,n+1=>match l[i]?,rdsG l (i+1) n with
  |some x,some r=>some (x::r)
  |_,_=>none
def loadM (t:TypeId):M→Option M
 | .ptr b o=>match aggQ C t,size C t with
  | some true,some n=>match H.rds b o n with
   |some l=>some (.agg l)
   |none=>none
  |some false,_=>H.rd b o
  |_,_=>none
 | .glob g o=>match C.gobj g with
  | some cs=>match aggQ C t,size C t with
   | some true,some n=>match rdsG cs o n with
    |some l=>some (.agg l)
    |none=>none
   |some false,_=>cs[o]?
   |_,_=>none
  |none=>none
 | .vg g o=>match C.vobj g with
  | some cs=>match aggQ C t,size C t with
   | some true,some n=>match rdsG cs o n with
    |some l=>some (.agg l)
    |none=>none
   |some false,_=>cs[o]?
   |_,_=>none
  |none=>none
 |_=>none
def eqM (d:TypeDesc) (x y:M):Option Bool:=match d with
 | .pointer _=>match x,y with
  | .ptr _ _,.nilP=>some false
  | .nilP,.ptr _ _=>some false
  |_,_=>none
 | .slice _=>match x,y with
  | .sl _ _ _ _,.nilS=>some false
  | .nilS,.sl _ _ _ _=>some false
  | .slz,.nilS=>some false
  | .nilS,.slz=>some false
  |_,_=>none
 | .func _ _ _=>match x,y with
  | .fn _ _ _,.nilF=>some false
  | .nilF,.fn _ _ _=>some false
  |_,_=>none
 | .map _ _=>match x,y with
  | .map _,.nilM=>some false
  | .nilM,.map _=>some false
  |_,_=>none
 | .interface _=>match x,y with
  | .ifc _ _,.nilI=>some false
  | .nilI,.ifc _ _=>some false
  | .ifc t _,.ifc u _=>bif t==u then none else some false
  |_,_=>none
 |_=>none
def binM (op:BinOp) (t:TypeId) (X Y:Operand) (x y:M):Option M:=
 match toV x,toV y with
 | some u,some v=>match ct C.P (do eqGuard op t X Y u v;binOp op t u v) with
  |some r=>ofV0 r
  |none=>none
 | _,_=>match und C t with
  | some d=>match op,eqM d x y with
   | .eql,some b=>some (.bool b)
   | .neq,some b=>some (.bool (!b))
   |_,_=>none
  |none=>none
def bytesM:List M→Option (List UInt8)
 | []=>some []
 | .int .u8 n::l=>match bytesM l with
  |some r=>some (UInt8.ofNat n.toNat::r)
  |none=>none
 |_=>none
def convM (src dst:TypeId) (x:M):Option M:=
 match x with
 | .sl b o n c=>match und C src,und C dst with
  | some (.slice e),some .string=>match und C e with
   | some (.int .u8)=>match H.rds b o n with
    | some l=>match bytesM l with
     |some r=>some (.str r)
     |none=>none
    |none=>none
   |_=>none
  | some (.slice _),some (.slice e)=>bif src==dst&&(match H.get b with|some (.cells _ _ _ _)=>true|_=>false) then(match und C e with
   |some (.int .u8)=>some (.sl b o n c)
   |_=>none) else none
  |_,_=>none
 | .slz=>match und C src,und C dst with
  | some (.slice e),some .string=>match und C e with
   |some (.int .u8)=>some (.str [])
   |_=>none
  |_,_=>none
 | _=>match toV x with
  | some v=>match ct C.P (convert src dst v) with
   |some r=>ofV0 r
   |none=>none
  |none=>none
def bound:Option M→Nat→Nat→Option Nat
 |none,d,_=>some d
 | some (.int _ i),_,m=>match i with
  | .ofNat k=>bif Nat.ble k m then some k else none
  |_=>none
 |_,_,_=>none
def bnds (n top:Nat) (lo hi mx:Option M):Option (Nat×Nat×Option Nat):=match mx with
 | some x=>match hi with
  |none=>none
  | some y=>match bound (some x) 0 top with
   | some m=>match bound (some y) 0 m with
    | some h=>match bound lo 0 h with
     |some l=>some (l,h,some m)
     |none=>none
    |none=>none
   |none=>none
 | none=>match bound hi n top with
  | some h=>match bound lo 0 h with
   |some l=>some (l,h,none)
   |none=>none
  |none=>none
def cutM (b o z l h m:Nat):M:= .sl b (bif m==l then o else o+l*z) (h-l) (some (m-l))
def sliceM (t:TypeId) (x:M) (lo hi mx:Option M):Option M:=
 match x with
 | .sl b o n c=>match und C t with
  | some (.slice e)=>match size C e with
   | some z=>match bnds n (c.getD n) lo hi mx with
    |some (l,h,some m)=>some (cutM b o z l h m)
    | some (l,h,none)=>match c with
     |some k=>some (cutM b o z l h k)
     |none=>bif l==0 then some (.sl b o h none) else bif Nat.blt l n then(bif z==0 then none else some (.sl b (o+l*z) (h-l) none)) else some .slz
    |none=>none
   |none=>none
  |_=>none
 | .slz=>match und C t with
  | some (.slice e)=>match size C e,bnds 0 0 lo hi mx with
   |some _,some _=>some .slz
   |_,_=>none
  |_=>none
 | .nilS=>match und C t with
  | some (.slice e)=>match size C e,bnds 0 0 lo hi mx with
   |some _,some _=>some .nilS
   |_,_=>none
  |_=>none
 | .ptr b o=>match und C t with
  | some (.pointer a)=>match und C a with
   | some (.array n e)=>match size C e,bnds n n lo hi mx with
    |some z,some (l,h,m)=>some (cutM b o z l h (m.getD n))
    |_,_=>none
   |_=>none
  | some (.array n e)=>match size C e,bnds n n lo hi mx with
   |some z,some (l,h,m)=>some (cutM b o z l h (m.getD n))
   |_,_=>none
  |_=>none
 |_=>none
def optV:Option M→Option (Option Value)
 |none=>some none
 | some x=>match toV x with
  |some v=>some (some v)
  |none=>none
def sliceS (t:TypeId) (x:M) (lo hi mx:Option M):Option M:=
 match toV x,optV lo,optV hi,optV mx with
 | some v,some l,some h,some m=>match ct C.P (Instr.sliceAt t v l h m) with
  |some r=>ofV0 r
  |none=>none
 |_,_,_,_=>none
def fieldOf (t:TypeId) (f:Nat):Option Field:=match und C t with
 |some (.struct fs)=>fs[f]?
 |_=>none
def fieldAM (t:TypeId) (x:M) (f:Nat):Option M:=match fieldOf C t f with
 | some fd=>match size C fd.type with
  | some (_+1)=>match x with
   | .ptr b o=>some (.ptr b (o+fd.offset))
   | .glob g o=>some (.glob g (o+fd.offset))
   | .vg g o=>some (.vg g (o+fd.offset))
   |_=>none
  |_=>none
 |none=>none
def takeM (l:List M) (o n:Nat):List M:=(l.drop o).take n
def partM (t:TypeId) (l:List M) (o:Nat):Option M:=match aggQ C t with
 | some true=>match size C t with
  |some n=>some (.agg (takeM l o n))
  |none=>none
 |some false=>l[o]?
 |none=>none
def fieldM (t:TypeId) (x:M) (f:Nat):Option M:=match fieldOf C t f,x with
 |some fd,.agg l=>partM C fd.type l fd.offset
 |_,_=>none
def idxAM (t:TypeId) (x i:M):Option M:=match i with
 | .int _ (.ofNat k)=>match x with
  | .sl b o n _=>match und C t with
   | some (.slice e)=>match size C e with
    |some z=>bif Nat.blt k n then some (.ptr b (o+k*z)) else none
    |none=>none
   |_=>none
  | .ptr b o=>match und C t with
   | some (.array n e)=>match size C e with
    |some z=>bif Nat.blt k n then some (.ptr b (o+k*z)) else none
    |none=>none
   |_=>none
  | .glob g o=>match und C t with
   | some (.array n e)=>match size C e with
    |some z=>bif Nat.blt k n then some (.glob g (o+k*z)) else none
    |none=>none
   |_=>none
  | .vsl g o n=>match und C t with
   | some (.slice e)=>match size C e with
    |some z=>bif Nat.blt k n then some (.vg g (o+k*z)) else none
    |none=>none
   |_=>none
  |_=>none
 |_=>none
def idxM (t:TypeId) (x i:M):Option M:=match x with
 | .agg l=>match i with
  | .int _ (.ofNat k)=>match und C t with
   | some (.array n e)=>match size C e with
    |some z=>bif Nat.blt k n then partM C e l (k*z) else none
    |none=>none
   |_=>none
  |_=>none
 | _=>match toV x,toV i with
  | some u,some v=>match ct C.P (Instr.index t u v) with
   |some r=>ofV0 r
   |none=>none
  |_,_=>none
def setAt (l:List M) (o:Nat):List M→List M
 | []=>l
 |x::r=>setAt (l.set o x) (o+1) r
def fillM (place:Nat→Option (Nat×Nat)) (l:List M):List (Nat×M)→Option (List M)
 | []=>some l
 | (i,x)::r=>match place i with
  |some (o,z)=>bif x.cells.length==z&&Nat.ble (o+z) l.length&&x.cells.all M.cell then fillM place (setAt l o x.cells) r else none
  |none=>none
def placeS (fs:Array Field) (i:Nat):Option (Nat×Nat):=match fs[i]? with
 | some f=>match size C f.type with
  |some n=>some (f.offset,n)
  |none=>none
 |none=>none
def parts2:List (Nat×Operand)→Option (List (Nat×M))
 | []=>some []
 | (i,x)::l=>match val s x,parts2 l with
  |some v,some r=>some ((i,v)::r)
  |_,_=>none
def allSized:List Field→Bool
 | []=>true
 |f::l=>(match size C f.type with|some _=>true|none=>false)&&allSized l
def buildM (t:TypeId) (ps:List (Nat×M)):Option M:=match zero C t with
 | some zv=>match und C t with
  | some (.struct fs)=>bif allSized C fs.toList then(match fillM (placeS C fs) zv.cells ps with
   |some l=>some (.agg l)
   |none=>none) else none
  | some (.array _ e)=>match size C e with
   | some z=>match fillM (fun i=>some (i*z,z)) zv.cells ps with
    |some l=>some (.agg l)
    |none=>none
   |none=>none
  |_=>none
 |none=>none
def rep (z:List M):Nat→List M
 |0=>[]
 |n+1=>z++rep z n
def methsOk (want:Array (String×TypeId)) (t:TypeId):Option Bool:=match C.P.info? t with
 |some i=>some (want.toList.all fun p=>i.methods.toList.any fun m=>m.name==p.1&&m.sig==p.2)
 |none=>none
def tassM (x:M) (_ t:TypeId) (ok:Bool):Option M:=match und C t with
 | some (.interface want)=>match x with
  | .ifc u v=>match methsOk C want u with
   |some true=>some (bif ok then .tup [.ifc u v,.bool true] else .ifc u v)
   |some false=>bif ok then(match zero C t with|some z=>some (.tup [z,.bool false])|none=>none) else none
   |none=>none
  | .nilI=>bif ok then(match zero C t with|some z=>some (.tup [z,.bool false])|none=>none) else none
  |_=>none
 | some _=>match x with
  | .ifc u v=>bif u==t then some (bif ok then .tup [v,.bool true] else v) else bif ok then(match zero C t with|some z=>some (.tup [z,.bool false])|none=>none) else none
  | .nilI=>bif ok then(match zero C t with|some z=>some (.tup [z,.bool false])|none=>none) else none
  |_=>none
 |none=>none
def keyEq (d:TypeDesc):M→M→Option Bool
 | .int k a,.int j b=>match d with
  | .int _=>bif decide (k=j) then some (a==b) else none
  |_=>none
 | .str a,.str b=>match d with
  | .string=>some (a==b)
  |_=>none
 | .bool a,.bool b=>match d with
  | .bool=>some (a==b)
  |_=>none
 |_,_=>none
def findM (d:TypeDesc) (k:M):List (M×M×Nat)→Nat→Option (Option (Nat×M))
 | [],_=>some none
 | (k',v,_)::r,i=>match keyEq d k k' with
  |some true=>some (some (i,v))
  |some false=>findM d k r (i+1)
  |none=>none
def plainKey:TypeDesc→Bool
 | .int _| .string| .bool=>true
 |_=>false
def entries:M→Option (List (M×M×Nat))
 | .nilM=>some []
 | .map b=>match H.get b with
  |some (.map es _)=>some es
  |_=>none
 |_=>none
def lookM (t:TypeId) (x k:M) (ok:Bool):Option M:=match und C t with
 | some (.map kt e)=>match und C kt with
  | some d=>bif plainKey d then(match zero C e,entries H x with
   | some z,some es=>match findM d k es 0 with
    |some (some (_,v))=>some (bif ok then .tup [v,.bool true] else v)
    |some none=>some (bif ok then .tup [z,.bool false] else z)
    |none=>none
   |_,_=>none) else none
  |none=>none
 |_=>none
def lenM (t:TypeId) (x:M):Option M:=match x,und C t with
 | .sl _ _ n _,some (.slice _)=>some (.int .i64 n)
 | .slz,some (.slice _)=>some (.int .i64 0)
 | .nilS,some (.slice _)=>some (.int .i64 0)
 | .vsl _ _ n,some (.slice _)=>some (.int .i64 n)
 | .str l,some .string=>some (.int .i64 l.length)
 | .map b,some (.map _ _)=>match H.get b with
  |some (.map es _)=>some (.int .i64 es.length)
  |_=>none
 | .nilM,some (.map _ _)=>some (.int .i64 0)
 | .ptr _ _,some (.pointer a)=>match und C a with
  |some (.array n _)=>some (.int .i64 n)
  |_=>none
 | .agg _,some (.array n _)=>some (.int .i64 n)
 |_,_=>none
def capM (t:TypeId) (x:M):Option M:=match x,und C t with
 | .sl _ _ _ (some c),some (.slice _)=>some (.int .i64 c)
 | .nilS,some (.slice _)=>some (.int .i64 0)
 |_,_=>none
def dataB (b:Builtin) (ts:Array TypeId) (t:TypeId) (l:List M):Option M:=match toVs l with
 | some vs=>match b with
  | .min=>(match ct C.P (Builtin.min_ ts t vs.toArray) with|some r=>ofV0 r|none=>none)
  | .max=>(match ct C.P (Builtin.max_ ts t vs.toArray) with|some r=>ofV0 r|none=>none)
  |_=>none
 |none=>none
def pureB (b:Builtin) (ts:Array TypeId) (t:TypeId) (l:List M):Option M:=match b with
 | .len=>match l,ts[0]? with
  | [x],some u=>lenM C H u x
  |_,_=>none
 | .cap=>match l,ts[0]? with
  | [x],some u=>capM C u x
  |_,_=>none
 |b=>dataB C b ts t l
def evPure (o:Oper):Option M:=match o.op with
 | .move x=>val s x
 | .assign x=>val s x
 | .pick c a b=>match val s c with
  |some (.bool true)=>val s a
  |some (.bool false)=>val s b
  |_=>none
 | .load t a=>match val s a with
  |some p=>loadM C H t p
  |none=>none
 | .nilCheck x=>match val s x with
  |some (.ptr b o)=>some (.ptr b o)
  |some (.glob b o)=>some (.glob b o)
  |some (.vg b o)=>some (.vg b o)
  |some (.fn (.func f) p q)=>some (.fn (.func f) p q)
  |some (.ifc t v)=>some (.ifc t v)
  |_=>none
 | .binOp op t x y _=>match val s x,val s y with
  |some u,some v=>binM C op t x y u v
  |_,_=>none
 | .unOp op _ x=>match val s x with
  | some u=>match toV u with
   | some v=>match ct C.P (Op.unary op v) with
    |some r=>ofV0 r
    |none=>none
   |none=>none
  |none=>none
 | .convert src dst x=>match val s x with
  |some u=>convM C H src dst u
  |none=>none
 | .makeInterface t x=>match val s x with
  | some u=>match und C t with
   |some (.interface _)=>none
   |some _=>some (.ifc t u)
   |none=>none
  |none=>none
 | .makeFunc (.func f) p q=>match vals s p.toList,vals s q.toList with
  |some l,some m=>some (.fn (.func f) l m)
  |_,_=>none
 | .build t ps=>match parts2 s ps.toList with
  |some l=>buildM C t l
  |none=>none
 | .slice t x lo hi mx=>match val s x,valO s lo,valO s hi,valO s mx with
  | some u,some l,some h,some m=>match u with
   | .str _=>sliceS C t u l h m
   |_=>sliceM C t u l h m
  |_,_,_,_=>none
 | .fieldAddr t x f=>match val s x with
  |some u=>fieldAM C t u f
  |none=>none
 | .field t x f=>match val s x with
  |some u=>fieldM C t u f
  |none=>none
 | .indexAddr t x i=>match val s x,val s i with
  |some u,some v=>idxAM C t u v
  |_,_=>none
 | .index t x i=>match val s x,val s i with
  |some u,some v=>idxM C t u v
  |_,_=>none
 | .lookup t x i ok=>match val s x,val s i with
  |some u,some v=>lookM C H t u v ok
  |_,_=>none
 | .typeAssert x xt t ok=>match val s x with
  |some u=>tassM C u xt t ok
  |none=>none
 | .extract x i=>match val s x with
  |some (.tup l)=>l[i]?
  |_=>none
 | .call {callee:= .builtin b,args:=as,argTypes:=ts}=>match vals s as.toList with
  |some l=>pureB C H b ts o.type l
  |none=>none
 |_=>none
def madeOb (z:Nat) (zv:M) (k:Nat):Option Ob:=bif z==1 then(match zv with
 | .agg _=>none
 |x=>some (.cells k 0 x .lf)) else bif zv.cells.length==z then some (obOf 0 (rep zv.cells k)) else none
def evMk (o:Oper):Option (Ob×(Nat→M)):=match o.op with
 | .alloc t=>match zero C t with
  |some z=>some (obOf 0 z.cells,fun b=> .ptr b 0)
  |none=>none
 | .box _ x=>match val s x with
  |some u=>bif u.cells.all M.cell then some (obOf 0 u.cells,fun b=> .ptr b 0) else none
  |none=>none
 | .buildSlice t n ps=>match parts2 s ps.toList with
  | some l=>match und C t with
   | some (.slice e)=>match size C e with
    | some z=>bif Nat.ble (n*z) 16777216 then(match(bif n*z==0 then some [] else(match zero C e with|some zv=>some (rep zv.cells n)|none=>none)) with
     | some zs=>bif zs.length==n*z then(match fillM (fun i=>some (i*z,z)) zs l with
      |some cs=>some (obOf 0 cs,fun b=> .sl b 0 n (some n))
      |none=>none) else none
     |none=>none) else none
    |none=>none
   |_=>none
  |none=>none
 | .makeSlice t l c=>match val s l,val s c with
  | some (.int _ (.ofNat n)),some (.int _ (.ofNat k))=>match und C t with
   | some (.slice e)=>match C.P.info? e with
    | some i=>bif Nat.ble n k&&Nat.ble (i.bytes*k) 281474976710656&&Nat.ble k 4294967296 then(match zero C e with
     | some zv=>match madeOb i.size zv k with
      |some ob=>some (ob,fun b=> .sl b 0 n (some k))
      |none=>none
     |none=>none) else none
    |none=>none
   |_=>none
  |_,_=>none
 | .makeMap t r=>match r with
  |none=>some (.map [] 0,fun b=> .map b)
  | some x=>match val s x,und C t with
   |some (.int _ _),some (.map _ _)=>some (.map [] 0,fun b=> .map b)
   |_,_=>none
 | .convert src dst x=>match val s x with
  | some (.str l)=>match und C src,und C dst with
   | some .string,some (.slice e)=>match und C e with
    |some (.int .u8)=>some (.cells l.length 1 .nilP (trOf 0 .lf (l.map fun c=> .int .u8 c.toNat)),fun b=> .sl b 0 l.length none)
    |_=>none
   |_,_=>none
  |_=>none
 |_=>none
def argCells (z:Nat):M→Option (List M)
 | .sl b o n _=>H.rds b o (n*z)
 | .slz=>some []
 | .nilS=>some []
 | .str l=>some (l.map fun c=> .int .u8 c.toNat)
 |_=>none
def argLen:M→Option Nat
 | .sl _ _ n _=>some n
 | .slz=>some 0
 | .nilS=>some 0
 | .str l=>some l.length
 |_=>none
def grown (z:Nat) (l y:List M) (n:Nat) (dead:Option Nat):M×Hp:=
 let H':=match dead with
  |some b=>H.put b .dead
  |none=>H
 (.sl H.n 0 n none,H'.push (.cells (l.length+y.length) z .nilP (trOf 0 .lf (l++y))))
def grownT (z:Nat) (t:Tr M) (d:M) (k:Nat) (y:List M) (n b:Nat):M×Hp:=
 (.sl H.n 0 n none,(H.put b .dead).push (.cells (k+y.length) z d (trOf k t y)))
def appendM (ts:Array TypeId) (x y:M):Option (M×Hp):=match ts[0]? with
 | some t=>match und C t with
  | some (.slice e)=>match C.P.info? e,(match ts[1]? with|some u=>(match und C u with|some (.int _)=>none|some _=>some ()|none=>none)|none=>none) with
   | some i,some ()=>match argLen y,argCells H i.size y with
    | some m,some ys=>bif ys.length==m*i.size&&Nat.ble (m*i.bytes) 1099511627776&&(ys.all M.cell&& !(i.size==0)&& !(i.bytes==0)&&(match i.zero with|some z=>z.cells.size==i.size|none=>false)) then(match m with
     | 0=>(match x with
      | .sl b o n c=>some (.sl b o n c,H)
      | .slz=>some (.slz,H)
      | .nilS=>some (.nilS,H)
      |_=>none)
     | _+1=>match x with
      | .nilS=>some (grown H i.size [] ys m none)
      | .sl b o n (some c)=>bif Nat.ble (n+m) c then(match H.wr b (o+n*i.size) ys with
        |some H'=>some (.sl b o (n+m) (some c),H')
        |none=>none)
       else(match H.rds b o (n*i.size) with
        |some l=>bif Nat.ble ((n+m+c)*i.bytes) 1099511627776 then some (grown H i.size l ys (n+m) none) else none
        |none=>none)
      | .sl b o n none=>match H.get b with
       |some (.cells k ex d t)=>bif ex==i.size&&o==0&&(k==n*i.size&&Nat.ble ((n+m)*i.bytes) 1099511627776&&Nat.blt b H.n) then some (grownT H i.size t d k ys (n+m) b) else none
       |_=>none
      |_=>none) else none
    |_,_=>none
   |_,_=>none
  |_=>none
 |none=>none
def copyM (ts:Array TypeId) (x y:M):Option (M×Hp):=match ts[0]? with
 | some t=>match und C t with
  | some (.slice e)=>match size C e,argLen y,x with
   | some z,some m,.sl b o n _=>match y with
    | .str _=>none
    | _=>match argCells H z y with
     | some ys=>match H.wr b o (ys.take (Nat.min m n*z)) with
      |some H'=>some (.int .i64 (Nat.min m n:Nat),H')
      |none=>none
     |none=>none
   |_,_,_=>none
  |_=>none
 |none=>none
def clearM (ts:Array TypeId) (x:M):Option (M×Hp):=match ts[0]? with
 | some t=>match und C t with
  | some (.slice e)=>match zero C e,x with
   | some z,.sl b o n _=>match H.wr b o (rep z.cells n) with
    |some H'=>some (.tup [],H')
    |none=>none
   |_,.slz=>some (.tup [],H)
   |_,.nilS=>some (.tup [],H)
   |_,_=>none
  |_=>none
 |none=>none
def mapSet (d:TypeDesc) (k v:M) (clock:Nat) (es:List (M×M×Nat)):Option (List (M×M×Nat)×Nat):=match findM d k es 0 with
 |some (some (i,_))=>some (es.modify i fun e=>(k,v,e.2.2),clock)
 |some none=>some (es++[(k,v,clock)],clock+1)
 |none=>none
def insM (t:TypeId) (x k v:M):Option (M×Hp):=match und C t with
 | some (.map kt _)=>match und C kt with
  | some d=>bif plainKey d then(match x with
   | .map b=>match H.get b with
    | some (.map es cl)=>match mapSet d k v cl es with
     |some (es',cl')=>bif Nat.blt b H.n then some (.tup [],H.put b (.map es' cl')) else none
     |none=>none
    |_=>none
   |_=>none) else none
  |none=>none
 |_=>none
def storeM (t:TypeId) (p x:M):Option (M×Hp):=match p with
 | .ptr b o=>match size C t with
  | some n=>bif x.cells.length==n then(match H.wr b o x.cells with
   |some H'=>some (.tup [],H')
   |none=>none) else none
  |none=>none
 |_=>none
def zerosM (ts:Array TypeId) (x y:M):Option (M×Hp):=match x,y with
 | .nilS,.int .i64 (.ofNat k)=>match ts[0]?,ts[1]? with
  | some t,some u=>match und C t,und C u with
   | some (.slice e),some (.int .i64)=>match C.P.info? e with
    | some i=>match i.zero with
     |some (.int kz nz)=>bif i.size==1&&i.bytes==1&&(Nat.blt 0 k&&Nat.blt k 1048576) then some (.sl H.n 0 k none,H.push (.cells 0 1 .nilP .lf)) else none
     |_=>none
    |none=>none
   |_,_=>none
  |_,_=>none
 |_,_=>none
def evEff (call:FuncId→List M→Hp→Option (M×Hp)) (o:Oper):Option (M×Hp):=match o.op with
 | .store t a x=>match val s a,val s x with
  |some p,some u=>storeM C H t p u
  |_,_=>none
 | .mapUpdate t m k x| .insert t m k x=>match val s m,val s k,val s x with
  |some u,some v,some y=>insM C H t u v y
  |_,_,_=>none
 | .call {callee:= .builtin b,args:=as,argTypes:=ts}=>match vals s as.toList with
  | some [x,y]=>match b with
   | .append=>match appendM C H ts x y with
    |some r=>some r
    |none=>zerosM C H ts x y
   | .copy=>copyM C H ts x y
   |_=>none
  | some [x]=>match b with
   | .clear=>clearM C H ts x
   |_=>none
  |_=>none
 | .call {callee:= .value f,args:=as,..}=>match val s f,vals s as.toList with
  |some (.fn (.func g) p q),some l=>call g (p++l++q) H
  |_,_=>none
 | .call {callee:= .invoke r name,args:=as,..}=>match val s r,vals s as.toList with
  | some (.ifc t v),some l=>match C.meth t name with
   |some (g,none)=>call g (v::l) H
   | some (g,some i)=>match v with
    | .agg cs=>match cs[i]? with
     |some u=>call g (u::l) H
     |none=>none
    |_=>none
   |none=>none
  |_,_=>none
 |_=>none
end
