import Derived.Test.YtkdiccgfbfbjlaaGreatMeB
import Derived.RowKit
namespace Go.Me
open Go
inductive Ex where
 |normal
 |exit (id:Nat)
 |ret
structure S where
 s:Tr M
 H:Hp
def wantM (ops:Array Oper) (s:Tr M) (o:Oper):Option Bool:=match o.guard with
 |none=>some true
 | some (j,want)=>match(ops[j]?).bind (·.dst) with
  | some d=>match s.get d with
   |some (.bool b)=>some (b==want)
   |some .junk=>none
   |some _=>some false
   |none=>none
  |none=>some false
def putM (N:Nat) (s:Tr M) (d:Option Nat) (x:M):Option (Tr M):=match d with
 |none=>some s
 |some k=>bif Nat.blt k N then some (s.put k x) else none
inductive Did where
 |no
 |pure (x:M)
 |mk (x:M) (b:Nat)
 |eff (x:M)
 deriving Inhabited
def Did.val:Did→M
 | .no=> .tup []
 | .pure x=>x
 | .mk x _=>x
 | .eff x=>x
section
variable (C:Cfg) (call:FuncId→List M→Hp→Option (M×Hp))
def did (b:Nat→Nat) (up:Hp→Ob→Hp) (ops:Array Oper) (s:Tr M) (H:Hp) (o:Oper):Option (Did×Hp):=match wantM ops s o with
 |none=>none
 |some false=>some (.no,H)
 | some true=>match evPure C H s o with
  |some x=>some (.pure x,H)
  | none=>match evMk C s o with
   |some (ob,f)=>some (.mk (f (b H.n)) (b H.n),up H ob)
   | none=>match evEff C H s call o with
    |some (x,H')=>some (.eff x,H')
    |none=>none
def evOps (ops:Array Oper) (N:Nat):List Oper→S→Option S
 | [],st=>some st
 | o::r,st=>match did C call id Hp.push ops st.s st.H o with
  | some (d,H)=>match putM N st.s o.dst d.val with
   |some s=>evOps ops N r ⟨s,H⟩
   |none=>none
  |none=>none
structure Rec where
 i:Nat
 o:Oper
 s:Tr M
 st:Nat
 d:Did
def isEff:Did→Bool
 | .eff _=>true
 |_=>false
def Hp.lay (b:Nat) (H:Hp) (o:Ob):Hp:=⟨H.n,H.t.put b o⟩
def restr:List Nat→Tr M→Tr M
 | [],_=> .lf
 | k::l,s=>match s.get k with
  |some x=>(restr l s).put k x
  |none=>restr l s
def yg (n0:Nat) (ops:Array Oper) (N:Nat):List Oper→Nat→Nat→S→Option (List Rec×List Hp×S)
 | [],_,_,t=>some ([],[t.H],t)
 | o::r,i,st,t=>match did C call (fun _=>n0+i) (Hp.lay (n0+i)) ops (restr (o.looksAt ops) t.s) t.H o with
  | some (d,H)=>match putM N t.s o.dst d.val with
   |some s=>match yg n0 ops N r (i+1) (bif isEff d then st+1 else st) ⟨s,H⟩ with
    |some (l,hs,e)=>some (⟨i,o,restr (o.looksAt ops) t.s,st,d⟩::l,bif isEff d then t.H::hs else hs,e)
    |none=>none
   |none=>none
  |none=>none
def n4 (acc:List Nat):List Edge→Nat
 | []=>0
 |e::r=>bif Region.binds .any e then 2 ^ e.on ||| acc.getD e.on 0 ||| n4 acc r else n4 acc r
def masks:List Oper→List Nat→List Nat
 | [],acc=>acc
 |o::r,acc=>masks r (acc++[n4 acc o.after.toList])
def bef (m:List Nat) (i j:Nat):Bool:=(m.getD j 0).testBit i
def ue:Nat→List Oper→Bool
 |_,[]=>true
 |i,o::r=>o.after.toList.all (fun e=> !Region.binds .any e||Nat.blt e.on i)&&ue (i+1) r
def axm (m:List Nat) (ops:Array Oper) (l:List Rec) (r:Rec):Bool:=
 (r.o.looksAt ops).all fun t=>l.all fun q=>bif q.o.dst==some t then bef m q.i r.i&&Nat.blt q.i r.i||bef m r.i q.i&&Nat.blt r.i q.i else true
def tw:List Rec→Bool
 | []=>true
 |r::l=>(match r.o.dst with|some d=>l.all fun q=> !(q.o.dst==some d)|none=>true)&&tw l
def pairOk (m:List Nat) (l:List Rec) (r:Rec):Bool:=
 bif isEff r.d then l.all fun q=>bif isEff q.d&&Nat.blt q.i r.i then bef m q.i r.i else true else true
def mayAt (m:List Nat) (l:List Rec) (r:Rec) (j:Nat):Bool:=
 l.all fun q=>bif isEff q.d then(bif Nat.blt q.st j then !(bef m r.i q.i) else !(bef m q.i r.i)) else true
def om (m:List Nat) (l:List Rec) (r:Rec) (x:M):Nat→List Hp→Bool
 |_,[]=>true
 |j,H::hs=>(bif mayAt m l r j then(match evPure C H r.s r.o with
  |some y=>M.beq x y
  |none=>false) else true)&&om m l r x (j+1) hs
def recOk (m:List Nat) (ops:Array Oper) (l:List Rec) (hs:List Hp) (r:Rec):Bool:=
 axm m ops l r&&pairOk m l r&&(match r.d with| .pure x=>om C m l r x 0 hs|_=>true)
def a34 (ops:Array Oper) (N:Nat) (t:S):Option S:=match yg C call t.H.n ops N ops.toList 0 0 ⟨t.s,⟨t.H.n+ops.size,t.H.t⟩⟩ with
 | some (l,hs,e)=>let m:=masks ops.toList []
  bif ue 0 ops.toList&&tw l&&l.all (recOk C m ops l hs) then some e else none
 |none=>none
def iterM (f:S→Option (Ex×S)):Nat→S→Option (Ex×S)
 |0,_=>none
 | n+1,t=>match f t with
  |some (.normal,t')=>iterM f n t'
  |r=>r
def setPs (N:Nat):List Tmp→List M→Tr M→Option (Tr M)
 | [],[],s=>some s
 | p::ps,x::xs,s=>match putM N s (some p) x with
  |some s'=>setPs N ps xs s'
  |none=>none
 |_,_,_=>none
def fw (N:Nat) (ps:List Tmp) (items:Hp→Option (M×List (List M))) (key:M) (len:Nat) (body:S→Option (Ex×S)) (s:Tr M):Nat→Nat→Hp→Option (Ex×Hp)
 |0,_,_=>none
 | k+1,i,H=>match items H with
  | some (key',l)=>bif M.beq key key'&&l.length==len then(match l[i]? with
   |none=>some (.normal,H)
   | some x=>match setPs N ps x s with
    | some s'=>match body ⟨s',H⟩ with
     |some (.normal,t)=>fw N ps items key len body s k (i+1) t.H
     |some (e,t)=>some (e,t.H)
     |none=>none
    |none=>none) else none
  |none=>none
def roundOk:Code→Bool
 | .region _ ops _=>ops.toList.all fun o=>match o.op with
  | .defer _=>false
  |_=>true
 | .seq a b| .cond _ a b=>roundOk a&&roundOk b
 | .block _ b| .loop b=>roundOk b
 | .skip| .label _| .exit _| .ret=>true
 |_=>false
def evC (L N:Nat):Code→S→Option (Ex×S)
 | .skip,t=>some (.normal,t)
 | .label _,t=>some (.normal,t)
 | .region _ ops draw,t=>match(bif draw then a34 C call ops N t else evOps C call ops N ops.toList t) with
  |some t'=>some (.normal,t')
  |none=>none
 | .seq a b,t=>match evC L N a t with
  |some (.normal,t')=>evC L N b t'
  |r=>r
 | .cond c a b,t=>match val t.s c with
  |some (.bool true)=>evC L N a t
  |some (.bool false)=>evC L N b t
  |_=>none
 | .block id b,t=>match evC L N b t with
  |some (.exit i,t')=>bif i==id then some (.normal,t') else some (.exit i,t')
  |r=>r
 | .loop b,t=>iterM (evC L N b) L t
 | .exit id,t=>some (.exit id,t)
 | .ret,t=>some (.ret,t)
 | .rangeFunc f ps a b,t=>match val t.s f with
  | some (.fn (.func g) [] caps)=>match C.iter g with
   | some it=>bif roundOk a&&roundOk b then(match it caps t.H with
    |some (key,l)=>match fw N ps.toList (it caps) key l.length (fun t=>match evC L N a t with
      |some (.normal,t')=>evC L N b t'
      |_=>none) t.s L 0 t.H with
     |some (e,H)=>some (e,⟨t.s,H⟩)
     |none=>none
    |none=>none) else none
   |none=>none
  |_=>none
 |_,_=>none
def resM1 (H:Hp) (s:Tr M):ResultVar→Option M
 | .tmp t=>s.get t
 | .cell a t=>match s.get a with
  |some p=>loadM C H t p
  |none=>none
def resMs (H:Hp) (s:Tr M):List ResultVar→Option (List M)
 | []=>some []
 | r::l=>match resM1 C H s r,resMs H s l with
  |some x,some xs=>some (x::xs)
  |_,_=>none
def resM (H:Hp) (s:Tr M) (l:List ResultVar):Option M:=match resMs C H s l with
 |some [x]=>some x
 |some xs=>some (.tup xs)
 |none=>none
end
def extP (C:Cfg) (f:FuncId) (args:List M) (H:Hp):Option (M×Hp):=match toVs args with
 | some vs=>match ct C.P (callFunc f vs.toArray) with
  | some (.value v)=>match ofV v with
   |some x=>some (x,H)
   |none=>none
  |_=>none
 |none=>none
def evF (C:Cfg):Nat→FuncId→List M→Hp→Option (M×Hp)
 |0=>fun _ _ _=>none
 | n+1=>fun f args H=>match C.ext f with
  |some g=>g args H
  | none=>match C.fn f with
   | some F=>match F.body with
    | some c=>match evC C (evF C n) n F.ntmps c ⟨trOf 0 .lf args,H⟩ with
     | some (.normal,t)|some (.ret,t)=>match resM C t.H t.s F.results.toList with
      |some x=>some (x,t.H)
      |none=>none
     |_=>none
    |none=>extP C f args H
   |none=>none
end Go.Me
namespace Go.Me
open Go
class Gam where
 at_:Nat→Nat×Nat
variable [Gam]
set_option linter.unusedSectionVars false
structure Nm where
 at_:Nat→Option Nat
 rm:Nat→Nat×Nat
instance:CoeFun Nm (fun _=>Nat→Option Nat):=⟨Nm.at_⟩
def Nm.none:Nm:=⟨fun _=>Option.none,fun _=>(0,0)⟩
inductive VR (ν:Nm):M→Value→Prop
 |bool (b:Bool):VR ν (.bool b) (.bool b)
 |int (k:IntKind) (n:Int):VR ν (.int k n) (.int k n)
 |str (s:List UInt8):VR ν (.str s) (.string ⟨s.toArray⟩)
 |ptr (b o c:Nat) (h:ν b=some c):VR ν (.ptr b o) (.pointer (some ⟨c,o+(ν.rm b).2,none⟩))
 |glob (g o:Nat):VR ν (.glob g o) (.pointer (some ⟨g,o,none⟩))
 |vg (g o:Nat):VR ν (.vg g o) (.pointer (some ⟨(Gam.at_ g).1,o+(Gam.at_ g).2,none⟩))
 |vsl (g o n cap:Nat) (hc:n≤cap):VR ν (.vsl g o n) (.slice (some ⟨(Gam.at_ g).1,o+(Gam.at_ g).2,none⟩) n cap)
 |nilP:VR ν .nilP (.pointer none)
 |sl (b o n:Nat) (k:Option Nat) (c cap:Nat) (h:ν b=some c) (hc:n≤cap) (hk:∀ m,k=some m→cap=m) (hr:k=none→o=0→cap=(ν.rm b).1):VR ν (.sl b o n k) (.slice (some ⟨c,o+(ν.rm b).2,none⟩) n cap)
 |slz (a:Addr) (cap:Nat):VR ν .slz (.slice (some a) 0 cap)
 |nilS:VR ν .nilS (.slice none 0 0)
 |fn (f:Fn) (p q:List M) (vp vq:List Value) (hp:p.length=vp.length) (hq:q.length=vq.length)
  (h:∀ (i:Nat) x v,p[i]? =some x→vp[i]? =some v→VR ν x v) (h':∀ (i:Nat) x v,q[i]? =some x→vq[i]? =some v→VR ν x v):VR ν (.fn f p q) (.func f vp.toArray vq.toArray)
 |nilF:VR ν .nilF .nilFunc
 |ifc (t:TypeId) (x:M) (v:Value) (h:VR ν x v):VR ν (.ifc t x) (.iface t v)
 |nilI:VR ν .nilI .nilIface
 |map (b c:Nat) (h:ν b=some c):VR ν (.map b) (.map (some c))
 |nilM:VR ν .nilM (.map none)
 |agg (l:List M) (vs:List Value) (hl:l.length=vs.length) (h:∀ (i:Nat) x v,l[i]? =some x→vs[i]? =some v→VR ν x v):VR ν (.agg l) (.agg vs.toArray)
 |tup (l:List M) (vs:List Value) (hl:l.length=vs.length) (h:∀ (i:Nat) x v,l[i]? =some x→vs[i]? =some v→VR ν x v):VR ν (.tup l) (.tuple vs.toArray)
 |junk (v:Value):VR ν .junk v
def VRs (ν:Nm) (l:List M) (vs:List Value):Prop:=l.length=vs.length∧∀ (i:Nat) x v,l[i]? =some x→vs[i]? =some v→VR ν x v
def Nm.le (ν ν':Nm):Prop:=∀ b c,ν b=some c→ν' b=some c∧ν'.rm b=ν.rm b
theorem VR.mono {ν ν':Nm} {x:M} {v:Value} (h:VR ν x v) (hl:ν.le ν'):VR ν' x v:=by
 induction h with
 |bool b=>exact .bool b
 |int k n=>exact .int k n
 |str s=>exact .str s
 |ptr b o c h=>rw[← (hl _ _ h).2];exact .ptr b o c (hl _ _ h).1
 |glob g o=>exact .glob g o
 |vg g o=>exact .vg g o
 |vsl g o n cap h=>exact .vsl g o n cap h
 |nilP=>exact .nilP
 |sl b o n k c cap h hc hk hr=>rw[← (hl _ _ h).2];exact .sl b o n k c cap (hl _ _ h).1 hc hk fun h1 h2=>by rw[(hl _ _ h).2];exact hr h1 h2
 |slz a cap=>exact .slz a cap
 |nilS=>exact .nilS
 |fn f p q vp vq hp hq _ _ ih ih'=>exact .fn f p q vp vq hp hq ih ih'
 |nilF=>exact .nilF
 |ifc t x v _ ih=>exact .ifc t x v ih
 |nilI=>exact .nilI
 |map b c h=>exact .map b c (hl _ _ h).1
 |nilM=>exact .nilM
 |agg l vs hl' _ ih=>exact .agg l vs hl' ih
 |tup l vs hl' _ ih=>exact .tup l vs hl' ih
 |junk v=>exact .junk v
theorem VR.ptr0 {ν:Nm} {b o c:Nat} (h:ν b=some c) (hs:(ν.rm b).2=0):VR ν (.ptr b o) (.pointer (some ⟨c,o,none⟩)):=by
 have:=VR.ptr (ν:=ν) b o c h
 rwa [hs] at this
theorem VR.sl0 {ν:Nm} {b o n:Nat} {k:Option Nat} {c cap:Nat} (h:ν b=some c) (hs:(ν.rm b).2=0) (hc:n≤cap) (hk:∀ m,k=some m→cap=m) (hr:k=none→o=0→cap=(ν.rm b).1):VR ν (.sl b o n k) (.slice (some ⟨c,o,none⟩) n cap):=by
 have:=VR.sl (ν:=ν) b o n k c cap h hc hk hr
 rwa [hs] at this
namespace VRs
variable {ν:Nm}
theorem nil:VRs ν [] []:=⟨rfl,fun i x v h=>by simp at h⟩
theorem cons {x:M} {v:Value} {l:List M} {vs:List Value} (h:VR ν x v) (hl:VRs ν l vs):VRs ν (x::l) (v::vs):=by
 refine⟨by simp[hl.1],fun i y u h1 h2=> ?_⟩
 cases i with
 |zero=>simp at h1 h2;subst h1;subst h2;exact h
 |succ i=>simp at h1 h2;exact hl.2 i y u h1 h2
theorem inv_nil {vs:List Value} (h:VRs ν [] vs):vs=[]:=List.eq_nil_of_length_eq_zero h.1.symm
theorem inv_cons {x:M} {l:List M} {vs:List Value} (h:VRs ν (x::l) vs):∃ v r,vs=v::r∧VR ν x v∧VRs ν l r:=by
 cases vs with
 |nil=>have:=h.1;simp at this
 |cons v r=>exact⟨v,r,rfl,h.2 0 x v rfl rfl,by have:=h.1;simpa using this,fun i y u h1 h2=>h.2 (i+1) y u (by simpa using h1) (by simpa using h2)⟩
theorem app {l m:List M} {vs us:List Value} (h:VRs ν l vs) (k:VRs ν m us):VRs ν (l++m) (vs++us):=by
 induction l generalizing vs with
 |nil=>rw[h.inv_nil];exact k
 | cons x l ih=>
  obtain⟨v,r,rfl,h1,h2⟩:=h.inv_cons;exact .cons h1 (ih h2)
theorem get {l:List M} {vs:List Value} (h:VRs ν l vs) {i:Nat} {x:M} (hx:l[i]? =some x):∃ v,vs[i]? =some v∧VR ν x v:=by
 have hi:i<l.length:=(List.getElem?_eq_some_iff.1 hx).1;have hi':i<vs.length:=by rw[← h.1];exact hi
 exact⟨vs[i],List.getElem?_eq_getElem hi',h.2 i x _ hx (List.getElem?_eq_getElem hi')⟩
theorem mono {ν':Nm} {l:List M} {vs:List Value} (h:VRs ν l vs) (hl:ν.le ν'):VRs ν' l vs:=⟨h.1,fun i x v h1 h2=>(h.2 i x v h1 h2).mono hl⟩
theorem drop {l:List M} {vs:List Value} (h:VRs ν l vs) (n:Nat):VRs ν (l.drop n) (vs.drop n):=⟨by simp[h.1],fun i x v h1 h2=>h.2 (n+i) x v (by simpa using h1) (by simpa using h2)⟩
theorem take {l:List M} {vs:List Value} (h:VRs ν l vs) (n:Nat):VRs ν (l.take n) (vs.take n):=by
 refine⟨by simp[h.1],fun i x v h1 h2=> ?_⟩
 rw[List.getElem?_take] at h1 h2;split at h1
 · rename_i hi;rw[if_pos hi] at h2;exact h.2 i x v h1 h2
 · cases h1
theorem set {l:List M} {vs:List Value} (h:VRs ν l vs) (n:Nat) {x:M} {v:Value} (hx:VR ν x v):VRs ν (l.set n x) (vs.set n v):=by
 refine⟨by simp[h.1],fun i y u h1 h2=> ?_⟩
 rw[List.getElem?_set] at h1 h2;split at h1
 · rename_i hi
   rw[if_pos hi] at h2;split at h1
   · rename_i hl
     rw[if_pos (by rw[← h.1];exact hl)] at h2
     cases h1;cases h2;exact hx
   · cases h1
 · rename_i hi;rw[if_neg hi] at h2;exact h.2 i y u h1 h2
end VRs
section
variable {ν:Nm}
theorem VR.agg' {l:List M} {vs:List Value} (h:VRs ν l vs):VR ν (.agg l) (.agg vs.toArray):= .agg l vs h.1 h.2
theorem VR.tup' {l:List M} {vs:List Value} (h:VRs ν l vs):VR ν (.tup l) (.tuple vs.toArray):= .tup l vs h.1 h.2
theorem VR.agg_inv {l:List M} {v:Value} (h:VR ν (.agg l) v):∃ vs,v= .agg vs.toArray∧VRs ν l vs:=by cases h with|agg _ vs hl h=>exact⟨vs,rfl,hl,h⟩
theorem VR.tup_inv {l:List M} {v:Value} (h:VR ν (.tup l) v):∃ vs,v= .tuple vs.toArray∧VRs ν l vs:=by cases h with|tup _ vs hl h=>exact⟨vs,rfl,hl,h⟩
theorem VR.ifc_inv {t:TypeId} {x:M} {v:Value} (h:VR ν (.ifc t x) v):∃ u,v= .iface t u∧VR ν x u:=by cases h with|ifc _ _ u h=>exact⟨u,rfl,h⟩
theorem VR.fn_inv {f:Fn} {p q:List M} {v:Value} (h:VR ν (.fn f p q) v):∃ vp vq:List Value,v= .func f vp.toArray vq.toArray∧VRs ν p vp∧VRs ν q vq:=by
 cases h with|fn _ _ _ vp vq hp hq h h'=>exact⟨vp,vq,rfl,⟨hp,h⟩,hq,h'⟩
theorem VR.cell {x:M} {v:Value} (h:VR ν x v) (hx:x.cell=true):(∀ a,v≠ .agg a)∧(∀ a,v≠ .tuple a)∧v.cells= #[v]:=by
 cases h<;>first| (simp[M.cell] at hx;done)|exact⟨by simp,by simp,rfl⟩
theorem VR.cells {x:M} {v:Value} (h:VR ν x v) (hx:x.cells.all M.cell=true):VRs ν x.cells v.cells.toList:=by
 by_cases hc:x.cell=true
 · have:x.cells=[x]:=by cases x<;>first|rfl| (simp[M.cell] at hc;done)
   rw[this,(h.cell hc).2.2];exact .cons h .nil
 · cases h with
   |agg l vs hl h=>exact⟨by simpa[M.cells,Value.cells] using hl,fun i x v h1 h2=>h i x v (by simpa[M.cells] using h1) (by simpa[Value.cells] using h2)⟩
   |tup=>simp[M.cells,M.cell] at hx
   |junk=>simp[M.cells,M.cell] at hx
   |_=>simp[M.cell] at hc
mutual
theorem VR.toV:∀ {x:M} {v u:Value},VR ν x v→Me.toV x=some u→v=u
 | .bool b,v,u,h,e=>by cases h;simpa[Me.toV] using e
 | .int k n,v,u,h,e=>by cases h;simpa[Me.toV] using e
 | .str s,v,u,h,e=>by cases h;simpa[Me.toV] using e
 | .ptr b o,v,u,h,e=>by simp[Me.toV] at e
 | .glob g o,v,u,h,e=>by cases h;simpa[Me.toV] using e
 | .vg g o,v,u,h,e=>by simp[Me.toV] at e
 | .vsl g o n,v,u,h,e=>by simp[Me.toV] at e
 | .nilP,v,u,h,e=>by cases h;simpa[Me.toV] using e
 | .sl b o n c,v,u,h,e=>by simp[Me.toV] at e
 | .slz,v,u,h,e=>by simp[Me.toV] at e
 | .nilS,v,u,h,e=>by cases h;simpa[Me.toV] using e
 | .fn f p q,v,u,h,e=>by simp[Me.toV] at e
 | .nilF,v,u,h,e=>by cases h;simpa[Me.toV] using e
 | .ifc t x,v,u,h,e=>by
  obtain⟨w,rfl,hw⟩:=h.ifc_inv;unfold Me.toV at e;split at e
  · rename_i u' hu
    cases e;rw[VR.toV hw hu]
  · cases e
 | .nilI,v,u,h,e=>by cases h;simpa[Me.toV] using e
 | .map b,v,u,h,e=>by simp[Me.toV] at e
 | .nilM,v,u,h,e=>by cases h;simpa[Me.toV] using e
 | .agg l,v,u,h,e=>by
  obtain⟨vs,rfl,hv⟩:=h.agg_inv;unfold Me.toV at e;split at e
  · rename_i us hu
    cases e;rw[VRs.toVs hv hu]
  · cases e
 | .tup l,v,u,h,e=>by simp[Me.toV] at e
 | .junk,v,u,h,e=>by simp[Me.toV] at e
theorem VRs.toVs:∀ {l:List M} {vs us:List Value},VRs ν l vs→Me.toVs l=some us→vs=us
 | [],vs,us,h,e=>by rw[h.inv_nil];simpa[Me.toVs] using e
 | x::l,vs,us,h,e=>by
  obtain⟨v,r,rfl,h1,h2⟩:=h.inv_cons;unfold Me.toVs at e;split at e
  · rename_i a b ha hb
    cases e;rw[VR.toV h1 ha,VRs.toVs h2 hb]
  · cases e
end
theorem gh {v:Value} {x:M} (e:ofV0 v=some x):VR ν x v:=by
 unfold ofV0 at e;split at e<;>first| (cases e;done)|skip
 all_goals cases e
 · exact .bool _
 · exact .int _ _
 · exact .str _
 · exact .nilP
 · exact .glob _ _
 · exact .nilS
 · exact .nilM
 · exact .nilF
 · exact .nilI
theorem afe:∀ {l:List Value} {xs:List M},ofVs l=some xs→VRs ν xs l
 | [],_,e=>by simp[ofVs] at e;subst e;exact .nil
 | v::l,xs,e=>by
  unfold ofVs at e;split at e
  · rename_i h1 h2
    cases e;exact .cons (gh h1) (afe h2)
  · cases e
theorem ajz {v:Value} {x:M} (e:ofV v=some x):VR ν x v:=by
 unfold ofV at e;split at e
 · split at e
   · rename_i h;cases e;have:=afe (ν:=ν) h;exact VR.agg' this
   · cases e
 · split at e
   · rename_i h;cases e;have:=afe (ν:=ν) h;exact .ifc _ _ _ (VR.agg' this)
   · cases e
 · split at e
   · rename_i h;cases e;exact .ifc _ _ _ (gh h)
   · cases e
 · exact gh e
end
theorem pureRun_run {α:Type} {P:Program} (w:World):∀ {s:Sem α} {a:α},ct P s=some a→s.run P w= .ok a w:=by
 intro s
 induction s with
 |pure b=>intro a h;simp[ct] at h;subst h;rfl
 |program k ih=>intro a h;exact ih P h
 |mark m k ih=>intro a h;exact ih h
 |_=>intro a h;simp[ct] at h
