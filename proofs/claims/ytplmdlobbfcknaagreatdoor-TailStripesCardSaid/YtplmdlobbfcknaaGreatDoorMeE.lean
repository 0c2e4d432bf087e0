import Derived.Test.YtplmdlobbfcknaaGreatDoorMeX
import Derived.RowKit
import Derived.Laws.Cells
import Derived.Laws.Append
import Derived.Laws.IdiomCopy
namespace Go.Me
open Go
class Gam where
 at_:Nat→Nat×Nat
variable [Gam]
set_option linter.unusedSectionVars false
structure Nm where
 at_:Nat→Option Nat
 rm:Nat→Nat×Nat
instance:CoeFun Nm (fun _=>Nat→Option Nat):=⟨Nm.at_⟩
def Nm.none:Nm:=⟨fun _=>Option.none,fun _=>(0,0)⟩
inductive VR (ν:Nm):M→Value→Prop
 |bool (b:Bool):VR ν (.bool b) (.bool b)
 |int (k:IntKind) (n:Int):VR ν (.int k n) (.int k n)
 |str (s:List UInt8):VR ν (.str s) (.string ⟨s.toArray⟩)
 |ptr (b o c:Nat) (h:ν b=some c):VR ν (.ptr b o) (.pointer (some ⟨c,o+(ν.rm b).2,none⟩))
 |glob (g o:Nat):VR ν (.glob g o) (.pointer (some ⟨g,o,none⟩))
 |vg (g o:Nat):VR ν (.vg g o) (.pointer (some ⟨(Gam.at_ g).1,o+(Gam.at_ g).2,none⟩))
 |vsl (g o n cap:Nat) (hc:n≤cap):VR ν (.vsl g o n) (.slice (some ⟨(Gam.at_ g).1,o+(Gam.at_ g).2,none⟩) n cap)
 |nilP:VR ν .nilP (.pointer none)
 |sl (b o n:Nat) (k:Option Nat) (c cap:Nat) (h:ν b=some c) (hc:n≤cap) (hk:∀ m,k=some m→cap=m) (hr:k=none→o=0→cap=(ν.rm b).1):VR ν (.sl b o n k) (.slice (some ⟨c,o+(ν.rm b).2,none⟩) n cap)
 |slz (a:Addr) (cap:Nat):VR ν .slz (.slice (some a) 0 cap)
 |nilS:VR ν .nilS (.slice none 0 0)
 |fn (f:Fn) (p q:List M) (vp vq:List Value) (hp:p.length=vp.length) (hq:q.length=vq.length)
  (h:∀ (i:Nat) x v,p[i]? =some x→vp[i]? =some v→VR ν x v) (h':∀ (i:Nat) x v,q[i]? =some x→vq[i]? =some v→VR ν x v):VR ν (.fn f p q) (.func f vp.toArray vq.toArray)
 |nilF:VR ν .nilF .nilFunc
 |ifc (t:TypeId) (x:M) (v:Value) (h:VR ν x v):VR ν (.ifc t x) (.iface t v)
 |nilI:VR ν .nilI .nilIface
 |map (b c:Nat) (h:ν b=some c):VR ν (.map b) (.map (some c))
 |nilM:VR ν .nilM (.map none)
 |agg (l:List M) (vs:List Value) (hl:l.length=vs.length) (h:∀ (i:Nat) x v,l[i]? =some x→vs[i]? =some v→VR ν x v):VR ν (.agg l) (.agg vs.toArray)
 |tup (l:List M) (vs:List Value) (hl:l.length=vs.length) (h:∀ (i:Nat) x v,l[i]? =some x→vs[i]? =some v→VR ν x v):VR ν (.tup l) (.tuple vs.toArray)
 |junk (v:Value):VR ν .junk v
def VRs (ν:Nm) (l:List M) (vs:List Value):Prop:=l.length=vs.length∧∀ (i:Nat) x v,l[i]? =some x→vs[i]? =some v→VR ν x v
def Nm.le (ν ν':Nm):Prop:=∀ b c,ν b=some c→ν' b=some c∧ν'.rm b=ν.rm b
theorem VR.mono {ν ν':Nm} {x:M} {v:Value} (h:VR ν x v) (hl:ν.le ν'):VR ν' x v:=by
 induction h with
 |bool b=>exact .bool b
 |int k n=>exact .int k n
 |str s=>exact .str s
 |ptr b o c h=>rw[← (hl _ _ h).2];exact .ptr b o c (hl _ _ h).1
 |glob g o=>exact .glob g o
 |vg g o=>exact .vg g o
 |vsl g o n cap h=>exact .vsl g o n cap h
 |nilP=>exact .nilP
 |sl b o n k c cap h hc hk hr=>rw[← (hl _ _ h).2];exact .sl b o n k c cap (hl _ _ h).1 hc hk fun h1 h2=>by rw[(hl _ _ h).2];exact hr h1 h2
 |slz a cap=>exact .slz a cap
 |nilS=>exact .nilS
 |fn f p q vp vq hp hq _ _ ih ih'=>exact .fn f p q vp vq hp hq ih ih'
 |nilF=>exact .nilF
 |ifc t x v _ ih=>exact .ifc t x v ih
 |nilI=>exact .nilI
 |map b c h=>exact .map b c (hl _ _ h).1
 |nilM=>exact .nilM
 |agg l vs hl' _ ih=>exact .agg l vs hl' ih
 |tup l vs hl' _ ih=>exact .tup l vs hl' ih
 |junk v=>exact .junk v
theorem VR.ptr0 {ν:Nm} {b o c:Nat} (h:ν b=some c) (hs:(ν.rm b).2=0):VR ν (.ptr b o) (.pointer (some ⟨c,o,none⟩)):=by
 have:=VR.ptr (ν:=ν) b o c h
 rwa [hs] at this
theorem VR.sl0 {ν:Nm} {b o n:Nat} {k:Option Nat} {c cap:Nat} (h:ν b=some c) (hs:(ν.rm b).2=0) (hc:n≤cap) (hk:∀ m,k=some m→cap=m) (hr:k=none→o=0→cap=(ν.rm b).1):VR ν (.sl b o n k) (.slice (some ⟨c,o,none⟩) n cap):=by
 have:=VR.sl (ν:=ν) b o n k c cap h hc hk hr
 rwa [hs] at this
namespace VRs
variable {ν:Nm}
theorem nil:VRs ν [] []:=⟨rfl,fun i x v h=>by simp at h⟩
theorem cons {x:M} {v:Value} {l:List M} {vs:List Value} (h:VR ν x v) (hl:VRs ν l vs):VRs ν (x::l) (v::vs):=by
 refine⟨by simp[hl.1],fun i y u h1 h2=> ?_⟩
 cases i with
 |zero=>simp at h1 h2;subst h1;subst h2;exact h
 |succ i=>simp at h1 h2;exact hl.2 i y u h1 h2
theorem inv_nil {vs:List Value} (h:VRs ν [] vs):vs=[]:=List.eq_nil_of_length_eq_zero h.1.symm
theorem inv_cons {x:M} {l:List M} {vs:List Value} (h:VRs ν (x::l) vs):∃ v r,vs=v::r∧VR ν x v∧VRs ν l r:=by
 cases vs with
 |nil=>have:=h.1;simp at this
 |cons v r=>exact⟨v,r,rfl,h.2 0 x v rfl rfl,by have:=h.1;simpa using this,fun i y u h1 h2=>h.2 (i+1) y u (by simpa using h1) (by simpa using h2)⟩
theorem app {l m:List M} {vs us:List Value} (h:VRs ν l vs) (k:VRs ν m us):VRs ν (l++m) (vs++us):=by
 induction l generalizing vs with
 |nil=>rw[h.inv_nil];exact k
 | cons x l ih=>
  obtain⟨v,r,rfl,h1,h2⟩:=h.inv_cons;exact .cons h1 (ih h2)
theorem get {l:List M} {vs:List Value} (h:VRs ν l vs) {i:Nat} {x:M} (hx:l[i]? =some x):∃ v,vs[i]? =some v∧VR ν x v:=by
 have hi:i<l.length:=(List.getElem?_eq_some_iff.1 hx).1;have hi':i<vs.length:=by rw[← h.1];exact hi
 exact⟨vs[i],List.getElem?_eq_getElem hi',h.2 i x _ hx (List.getElem?_eq_getElem hi')⟩
theorem mono {ν':Nm} {l:List M} {vs:List Value} (h:VRs ν l vs) (hl:ν.le ν'):VRs ν' l vs:=⟨h.1,fun i x v h1 h2=>(h.2 i x v h1 h2).mono hl⟩
theorem drop {l:List M} {vs:List Value} (h:VRs ν l vs) (n:Nat):VRs ν (l.drop n) (vs.drop n):=⟨by simp[h.1],fun i x v h1 h2=>h.2 (n+i) x v (by simpa using h1) (by simpa using h2)⟩
theorem take {l:List M} {vs:List Value} (h:VRs ν l vs) (n:Nat):VRs ν (l.take n) (vs.take n):=by
 refine⟨by simp[h.1],fun i x v h1 h2=> ?_⟩
 rw[List.getElem?_take] at h1 h2;split at h1
 · rename_i hi;rw[if_pos hi] at h2;exact h.2 i x v h1 h2
 · cases h1
theorem set {l:List M} {vs:List Value} (h:VRs ν l vs) (n:Nat) {x:M} {v:Value} (hx:VR ν x v):VRs ν (l.set n x) (vs.set n v):=by
 refine⟨by simp[h.1],fun i y u h1 h2=> ?_⟩
 rw[List.getElem?_set] at h1 h2;split at h1
 · rename_i hi
   rw[if_pos hi] at h2;split at h1
   · rename_i hl
     rw[if_pos (by rw[← h.1];exact hl)] at h2
     cases h1;cases h2;exact hx
   · cases h1
 · rename_i hi;rw[if_neg hi] at h2;exact h.2 i y u h1 h2
end VRs
section
variable {ν:Nm}
theorem VR.agg' {l:List M} {vs:List Value} (h:VRs ν l vs):VR ν (.agg l) (.agg vs.toArray):= .agg l vs h.1 h.2
theorem VR.tup' {l:List M} {vs:List Value} (h:VRs ν l vs):VR ν (.tup l) (.tuple vs.toArray):= .tup l vs h.1 h.2
theorem VR.agg_inv {l:List M} {v:Value} (h:VR ν (.agg l) v):∃ vs,v= .agg vs.toArray∧VRs ν l vs:=by cases h with|agg _ vs hl h=>exact⟨vs,rfl,hl,h⟩
theorem VR.tup_inv {l:List M} {v:Value} (h:VR ν (.tup l) v):∃ vs,v= .tuple vs.toArray∧VRs ν l vs:=by cases h with|tup _ vs hl h=>exact⟨vs,rfl,hl,h⟩
theorem VR.ifc_inv {t:TypeId} {x:M} {v:Value} (h:VR ν (.ifc t x) v):∃ u,v= .iface t u∧VR ν x u:=by cases h with|ifc _ _ u h=>exact⟨u,rfl,h⟩
theorem VR.fn_inv {f:Fn} {p q:List M} {v:Value} (h:VR ν (.fn f p q) v):∃ vp vq:List Value,v= .func f vp.toArray vq.toArray∧VRs ν p vp∧VRs ν q vq:=by
 cases h with|fn _ _ _ vp vq hp hq h h'=>exact⟨vp,vq,rfl,⟨hp,h⟩,hq,h'⟩
theorem VR.cell {x:M} {v:Value} (h:VR ν x v) (hx:x.cell=true):(∀ a,v≠ .agg a)∧(∀ a,v≠ .tuple a)∧v.cells= #[v]:=by
 cases h<;>first| (simp[M.cell] at hx;done)|exact⟨by simp,by simp,rfl⟩
theorem VR.cells {x:M} {v:Value} (h:VR ν x v) (hx:x.cells.all M.cell=true):VRs ν x.cells v.cells.toList:=by
 by_cases hc:x.cell=true
 · have:x.cells=[x]:=by cases x<;>first|rfl| (simp[M.cell] at hc;done)
   rw[this,(h.cell hc).2.2];exact .cons h .nil
 · cases h with
   |agg l vs hl h=>exact⟨by simpa[M.cells,Value.cells] using hl,fun i x v h1 h2=>h i x v (by simpa[M.cells] using h1) (by simpa[Value.cells] using h2)⟩
   |tup=>simp[M.cells,M.cell] at hx
   |junk=>simp[M.cells,M.cell] at hx
   |_=>simp[M.cell] at hc
mutual
theorem VR.toV:∀ {x:M} {v u:Value},VR ν x v→Me.toV x=some u→v=u
 | .bool b,v,u,h,e=>by cases h;simpa[Me.toV] using e
 | .int k n,v,u,h,e=>by cases h;simpa[Me.toV] using e
 | .str s,v,u,h,e=>by cases h;simpa[Me.toV] using e
 | .ptr b o,v,u,h,e=>by simp[Me.toV] at e
 | .glob g o,v,u,h,e=>by cases h;simpa[Me.toV] using e
 | .vg g o,v,u,h,e=>by simp[Me.toV] at e
 | .vsl g o n,v,u,h,e=>by simp[Me.toV] at e
 | .nilP,v,u,h,e=>by cases h;simpa[Me.toV] using e
 | .sl b o n c,v,u,h,e=>by simp[Me.toV] at e
 | .slz,v,u,h,e=>by simp[Me.toV] at e
 | .nilS,v,u,h,e=>by cases h;simpa[Me.toV] using e
 | .fn f p q,v,u,h,e=>by simp[Me.toV] at e
 | .nilF,v,u,h,e=>by cases h;simpa[Me.toV] using e
 | .ifc t x,v,u,h,e=>by
  obtain⟨w,rfl,hw⟩:=h.ifc_inv;unfold Me.toV at e;split at e
  · rename_i u' hu
    cases e;rw[VR.toV hw hu]
  · cases e
 | .nilI,v,u,h,e=>by cases h;simpa[Me.toV] using e
 | .map b,v,u,h,e=>by simp[Me.toV] at e
 | .nilM,v,u,h,e=>by cases h;simpa[Me.toV] using e
 | .agg l,v,u,h,e=>by
  obtain⟨vs,rfl,hv⟩:=h.agg_inv;unfold Me.toV at e;split at e
  · rename_i us hu
    cases e;rw[VRs.toVs hv hu]
  · cases e
 | .tup l,v,u,h,e=>by simp[Me.toV] at e
 | .junk,v,u,h,e=>by simp[Me.toV] at e
theorem VRs.toVs:∀ {l:List M} {vs us:List Value},VRs ν l vs→Me.toVs l=some us→vs=us
 | [],vs,us,h,e=>by rw[h.inv_nil];simpa[Me.toVs] using e
 | x::l,vs,us,h,e=>by
  obtain⟨v,r,rfl,h1,h2⟩:=h.inv_cons;unfold Me.toVs at e;split at e
  · rename_i a b ha hb
    cases e;rw[VR.toV h1 ha,VRs.toVs h2 hb]
  · cases e
end
theorem iq {v:Value} {x:M} (e:ofV0 v=some x):VR ν x v:=by
 unfold ofV0 at e;split at e<;>first| (cases e;done)|skip
 all_goals cases e
 · exact .bool _
 · exact .int _ _
 · exact .str _
 · exact .nilP
 · exact .glob _ _
 · exact .nilS
 · exact .nilM
 · exact .nilF
 · exact .nilI
theorem ae4:∀ {l:List Value} {xs:List M},ofVs l=some xs→VRs ν xs l
 | [],_,e=>by simp[ofVs] at e;subst e;exact .nil
 | v::l,xs,e=>by
  unfold ofVs at e;split at e
  · rename_i h1 h2
    cases e;exact .cons (iq h1) (ae4 h2)
  · cases e
theorem s9 {v:Value} {x:M} (e:ofV v=some x):VR ν x v:=by
 unfold ofV at e;split at e
 · split at e
   · rename_i h;cases e;have:=ae4 (ν:=ν) h;exact VR.agg' this
   · cases e
 · split at e
   · rename_i h;cases e;have:=ae4 (ν:=ν) h;exact .ifc _ _ _ (VR.agg' this)
   · cases e
 · split at e
   · rename_i h;cases e;exact .ifc _ _ _ (iq h)
   · cases e
 · exact iq e
end
theorem pureRun_run {α:Type} {P:Program} (w:World):∀ {s:Sem α} {a:α},cn P s=some a→s.run P w= .ok a w:=by
 intro s
 induction s with
 |pure b=>intro a h;simp[cn] at h;subst h;rfl
 |program k ih=>intro a h;exact ih P h
 |mark m k ih=>intro a h;exact ih h
 |_=>intro a h;simp[cn] at h
end Go.Me
namespace Go.Me
open Go
variable [Gam]
set_option linter.unusedSectionVars false
inductive OR (ν:Nm) (ρ:Nat×Nat):Ob→Obj→Prop
 |cells (n:Nat) (ex:Nat) (d:M) (t:Tr M) (cs:Array Value) (e:TypeId) (fr:Nat×Nat) (hn:n+ρ.2≤cs.size) (hx:(ex=0→cs.size=n+ρ.2)∧ρ.1*ex+ρ.2≤cs.size) (hf:fr.1=fr.2∨cs.size≤fr.1)
  (h:∀ (i:Nat) x,(Ob.cells n ex d t).at i=some x→∃ v,cs[i+ρ.2]? =some v∧VR ν x v):OR ν ρ (.cells n ex d t) (.cells cs e fr)
 |map (es:List (M×M×Nat)) (cl:Nat) (en:List MapEntry) (hl:es.length=en.length)
  (h:∀ (i:Nat) x y,es[i]? =some x→en[i]? =some y→VR ν x.1 y.key∧VR ν x.2.1 y.val∧x.2.2=y.born):OR ν ρ (.map es cl) (.map en.toArray cl)
def Ob.live:Ob→Bool
 | .dead=>false
 |_=>true
abbrev Gt:=Nat→Option Ob
def c9 (g:Gt) (b:Nat):Prop:=∃ o,g b=some o∧o.live=true
structure WR (C:Cfg) (base:Nat) (ν:Nm) (g:Gt) (n:Nat) (w:World):Prop where
 lt:∀ b c,ν b=some c→b<n∧base≤c∧c<w.heap.size
 ob:∀ b o c,g b=some o→o.live=true→ν b=some c→∃ ob,w.heap[c]? =some ob∧OR ν (ν.rm b) o ob
 inj:∀ b b' c,c9 g b→c9 g b'→ν b=some c→ν b'=some c→b=b'
 gl:∀ k cs,C.gobj k=some cs→k<base∧∃ (vs:Array Value) (e:TypeId) (fr:Nat×Nat),w.heap[k]? =some (.cells vs e fr)∧∀ (i:Nat) x,cs[i]? =some x→∃ v,vs[i]? =some v∧VR Nm.none x v
 vg:∀ k cs,C.vobj k=some cs→(Gam.at_ k).1<base∧∃ (vs:Array Value) (ob:Obj),w.heap[(Gam.at_ k).1]? =some ob∧(∀ W:World,W.heap[(Gam.at_ k).1]? =some ob→∀ (j:Nat) v,vs[j]? =some v→W.cell? ⟨(Gam.at_ k).1,j+(Gam.at_ k).2,none⟩=some v)∧∀ (i:Nat) x,cs[i]? =some x→∃ v,vs[i]? =some v∧VR Nm.none x v
 big:base≤w.heap.size
 dom:∀ b o,g b=some o→b<n
structure St (ν:Nm) (g:Gt) (n:Nat) (w:World) (ν':Nm) (g':Gt) (n':Nat) (w':World):Prop where
 num:n≤n'
 old:∀ b,b<n→ν' b=ν b∧ν'.rm b=ν.rm b
 liv:∀ b,b<n→c9 g' b→c9 g b
 has:∀ b,b<n→g b≠none→g' b≠none
 same:∀ b,b<n→ν b=none→g' b=g b
 non:∀ b,b<n→g b=none→g' b=none
 new:∀ b c,n≤b→ν' b=some c→w.heap.size≤c∨∃ b0,c9 g b0∧ν b0=some c
 size:w.heap.size≤w'.heap.size
 keep:∀ c,c<w.heap.size→(∀ b,c9 g b→ν b≠some c)→w'.heap[c]? =w.heap[c]?
 rest:w'.os=w.os∧w'.tape=w.tape∧w'.output=w.output
theorem St.refl (ν:Nm) (g:Gt) (n:Nat) (w:World) (h:∀ b c,ν b=some c→b<n):St ν g n w ν g n w:=
 ⟨Nat.le_refl _,fun _ _=>⟨rfl,rfl⟩,fun _ _ h=>h,fun _ _ h=>h,fun _ _ _=>rfl,fun _ _ h=>h,fun b c h1 h2=>absurd (h b c h2) (by omega),Nat.le_refl _,fun _ _ _=>rfl,rfl,rfl,rfl⟩
section
variable {C:Cfg} {base:Nat} {ν ν' ν'':Nm} {g g' g'':Gt} {n n' n'':Nat} {w w' w'':World}
theorem WR.refl (R:WR C base ν g n w):St ν g n w ν g n w:=St.refl ν g n w fun b c h=>(R.lt b c h).1
theorem St.le (S:St ν g n w ν' g' n' w') (R:WR C base ν g n w):ν.le ν':=fun b c h=>by obtain⟨h1,h2⟩:=S.old b (R.lt b c h).1;exact⟨h1.trans h,h2⟩
theorem St.trans (_:WR C base ν g n w) (S:St ν g n w ν' g' n' w') (T:St ν' g' n' w' ν'' g'' n'' w''):St ν g n w ν'' g'' n'' w'':=by
 have cl:∀ b c,c9 g' b→ν' b=some c→w.heap.size≤c∨∃ b0,c9 g b0∧ν b0=some c:=fun b c h1 h2=>by
   by_cases hb:b<n
   · exact .inr ⟨b,S.liv b hb h1,by rw[← (S.old b hb).1];exact h2⟩
   · exact S.new b c (by omega) h2
 refine⟨Nat.le_trans S.num T.num,fun b hb=>by obtain⟨h1,h2⟩:=T.old b (Nat.lt_of_lt_of_le hb S.num);obtain⟨h3,h4⟩:=S.old b hb;exact⟨h1.trans h3,h2.trans h4⟩,fun b hb h=>S.liv b hb (T.liv b (Nat.lt_of_lt_of_le hb S.num) h),fun b hb h=>T.has b (Nat.lt_of_lt_of_le hb S.num) (S.has b hb h),fun b hb h=>(T.same b (Nat.lt_of_lt_of_le hb S.num) (by rw[(S.old b hb).1];exact h)).trans (S.same b hb h),fun b hb h=>T.non b (Nat.lt_of_lt_of_le hb S.num) (S.non b hb h),fun b c hb h=> ?_,Nat.le_trans S.size T.size,fun c hc h=> ?_,?_⟩
 · by_cases hb':b<n'
   · rw[(T.old b hb').1] at h;exact S.new b c hb h
   · rcases T.new b c (by omega) h with h1|⟨b0,h1,h2⟩
     · exact .inl (Nat.le_trans S.size h1)
     · exact cl b0 c h1 h2
 · rw[T.keep c (Nat.lt_of_lt_of_le hc S.size) fun b h1 h2=> ?_,S.keep c hc h]
   rcases cl b c h1 h2 with h3|⟨b0,h3,h4⟩
   · omega
   · exact h b0 h3 h4
 · obtain⟨a1,a2,a3⟩:=S.rest
   obtain⟨b1,b2,b3⟩:=T.rest;exact⟨b1.trans a1,b2.trans a2,b3.trans a3⟩
theorem WR.sub (R:WR C base ν g n w) (h:∀ b o,g' b=some o→g b=some o):WR C base ν g' n w:=
 ⟨R.lt,fun b o c h1 h2 h3=>R.ob b o c (h b o h1) h2 h3,fun b b' c ⟨o,h1,h2⟩ ⟨o',h3,h4⟩=>R.inj b b' c ⟨o,h b o h1,h2⟩ ⟨o',h b' o' h3,h4⟩,R.gl,R.vg,R.big,fun b o h1=>R.dom b o (h b o h1)⟩
theorem OR.mono {ρ:Nat×Nat} {o:Ob} {ob:Obj} (h:OR ν ρ o ob) (hl:ν.le ν'):OR ν' ρ o ob:=by
 cases h with
 |cells n ex d t cs e fr hn hx hf h=>exact .cells n ex d t cs e fr hn hx hf fun i x hi=>let⟨v,h1,h2⟩:=h i x hi;⟨v,h1,h2.mono hl⟩
 |map es cl en hl' h=>exact .map es cl en hl' fun i x y h1 h2=>let⟨a,b,c⟩:=h i x y h1 h2;⟨a.mono hl,b.mono hl,c⟩
theorem WR.drew (R:WR C base ν g n w):WR C base ν g n w.drew:=⟨R.lt,R.ob,R.inj,R.gl,R.vg,R.big,R.dom⟩
theorem St.drew (S:St ν g n w.drew ν' g' n' w'):St ν g n w ν' g' n' w':=⟨S.num,S.old,S.liv,S.has,S.same,S.non,S.new,S.size,S.keep,S.rest⟩
theorem St.drew' (S:St ν g n w ν' g' n' w'):St ν g n w ν' g' n' w'.drew:=⟨S.num,S.old,S.liv,S.has,S.same,S.non,S.new,S.size,S.keep,S.rest⟩
theorem WR.rd (R:WR C base ν g n w) {H:Hp} (hs:∀ b o,H.get b=some o→o.live=true→g b=some o) {b c i:Nat} {x:M} (hb:ν b=some c) (h:H.rd b i=some x):∃ v,w.cell? ⟨c,i+(ν.rm b).2,none⟩=some v∧VR ν x v:=by
 unfold Hp.rd at h;split at h
 · rename_i o ho
   have hl:o.live=true:=by cases o<;>first|rfl| (simp[Ob.at] at h;done)
   obtain⟨ob,h1,h2⟩:=R.ob b o c (hs b o ho hl) hl hb;cases h2 with
   | cells n ex d t cs e fr hn hx hf hi=>
    obtain⟨v,h3,h4⟩:=hi i x h;exact⟨v,by simp[World.cell?,h1,h3],h4⟩
   |map=>simp[Ob.at] at h
 · cases h
theorem WR.rds (R:WR C base ν g n w) {H:Hp} (hs:∀ b o,H.get b=some o→o.live=true→g b=some o) {b c:Nat} (hb:ν b=some c):∀ (k i:Nat) {l:List M},H.rds b i k=some l→
  ∃ vs:List Value,vs.length=k∧VRs ν l vs∧∀ (j:Nat) v,vs[j]? =some v→w.cell? ⟨c,i+(ν.rm b).2+j,none⟩=some v
 |0,i,l,h=>by simp only[Hp.rds,Option.some.injEq] at h;subst h;exact⟨[],rfl,.nil,by simp⟩
 | k+1,i,l,h=>by
  unfold Hp.rds at h;split at h
  · rename_i x l' h1 h2
    cases h;obtain⟨v,h3,h4⟩:=R.rd hs hb h1;obtain⟨vs,h5,h6,h7⟩:=R.rds hs hb k (i+1) h2;refine⟨v::vs,by simp[h5],.cons h4 h6,fun j u hu=> ?_⟩
    cases j with
    |zero=>simp at hu;subst hu;exact h3
    |succ j=>simp at hu;rw[show i+(ν.rm b).2+(j+1)=i+1+(ν.rm b).2+j by omega];exact h7 j u hu
  · cases h
theorem dc (c o k:Nat):(⟨c,o,none⟩:Addr).add k=⟨c,o+k,none⟩:=by
 unfold Addr.add;split<;>simp_all
theorem jx {P:Program} {c i:Nat} {vs:List Value} (h:∀ (j:Nat) v,vs[j]? =some v→w.cell? ⟨c,i+j,none⟩=some v):(loadCells ⟨c,i,none⟩ vs.length).run P w= .ok vs.toArray w:=by
 have:=run_loadCells (P:=P) (w:=w) ⟨c,i,none⟩ vs.length (fun j=>vs.getD j undef) (fun j hj=>by
   rw[dc];exact h j _ (by simp[List.getD,List.getElem?_eq_getElem hj]))
 rw[this]
 congr 1
 apply Array.ext';apply List.ext_getElem
 · simp
 · intro j h1 h2
   simp[List.getD] at h1 h2 ⊢;simp[h2]
end
section
variable {C:Cfg} {w:World}
theorem ab {t:TypeId} {d:TypeDesc} (h:und C t=some d):(underlying t).run C.P w= .ok d w:=run_underlying h w
theorem az {t:TypeId} {z:Nat} (h:size C t=some z):(sizeOf t).run C.P w= .ok z w:=by
 unfold size at h;split at h
 · rename_i i hi;cases h;simp[sizeOf,typeInfo,hi]
 · cases h
theorem fe {t:TypeId} {b:Bool} (h:aggQ C t=some b):(isAgg t).run C.P w= .ok b w:=by
 unfold aggQ at h;split at h
 · rename_i hu;cases h;simp[isAgg,ab hu]
 · rename_i hu;cases h;simp[isAgg,ab hu]
 · rename_i d h1 h2 hu
   cases h;simp only[isAgg,Sem.run_bind,ab hu,Result.andThen_ok];cases d<;>first|rfl|exact(h1 _ hu).elim|exact(h2 _ _ hu).elim
 · cases h
theorem ai8 {t:TypeId} {x:M} {ν:Nm} (h:zero C t=some x):∃ v,(zeroValue t).run C.P w= .ok v w∧VR ν x v:=by
 unfold zero at h;split at h
 · rename_i i hi
   split at h
   · rename_i v hv
     exact⟨v,by simp[zeroValue,typeInfo,hi,hv],s9 h⟩
   · cases h
 · cases h
end
