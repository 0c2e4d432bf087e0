import Derived.Test.YtkdiccgfbfbjlaaGreatL1
import Derived.Laws.IdiomCopy
import Derived.Laws.Strings
import Derived.Lib.Strings
import Derived.Laws.BytesString
import Derived.Laws.StructEq
namespace Go.Ev
open Go
structure OnlyB (b:Nat) (w w':World):Prop where
 size:w'.heap.size=w.heap.size
 other:∀ b',b'≠b→w'.heap[b']? =w.heap[b']?
 froz:∀ o,(∃ u,w.cell? (ad3 b o)=some u)→w'.frozen? (ad3 b o)=w.frozen? (ad3 b o)
 keep:∀ o u,w.cell? (ad3 b o)=some u→∃ u',w'.cell? (ad3 b o)=some u'
 io:SameIO w w'
 nofz:NoFz w b→NoFz w' b
theorem cell_of_heap {w w':World} {b o:Nat} (h:w'.heap[b]? =w.heap[b]?):w'.cell? (ad3 b o)=w.cell? (ad3 b o):=by simp[World.cell?,h]
theorem bl {w w':World} {b o:Nat} (h:w'.heap[b]? =w.heap[b]?):w'.frozen? (ad3 b o)=w.frozen? (ad3 b o):=by simp[World.frozen?,h]
theorem OnlyB.cell {b b' o:Nat} {w w':World} (h:OnlyB b w w') (hb:b'≠b):w'.cell? (ad3 b' o)=w.cell? (ad3 b' o):=cell_of_heap (h.other b' hb)
theorem OnlyB.frozen {b b' o:Nat} {w w':World} (h:OnlyB b w w') (hb:b'≠b):w'.frozen? (ad3 b' o)=w.frozen? (ad3 b' o):=bl (h.other b' hb)
theorem OnlyB.room {b:Nat} {w w':World} (h:OnlyB b w w'):Room w w':=fun b' o u h1 h2=>by
 by_cases e:b'=b
 · subst e
   exact⟨h.keep o u h1,by rw[h.froz o ⟨u,h1⟩];exact h2⟩
 · exact⟨⟨u,by rw[h.cell e];exact h1⟩,by rw[h.frozen e];exact h2⟩
theorem jl (w:World) (a:Addr) (v:Value) {b':Nat} (h:b'≠a.block):(w.setCell a v).heap[b']? =w.heap[b']? :=by
 simp only[World.setCell,Array.getElem?_modify];rw[if_neg (Ne.symm h)]
theorem d6 (b:Nat):∀ (vs:List Value) (o:Nat) (w:World) {b':Nat},b'≠b→(w.setCells b o vs).heap[b']? =w.heap[b']?
 | [],_,_,_,_=>rfl
 |v::r,o,w,b',h=>by rw[World.setCells,d6 b r (o+1) _ h,jl _ _ _ h]
theorem ig (b:Nat):∀ (vs:List Value) (o:Nat) (w:World),(w.setCells b o vs).heap.size=w.heap.size
 | [],_,_=>rfl
 |v::r,o,w=>by rw[World.setCells,ig b r,World.size_setCell]
theorem n5 (w:World) (a b:Addr) (v:Value) {u:Value} (h:w.cell? b=some u):∃ u',(w.setCell a v).cell? b=some u':=by
 by_cases e:a=b
 · subst e;exact⟨v,World.cell?_setCell_same _ _ _ h⟩
 · exact⟨u,by rw[World.cell?_setCell_other _ _ _ _ e];exact h⟩
theorem eh (b:Nat):∀ (vs:List Value) (o:Nat) (w:World) (p:Addr) {u:Value},w.cell? p=some u→∃ u',(w.setCells b o vs).cell? p=some u'
 | [],_,_,_,u,h=>⟨u,h⟩
 | v::r,o,w,p,u,h=>by
  obtain⟨u',h'⟩:=n5 w ⟨b,o,none⟩ p v h;exact eh b r (o+1) _ p h'
theorem li (b:Nat):∀ (vs:List Value) (o:Nat) (w:World),SameIO w (w.setCells b o vs)
 | [],_,_=> .refl _
 |v::r,o,w=>SameIO.trans (w':=w.setCell ⟨b,o,none⟩ v) ⟨rfl,rfl,rfl⟩ (li b r (o+1) _)
theorem adv {w:World} (a:Addr) (v:Value) {b:Nat} (h:NoFz w b):NoFz (w.setCell a v) b:=by
 intro c e lo hi h1 h2;simp only[World.setCell,Array.getElem?_modify] at h1;split at h1
 · cases hw:w.heap[b]? with
   |none=>rw[hw] at h1;cases h1
   | some ob=>
    rw[hw] at h1;simp only[Option.map_some,Option.some.injEq] at h1;cases ob with
    | cells c' e' fr=>
     simp only[Obj.cells.injEq] at h1;obtain⟨h3,_,h4⟩:=h1;subst h4;have:=h c' e' lo hi hw h2;rw[← h3];split<;>simp[this]
    |_=>cases h1
 · exact h c e lo hi h1 h2
theorem l6 (b:Nat) {b':Nat}:∀ (vs:List Value) (o:Nat) (w:World),NoFz w b'→NoFz (w.setCells b o vs) b'
 | [],_,_,h=>h
 |v::r,o,w,h=>l6 b r (o+1) _ (adv _ v h)
def NoFzO:Obj→Prop
 | .cells c _ (lo,hi)=>lo≠hi→c.size≤lo
 |_=>True
theorem bq (w:World) (b o:Nat) (vs:List Value):OnlyB b w (w.setCells b o vs):=
 ⟨ig b vs o w,fun _ h=>d6 b vs o w h,fun _ _=>World.frozen?_setCells b vs o w _,fun _ _ h=>eh b vs o w _ h,li b vs o w,l6 b vs o w⟩
theorem cu (w:World) (b o:Nat) (v:Value):OnlyB b w (w.setCell (ad3 b o) v):=bq w b o [v]
section
variable {cfg:Cfg} {x:Cx} {N:Nat} {s:Get} {a:Act} {w:World}
theorem Rel.nofz_only (R:Rel cfg x N s a w) {b:Nat} {w':World} (hw:OnlyB b w w'):∀ b',Held (x.ow b')→NoFz w' b':=fun b' h=>by
 by_cases e:b'=b
 · subst e;exact hw.nofz (R.nofz _ h)
 · exact(R.nofz _ h).heap (hw.other _ e)
theorem Rel.write (R:Rel cfg x N s a w) {l0:Loc} {nw:Bool} {z:Nat} {es:List D} (h0:s l0=some (.own nw z es))
   {b o len cap:Nat} (hv:conc x a w l0=some (.slice (some (ad3 b o)) len cap)) (how:x.ow b=some (.at l0)) {w':World} (hw:OnlyB b w w') {es':List D}
   (hA:Arr (freeB x) w' b o cap z es') (hl:es'.length=es.length) (hlen:es.length=len) (hcap:len≤cap):
   Rel cfg x N (updG s [(l0,.own nw z es')]) a w':=by
 have hs':∀ l',updG s [(l0,.own nw z es')] l'=if l'=l0 then some (.own nw z es') else s l':=fun l'=>rfl
 have hB:∀ d j,(s (.cell ⟨d,j,0⟩)).isSome→(updG s [(l0,.own nw z es')] (.cell ⟨d,j,0⟩)).isSome∧x.ad d j=x.ad d j:=by
   intro d j h;rw[hs'];split<;>simp[h]
 have hcv:∀ l' v,s l'=some v→conc x a w' l'=conc x a w l':=fun l' v h=>by
   cases l' with
   |slot k=>rfl
   | cell c=>
     obtain⟨h1,_,_⟩:=R.box c v h;exact hw.cell (fun e=>by rw[e,how] at h1;cases h1)
 have hbn:∀ b',x.ow b'≠x.ow b→b'≠b:=fun b' h e=>h (e ▸ rfl)
 refine R.step [l0] R.size rfl rfl (fun b' hb'=>hw.size ▸ R.bound b' hb') (fun l' hl' v' h=> ?_) (fun l' hl' v' h=> ?_) (fun j hj=> ?_)
   (fun b1 o1 u h1 h2=>⟨h1,by rw[hw.cell (hbn b1 (by rw[h1,how];simp))];exact h2⟩) (fun b1 o1 u h1 h2=> ?_) (fun l' hl' z' es1 h=> ?_) hB (fun l1 hl1 b1 h1=>⟨h1,fun o1 u h=> ?_⟩) (fun c v' h=> ?_) (R.nofz_only hw) (fun b1 h _=>⟨rfl,hw.other b1 (hbn b1 (by rcases h with h|h<;>rw[h,how]<;>simp))⟩)
 · have hne:l'≠l0:=by simpa using hl'
   rw[hs',if_neg hne] at h;exact⟨h,fun u hu=>by rw[hcv l' v' h];exact hu⟩
 · have he:l'=l0:=by simpa using hl'
   subst he;rw[hs',if_pos rfl] at h;cases h;exact⟨_,by rw[hcv _ _ h0];exact hv,.own _ b o len cap z nw es' how yp hcap hA⟩
 · have:l0= .slot j:=(aal.1 hj).symm
   exact R.slotN j _ (this ▸ h0)
 · by_cases e:b1=b
   · subst e
     exact⟨hw.keep _ _ h1,by rw[hw.froz _ ⟨u,h1⟩];exact h2⟩
   · exact⟨⟨u,by rw[hw.cell e];exact h1⟩,by rw[hw.frozen e];exact h2⟩
 · have he:l'=l0:=by simpa using hl'
   subst he;rw[hs',if_pos rfl] at h;cases h;exact⟨es,h0,hl.symm,fun b2 o2 L C hc=>⟨L,C,by rw[hcv _ _ h0];exact hc⟩⟩
 · have hne:l1≠l0:=by simpa using hl1
   rw[hw.cell (hbn b1 (by rw[h1,how];simp[hne]))]
   exact h
 · have key:∀ v0,s (.cell c)=some v0→x.ow (x.ad c.d c.k)=some (.box c.d c.k)∧(updG s [(l0,.own nw z es')] (.cell ⟨c.d,c.k,0⟩)).isSome∧w'.frozen? (ad3 (x.ad c.d c.k) c.off)=false:=fun v0 hv0=>by
     obtain⟨h1,h2,h3⟩:=R.box c v0 hv0;refine⟨h1,(hB _ _ h2).1,?_⟩;rw[hw.frozen (fun e=>by rw[e,how] at h1;cases h1)]
     exact h3
   rw[hs'] at h;split at h
   · rename_i e;exact key _ (e ▸ h0)
   · exact key _ h
theorem Fr.write {dep:Nat} {l0:Loc} {b:Nat} {w':World} (how:x.ow b=some (.at l0)) (hw:OnlyB b w w'):Fr dep x x w w':=
 ⟨by rw[hw.size];exact y7 _,fun b' _ h=>⟨hw.other b' (fun e=>by rw[e,how] at h;simp at h),rfl⟩,fun _ _ _=>rfl,hw.io,hw.room,rfl⟩
theorem Rel.setBox (R:Rel cfg x N s a w) {c:Cel} {old:V} (h0:s (.cell c)=some old) {v:Value} {y:V} (hy:y.isOwn=false) {l:Option Loc}
   (hv:RdV x s (conc x a w) w l v y):Rel cfg x N (updG s [(.cell c,y)]) a (w.setCell (ad3 (x.ad c.d c.k) c.off) v):=by
 obtain⟨hbx,hal,hfz⟩:=R.box c old h0;obtain⟨u0,hu0,_⟩:=R.locs _ _ h0;have hu0':w.cell? (ad3 (x.ad c.d c.k) c.off)=some u0:=hu0;have hw:=cu w (x.ad c.d c.k) c.off v;have hs':∀ l',updG s [(.cell c,y)] l'=if l'= .cell c then some y else s l':=fun l'=>rfl
 have hB:∀ d j,(s (.cell ⟨d,j,0⟩)).isSome→(updG s [(.cell c,y)] (.cell ⟨d,j,0⟩)).isSome∧x.ad d j=x.ad d j:=by
   intro d j h;rw[hs'];split<;>simp[h]
 have hcv:∀ l' v',s l'=some v'→l'≠ .cell c→conc x a (w.setCell (ad3 (x.ad c.d c.k) c.off) v) l'=conc x a w l':=fun l' v' h hne=>by
   cases l' with
   |slot k=>rfl
   | cell c'=>
     refine World.cell?_setCell_other _ _ _ _ (fun e=>hne ?_)
     simp only[Addr.mk.injEq,and_true] at e;obtain⟨h1,_,_⟩:=R.box c' v' h;rw[← e.1,hbx] at h1;obtain⟨c1,c2,c3⟩:=c;obtain⟨c1',c2',c3'⟩:=c';simp only[Option.some.injEq,Own.box.injEq] at h1;simp only at e;simp[h1.1,h1.2,e.2]
 have hbn:∀ b',x.ow b'≠some (.box c.d c.k)→b'≠x.ad c.d c.k:=fun b' h e=>h (by rw[e];exact hbx)
 have hS:∀ l' z es,updG s [(.cell c,y)] l'=some (.own false z es)→s l'=some (.own false z es)∧conc x a (w.setCell (ad3 (x.ad c.d c.k) c.off) v) l'=conc x a w l':=by
   intro l' z es h;rw[hs'] at h;split at h
   · cases h;simp[V.isOwn] at hy
   · rename_i hne;exact⟨h,hcv l' _ h hne⟩
 have hR:∀ b o u,w.cell? (ad3 b o)=some u→w.frozen? (ad3 b o)=false→(∃ u',(w.setCell (ad3 (x.ad c.d c.k) c.off) v).cell? (ad3 b o)=some u')∧(w.setCell (ad3 (x.ad c.d c.k) c.off) v).frozen? (ad3 b o)=false:=
   fun b o u h1 h2=>⟨n5 _ _ _ _ h1,by rw[World.frozen?_setCell];exact h2⟩
 have hc:∀ b o u,x.ow b=none→w.cell? (ad3 b o)=some u→x.ow b=none∧(w.setCell (ad3 (x.ad c.d c.k) c.off) v).cell? (ad3 b o)=some u:=
   fun b o u h1 h2=>⟨h1,by rw[hw.cell (hbn b (by rw[h1];simp))];exact h2⟩
 have hO:∀ (l0:Loc) b,x.ow b=some (.at l0)→x.ow b=some (.at l0)∧∀ o u,w.cell? (ad3 b o)=some u→(w.setCell (ad3 (x.ad c.d c.k) c.off) v).cell? (ad3 b o)=some u:=
   fun l0 b h=>⟨h,fun o u h'=>by rw[hw.cell (hbn b (by rw[h];simp))];exact h'⟩
 refine R.step [.cell c] R.size rfl rfl (fun b' hb'=>hw.size ▸ R.bound b' hb') (fun l' hl' v' h=> ?_) (fun l' hl' v' h=> ?_) (fun j hj=> ?_)
   hc hR (fun l' hl' z' es1 h=> ?_) hB (fun l1 _ b1 h1=>hO l1 b1 h1) (fun c' v' h=> ?_) (R.nofz_only hw) (fun b1 h _=>⟨rfl,hw.other b1 (hbn b1 (by rcases h with h|h<;>rw[h]<;>simp))⟩)
 · have hne:l'≠ .cell c:=by simpa using hl'
   rw[hs',if_neg hne] at h;exact⟨h,fun u hu=>by rw[hcv l' v' h hne];exact hu⟩
 · have he:l'= .cell c:=by simpa using hl'
   subst he;rw[hs',if_pos rfl] at h;cases h;refine⟨v,World.cell?_setCell_same _ _ _ hu0',(hv.reloc hy).mono hc hR (fun l' z es h=> ?_) hB (fun l0 _ b h=>hO l0 b h)⟩
   obtain⟨h1,h2⟩:=hS l' z es h;exact⟨es,h1,rfl,fun b o L C hcv=>⟨L,C,by rw[h2];exact hcv⟩⟩
 · simp at hj
 · obtain⟨h1,h2⟩:=hS l' z' es1 h
   exact⟨es1,h1,rfl,fun b o L C hcv=>⟨L,C,by rw[h2];exact hcv⟩⟩
 · have key:∀ v0,s (.cell c')=some v0→x.ow (x.ad c'.d c'.k)=some (.box c'.d c'.k)∧(updG s [(.cell c,y)] (.cell ⟨c'.d,c'.k,0⟩)).isSome∧(w.setCell (ad3 (x.ad c.d c.k) c.off) v).frozen? (ad3 (x.ad c'.d c'.k) c'.off)=false:=fun v0 hv0=>by
     obtain⟨h1,h2,h3⟩:=R.box c' v0 hv0;exact⟨h1,(hB _ _ h2).1,by rw[World.frozen?_setCell];exact h3⟩
   rw[hs'] at h;split at h
   · rename_i e;cases e;exact key _ h0
   · exact key _ h
theorem Fr.setBox {dep:Nat} {d k:Nat} (hb:x.ow (x.ad d k)=some (.box d k)) (o:Nat) (v:Value):Fr dep x x w (w.setCell (ad3 (x.ad d k) o) v):=
 ⟨by simp,fun b' _ h=>⟨jl _ _ _ (fun e=>by rw[show b'=x.ad d k from e,hb] at h;simp at h),rfl⟩,fun _ _ _=>rfl,⟨rfl,rfl,rfl⟩,(cu w _ _ _).room,rfl⟩
theorem Rel.alloc (R:Rel cfg x N s a w) (ob:Obj) (o:Option Own) (hob:NoFzO ob:=by simp[NoFzO]):Rel cfg (x.give w.heap.size o) N s a (w.alloc ob):=by
 have hlt:∀ b,x.ow b≠none→b≠w.heap.size:=fun b h e=>by have:=R.bound b h;omega
 have hold:∀ b o' u,w.cell? (ad3 b o')=some u→b≠w.heap.size:=fun b o' u h e=>by have:=World.block_lt_of_cell? _ _ h;simp at this;omega
 have hcell:∀ b o',b≠w.heap.size→(w.alloc ob).cell? (ad3 b o')=w.cell? (ad3 b o'):=fun b o' h=>World.cell?_alloc_old _ _ _ h
 have hcv:∀ l' v,s l'=some v→conc (x.give w.heap.size o) a (w.alloc ob) l'=conc x a w l':=fun l' v h=>by
   cases l' with
   |slot k=>rfl
   | cell c=>
     obtain⟨h1,_,_⟩:=R.box c v h;exact hcell _ _ (hlt _ (by rw[Cx.give_ad,h1];simp))
 refine R.step [] R.size rfl rfl (fun b' hb'=> ?_) (fun l' _ v' h=>⟨h,fun u hu=>by rw[hcv l' v' h];exact hu⟩) (fun l' hl'=>by simp at hl') (fun j hj=>by simp at hj)
   (fun b1 o1 u h1 h2=>⟨?_,by rw[hcell _ _ (hold b1 o1 u h2)];exact h2⟩) (fun b1 o1 u h1 h2=>⟨⟨u,by rw[hcell _ _ (hold b1 o1 u h1)];exact h1⟩,?_⟩) (fun l' hl'=>by simp at hl')
   (fun d k h=>⟨h,rfl⟩) (fun l1 _ b1 h1=>⟨?_,fun o1 u h=>by rw[hcell _ _ (hlt b1 (by rw[h1];simp))];exact h⟩) (fun c v' h=> ?_) (fun b1 h1=> ?_) (fun b1 h hlt'=>⟨Cx.give_ne _ _ yp,by show(w.heap.push ob)[b1]? =_;rw[Array.getElem?_push,if_neg yp]⟩)
 · by_cases e:b'=w.heap.size
   · subst e;simp
   · rw[Cx.give_ne _ _ e] at hb';have:=R.bound _ hb';simp;omega
 · rw[Cx.give_ne _ _ (hold b1 o1 u h2)];exact h1
 · rw[World.frozen?_alloc_old _ _ _ (hold b1 o1 u h1)];exact h2
 · rw[Cx.give_ne _ _ (hlt b1 (by rw[h1];simp))];exact h1
 · obtain⟨h1,h2,h3⟩:=R.box c v' h
   have hn:=hlt _ (by rw[h1];simp)
   exact⟨by rw[Cx.give_ad,Cx.give_ne _ _ hn];exact h1,h2,by rw[Cx.give_ad,World.frozen?_alloc_old _ _ _ hn];exact h3⟩
 · by_cases e:b1=w.heap.size
   · subst e
     intro c t lo hi h2;have h3:(w.heap.push ob)[w.heap.size]? =some (.cells c t (lo,hi)):=h2;rw[Array.getElem?_push,if_pos rfl] at h3;cases h3;exact hob
   · rw[Cx.give_ne _ _ e] at h1
     have hlt':=R.bound b1 (by rcases h1 with h1|⟨_,h1⟩<;>rw[h1]<;>simp)
     refine(R.nofz b1 h1).heap ?_;show(w.heap.push ob)[b1]? =_;rw[Array.getElem?_push,if_neg yp]
theorem Fr.alloc {dep:Nat} (ob:Obj) (o:Option Own):Fr dep x (x.give w.heap.size o) w (w.alloc ob):=
 ⟨by simp,fun b' hb _=>⟨heap_alloc_lt w ob hb,Cx.give_ne _ _ yp⟩,fun _ _ _=>rfl,⟨rfl,rfl,rfl⟩,fun b' o' u h1 h2=>
  have hne:b'≠w.heap.size:=fun e=>by have:=World.block_lt_of_cell? _ _ h1;simp[e] at this
  ⟨⟨u,by rw[World.cell?_alloc_old _ _ _ hne];exact h1⟩,by rw[World.frozen?_alloc_old _ _ _ hne];exact h2⟩,rfl⟩
where
 heap_alloc_lt (w:World) (ob:Obj) {b:Nat} (h:b<w.heap.size):(w.alloc ob).heap[b]? =w.heap[b]? :=by
  show(w.heap.push ob)[b]? =_;rw[Array.getElem?_push,if_neg yp]
theorem Rel.drew (R:Rel cfg x N s a w):Rel cfg x N s a w.drew:=
 R.step [] R.size rfl rfl R.bound (fun l' _ v' h=>⟨h,fun u hu=>by cases l'<;>exact hu⟩) (fun l' hl'=>by simp at hl') (fun j hj=>by simp at hj)
  (fun b o u h1 h2=>⟨h1,h2⟩) (fun b o u h1 h2=>⟨⟨u,h1⟩,h2⟩) (fun l' hl'=>by simp at hl') (fun d k h=>⟨h,rfl⟩) (fun l0 _ b h=>⟨h,fun _ _ h=>h⟩)
  (fun c v h=>R.box c v h) (fun b h=>(R.nofz b h).heap rfl) (fun _ _ _=>⟨rfl,rfl⟩)
theorem Fr.drew {dep:Nat}:Fr dep x x w w.drew:=⟨y7 _,fun _ _ _=>⟨rfl,rfl⟩,fun _ _ _=>rfl,⟨rfl,rfl,rfl⟩,fun _ _ u h1 h2=>⟨⟨u,h1⟩,h2⟩,rfl⟩
def Cx.lay (x:Cx) (d k b:Nat):Cx:={x with ad:=fun d' k'=>if d'=d∧k'=k then b else x.ad d' k'}
@[simp] theorem Cx.lay_same (x:Cx) (d k b:Nat):(x.lay d k b).ad d k=b:=by simp[Cx.lay]
theorem Cx.lay_ne (x:Cx) {d k b d' k':Nat} (h:¬ (d'=d∧k'=k)):(x.lay d k b).ad d' k'=x.ad d' k':=by simp[Cx.lay,h]
@[simp] theorem Cx.lay_ow (x:Cx) (d k b:Nat):(x.lay d k b).ow=x.ow:=rfl
theorem Rel.lay (R:Rel cfg x N s a w) {d k:Nat} (h0:s (.cell ⟨d,k,0⟩)=none) (b:Nat):Rel cfg (x.lay d k b) N s a w:=by
 have hne:∀ c v,s (.cell c)=some v→(x.lay d k b).ad c.d c.k=x.ad c.d c.k:=fun c v h=>Cx.lay_ne _ (fun e=>by
   obtain⟨_,h2,_⟩:=R.box c v h;rw[e.1,e.2,h0] at h2;simp at h2)
 refine R.step [] R.size rfl rfl R.bound (fun l' _ v' h=>⟨h,fun u hu=> ?_⟩) (fun l' hl'=>by simp at hl') (fun j hj=>by simp at hj)
   (fun b o u h1 h2=>⟨h1,h2⟩) (fun b o u h1 h2=>⟨⟨u,h1⟩,h2⟩) (fun l' hl'=>by simp at hl') (fun d' k' h=>⟨h,?_⟩) (fun l0 _ b h=>⟨h,fun _ _ h=>h⟩) (fun c v h=> ?_) R.nofz (fun _ _ _=>⟨rfl,rfl⟩)
 · cases l' with
   |slot k=>exact hu
   |cell c=>simp only[conc,hne c v' h] at hu ⊢;exact hu
 · obtain⟨v,hv⟩:=zn.1 h;exact hne ⟨d',k',0⟩ v hv
 · rw[hne c v h];exact R.box c v h
theorem Fr.lay {dep d k b:Nat} (h:dep≤d):Fr dep x (x.lay d k b) w w:=⟨y7 _,fun _ _ _=>⟨rfl,rfl⟩,fun d' k' hd=>Cx.lay_ne _ yp,.refl _,.refl _,rfl⟩
theorem Rel.addCell (R:Rel cfg x N s a w) {c:Cel} (hb:x.ow (x.ad c.d c.k)=some (.box c.d c.k)) (hal:c.off=0∨(s (.cell ⟨c.d,c.k,0⟩)).isSome)
   (hf:w.frozen? (ad3 (x.ad c.d c.k) c.off)=false) {v:Value} (hcell:w.cell? (ad3 (x.ad c.d c.k) c.off)=some v) {y:V} (hy:y.isOwn=false) {l:Option Loc}
   (hv:RdV x s (conc x a w) w l v y):Rel cfg x N (updG s [(.cell c,y)]) a w:=by
 have hs':∀ l',updG s [(.cell c,y)] l'=if l'= .cell c then some y else s l':=fun l'=>rfl
 have hB:∀ d j,(s (.cell ⟨d,j,0⟩)).isSome→(updG s [(.cell c,y)] (.cell ⟨d,j,0⟩)).isSome∧x.ad d j=x.ad d j:=by
   intro d j h;rw[hs'];split<;>simp[h]
 have hS:∀ l' z es,updG s [(.cell c,y)] l'=some (.own false z es)→s l'=some (.own false z es):=by
   intro l' z es h;rw[hs'] at h;split at h
   · cases h;simp[V.isOwn] at hy
   · exact h
 have h00:(updG s [(.cell c,y)] (.cell ⟨c.d,c.k,0⟩)).isSome:=by
   rcases hal with h|h
   · rw[hs',if_pos (by obtain⟨c1,c2,c3⟩:=c;simp at h;simp[h])];rfl
   · exact(hB _ _ h).1
 refine R.step [.cell c] R.size rfl rfl R.bound (fun l' hl' v' h=> ?_) (fun l' hl' v' h=> ?_) (fun j hj=>by simp at hj)
   (fun b o u h1 h2=>⟨h1,h2⟩) (fun b o u h1 h2=>⟨⟨u,h1⟩,h2⟩) (fun l' hl' z es h=> ?_) hB (fun l0 _ b h=>⟨h,fun _ _ h=>h⟩) (fun c' v' h=> ?_) R.nofz (fun _ _ _=>⟨rfl,rfl⟩)
 · have hne:l'≠ .cell c:=by simpa using hl'
   rw[hs',if_neg hne] at h;exact⟨h,fun u hu=>hu⟩
 · have he:l'= .cell c:=by simpa using hl'
   subst he;rw[hs',if_pos rfl] at h;cases h;refine⟨v,hcell,(hv.reloc hy).mono (fun b o u h1 h2=>⟨h1,h2⟩) (fun b o u h1 h2=>⟨⟨u,h1⟩,h2⟩) (fun l' z es h=> ?_) hB (fun l0 _ b h=>⟨h,fun _ _ h=>h⟩)⟩
   exact⟨es,hS l' z es h,rfl,fun b o L C hcv=>⟨L,C,hcv⟩⟩
 · exact⟨es,hS l' z es h,rfl,fun b o L C hcv=>⟨L,C,hcv⟩⟩
 · rw[hs'] at h
   split at h
   · rename_i e;cases e;exact⟨hb,h00,hf⟩
   · obtain⟨h1,h2,h3⟩:=R.box c' v' h
     exact⟨h1,(hB _ _ h2).1,h3⟩
theorem Rel.reown (R:Rel cfg x N s a w) {l0 l1:Loc} (hne:l0≠l1) {nw:Bool} {z:Nat} {es:List D} (h0:s l0=some (.own nw z es)) {y1:V} (h1:s l1=some y1)
   {b:Nat} (how:x.ow b=some (.at l0)) {o len cap:Nat} (hv1:conc x a w l1=some (.slice (some (ad3 b o)) len cap)) {es':List D} (hA:Arr (freeB x) w b o cap z es') (hl:es'.length=len) (hcap:len≤cap):
   Rel cfg (x.give b (some (.at l1))) N (updG s [(l1,.own true z es'),(l0,.junk)]) a w:=by
 have hs':∀ l',updG s [(l1,.own true z es'),(l0,.junk)] l'=if l'=l0 then some .junk else if l'=l1 then some (.own true z es') else s l':=fun l'=>rfl
 have hx:∀ b',x.ow b'=none→(x.give b (some (.at l1))).ow b'=none:=fun b' h=>by
   rw[Cx.give_ne];· exact h
   intro e;rw[e,how] at h;cases h
 have hB:∀ d j,(s (.cell ⟨d,j,0⟩)).isSome→(updG s [(l1,.own true z es'),(l0,.junk)] (.cell ⟨d,j,0⟩)).isSome∧(x.give b (some (.at l1))).ad d j=x.ad d j:=by
   intro d j h;rw[hs'];split
   · simp
   · split<;>simp[h]
 have hcv:∀ l',conc (x.give b (some (.at l1))) a w l'=conc x a w l':=fun l'=>by cases l'<;>rfl
 have hpl:∀ j,Loc.slot j∈[l1,l0]→j<N:=fun j hj=>by
   simp only[zr,aay,or_false] at hj;rcases hj with hj|hj
   · exact R.slotN j _ (hj ▸ h1)
   · exact R.slotN j _ (hj ▸ h0)
 refine R.step [l1,l0] R.size rfl rfl (fun b' hb'=> ?_) (fun l' hl' v' h=> ?_) (fun l' hl' v' h=> ?_) hpl
   (fun b o u h1 h2=>⟨hx b h1,h2⟩) (fun b o u h1 h2=>⟨⟨u,h1⟩,h2⟩) (fun l' hl' z es h=> ?_) hB (fun l2 hl2 b2 h2=>⟨?_,fun _ _ h=>h⟩) (fun c v' h=> ?_) (R.nofz_give (fun _=> .inr ⟨_,how⟩)) (fun b' h _=>⟨Cx.give_ne _ _ (fun e=>by subst e;rw[how] at h;rcases h with h|h<;>cases h),rfl⟩)
 · by_cases e:b'=b
   · subst e;exact R.bound _ (by rw[how];simp)
   · rw[Cx.give_ne _ _ e] at hb';exact R.bound _ hb'
 · simp only[zr,aay,or_false,not_or] at hl'
   rw[hs',if_neg hl'.2,if_neg hl'.1] at h;exact⟨h,fun u hu=>by rw[hcv];exact hu⟩
 · rw[hs'] at h
   simp only[zr,aay,or_false] at hl';by_cases e:l'=l0
   · rw[if_pos e] at h
     cases h;obtain⟨u,hu,_⟩:=R.locs l0 _ h0;exact⟨u,by rw[e,hcv];exact hu,.junk _ _⟩
   · rw[if_neg e] at h
     rcases hl' with hl'|hl'
     · subst hl'
       rw[if_pos rfl] at h;cases h;exact⟨_,by rw[hcv];exact hv1,.own _ b o len cap z true es' yt hl hcap (hA.mono (fun b o u h1 h2=>⟨hx b h1,h2⟩) (fun _ _ h=>h) (fun _ _ _ h=>h))⟩
     · exact absurd hl' e
 · rw[hs'] at h
   split at h
   · cases h
   · split at h
     · cases h
     · simp_all
 · simp only[zr,aay,or_false,not_or] at hl2
   rw[Cx.give_ne];· exact h2
   intro e;rw[e,how] at h2;cases h2;exact hl2.2 rfl
 · have key:∀ v0,s (.cell c)=some v0→(x.give b (some (.at l1))).ow (x.ad c.d c.k)=some (.box c.d c.k)∧
       (updG s [(l1,.own true z es'),(l0,.junk)] (.cell ⟨c.d,c.k,0⟩)).isSome∧w.frozen? (ad3 (x.ad c.d c.k) c.off)=false:=fun v0 hv0=>by
     obtain⟨h1,h2,h3⟩:=R.box c v0 hv0;refine⟨?_,(hB _ _ h2).1,h3⟩;rw[Cx.give_ne];· exact h1
     intro e;rw[e,how] at h1;cases h1
   rw[hs'] at h;split at h
   · rename_i e;exact key _ (e ▸ h0)
   · split at h
     · rename_i e;exact key _ (e ▸ h1)
     · exact key _ h
theorem Rel.claim (R:Rel cfg x N s a w) {l1:Loc} {y1:V} (h1:s l1=some y1) {b:Nat} (how:x.ow b=some (.at l1)) {o len cap z:Nat}
   (hv1:conc x a w l1=some (.slice (some (ad3 b o)) len cap)) {es':List D} (hA:Arr (freeB x) w b o cap z es') (hl:es'.length=len) (hcap:len≤cap):
   Rel cfg x N (updG s [(l1,.own true z es')]) a w:=by
 have hs':∀ l',updG s [(l1,.own true z es')] l'=if l'=l1 then some (.own true z es') else s l':=fun l'=>rfl
 have hB:∀ d j,(s (.cell ⟨d,j,0⟩)).isSome→(updG s [(l1,.own true z es')] (.cell ⟨d,j,0⟩)).isSome∧x.ad d j=x.ad d j:=by
   intro d j h;rw[hs'];split<;>simp[h]
 refine R.step [l1] R.size rfl rfl R.bound (fun l' hl' v' h=> ?_) (fun l' hl' v' h=> ?_) (fun j hj=> ?_)
   (fun b o u h1 h2=>⟨h1,h2⟩) (fun b o u h1 h2=>⟨⟨u,h1⟩,h2⟩) (fun l' hl' z es h=> ?_) hB (fun l0 _ b h=>⟨h,fun _ _ h=>h⟩) (fun c v' h=> ?_) R.nofz (fun _ _ _=>⟨rfl,rfl⟩)
 · have hne:l'≠l1:=by simpa using hl'
   rw[hs',if_neg hne] at h;exact⟨h,fun u hu=>hu⟩
 · have he:l'=l1:=by simpa using hl'
   subst he;rw[hs',if_pos rfl] at h;cases h;exact⟨_,hv1,.own _ b o len cap z true es' how hl hcap hA⟩
 · have:l1= .slot j:=(aal.1 hj).symm
   exact R.slotN j _ (this ▸ h1)
 · have he:l'=l1:=by simpa using hl'
   subst he;rw[hs',if_pos rfl] at h;cases h
 · have key:∀ v0,s (.cell c)=some v0→x.ow (x.ad c.d c.k)=some (.box c.d c.k)∧
      (updG s [(l1,.own true z es')] (.cell ⟨c.d,c.k,0⟩)).isSome∧w.frozen? (ad3 (x.ad c.d c.k) c.off)=false:=fun v0 hv0=>by
     obtain⟨h1,h2,h3⟩:=R.box c v0 hv0;exact⟨h1,(hB _ _ h2).1,h3⟩
   rw[hs'] at h;split at h
   · rename_i e;exact key _ (e ▸ h1)
   · exact key _ h
end
end Go.Ev
namespace Go.Ev
open Go
section
variable {F:Nat→Prop} {w:World} {v:Value}
theorem Rd.bool_inv {b:Bool} (h:Rd F w v (.bool b)):v= .bool b:=by cases h;rfl
theorem Rd.int_inv {k:IntKind} {n:Int} (h:Rd F w v (.int k n)):v= .int k n:=by cases h;rfl
theorem Rd.str_inv {s:List UInt8} (h:Rd F w v (.str s)):v= .string ⟨s.toArray⟩:=by cases h;rfl
theorem Rd.nilS_inv (h:Rd F w v .nilS):∃ ad,v= .slice ad 0 0:=by cases h;exact⟨_,rfl⟩
theorem Rd.unkB_inv (h:Rd F w v .unkB):∃ b,v= .bool b:=by cases h;exact⟨_,rfl⟩
theorem Rd.nilI_inv (h:Rd F w v .nilI):v= .nilIface:=by cases h;rfl
theorem Rd.fn_inv {f:FuncId} (h:Rd F w v (.fn f)):v= .func (.func f) #[] #[]:=by cases h;rfl
theorem Rd.sl_inv {es:List D} (h:Rd F w v (.sl es)):∃ ad cap,v= .slice ad es.length cap∧es.length≤cap:=by
 cases h with
 |slA ad cap=>exact⟨ad,cap,rfl,aad _⟩
 |sl b o len cap z es vs hlen hcap=>exact⟨some (ad3 b o),cap,by rw[hlen],by omega⟩
theorem Rd.oneCell {d:D} (h:Rd F w v d) (hd:d.isCell=true):v.oneCell'=true:=by
 cases h<;>first|rfl|assumption|simp[D.isCell] at hd
theorem Rd.can {d:D} (h:Rd F w v d):Rd F w v d.can:=by
 cases h<;>first|exact .slA _ _| (constructor<;>assumption)
theorem D.can_isCell {d:D} (h:d.isCell=true):d.can.isCell=true:=by cases d<;>first|rfl|exact h
theorem Rd.canA {d:D} (h:Rd F w v d):Rd F w v d.canA:=by
 cases h with
 | agg vs cs hl hc h=>
  refine .agg vs _ (by simpa using hl) (fun c hc'=> ?_) (fun i v c h1 h2=> ?_)
  · obtain⟨c',h1,rfl⟩:=aas.1 hc'
    exact D.can_isCell (hc c' h1)
  · rw[zg] at h2
    cases hd:cs[i]? with
    |none=>rw[hd] at h2;cases h2
    |some c'=>rw[hd] at h2;cases h2;exact(h i v c' h1 hd).can
 |nilS ad=>exact .slA ad 0
 |_=>constructor<;>assumption
theorem Rd.canon {d:D} (h:Rd F w v d):Rd F w v d.canon:=by
 cases h with
 | tup vs cs hl h=>
  refine .tup vs _ (by simpa using hl) (fun i v c h1 h2=> ?_)
  rw[zg] at h2;cases hd:cs[i]? with
  |none=>rw[hd] at h2;cases h2
  |some c'=>rw[hd] at h2;cases h2;exact(h i v c' h1 hd).canA
 |agg vs cs hl hc h=>exact Rd.canA (.agg vs cs hl hc h)
 |nilS ad=>exact .slA ad 0
 |_=>constructor<;>assumption
theorem aj2 {d:D} (h:valD0 v=some d):Rd F w v d∧d.isCell=true:=by
 unfold valD0 at h;split at h<;>first| (cases h;exact⟨by constructor,rfl⟩)|cases h
theorem aj1:∀ (vs:List Value) (ds:List D),valDs vs=some ds→vs.length=ds.length∧(∀ c∈ds,c.isCell=true)∧∀ (i:Nat) v c,vs[i]? =some v→ds[i]? =some c→Rd F w v c
 | [],ds,h=>by cases h;simp
 | v::r,ds,h=>by
  unfold valDs at h;split at h
  · rename_i d ds' h1 h2
    cases h;obtain⟨i1,i2,i3⟩:=aj1 r ds' h2;have:=aj2 (F:=F) (w:=w) h1;refine⟨by simp[i1],?_,?_⟩
    · intro c hc
      rcases zr.1 hc with rfl|hc
      · exact this.2
      · exact i2 c hc
    · intro i v' c h3 h4
      cases i with
      |zero=>simp at h3 h4;subst h3;subst h4;exact this.1
      |succ i=>simp at h3 h4;exact i3 i v' c h3 h4
  · cases h
theorem ja {d:D} (h:valD v=some d):Rd F w v d:=by
 unfold valD at h;split at h
 · rename_i cs
   cases h1:valDs cs.toList with
   |none=>rw[h1] at h;cases h
   | some ds=>
    rw[h1] at h;cases h;obtain⟨i1,i2,i3⟩:=aj1 (F:=F) (w:=w) _ _ h1;exact .agg cs.toList ds i1 i2 i3
 · exact(aj2 h).1
theorem afh {d:D} (h:valC v=some d):Rd F w v d:=by
 simp only[valC,yw] at h;obtain⟨d',h1,rfl⟩:=h;exact(ja h1).canon
end
section
variable {P:Program} {cfg:Cfg} {x:Cx} {N dep:Nat} {s:Get} {a:Act} {w:World}
theorem RdV.d_inv {l:Option Loc} {cv:Loc→Option Value} {v:Value} {y:D} (h:RdV x s cv w l v (.d y)):Rd (freeB x) w v y:=by cases h;assumption
theorem a6 (R:Rel cfg x N s a w) {X:Operand} {ix:IOpd} (hX:cOpd X=some ix) {y:V} (hy:val cfg s ix=some y):
  ∃ l,RdV x s (conc x a w) w l (a.eval X) y∧∀ k,ix= .t k→l=some (.slot k)∧X= .tmp k:=by
 cases X with
 | tmp t=>
  cases hX;obtain⟨u,hu,hr⟩:=R.locs (.slot t) y hy;refine⟨some (.slot t),?_,fun k e=>by cases e;exact⟨rfl,rfl⟩⟩
  simp only[conc,Option.some.injEq] at hu;show RdV x s (conc x a w) w _ (a.tmps.getD t undef) y;rw[hu];exact hr
 | const v=>
  simp only[cOpd,yw] at hX;obtain⟨d,hd,rfl⟩:=hX;cases hy;exact⟨none,.d _ _ _ (ja hd),fun k e=>by cases e⟩
 | global g=>
  cases hX;simp only[val,yw] at hy;obtain⟨e,he,rfl⟩:=hy;exact⟨none,.iptr none g 0 0 e (R.globs g e he),fun k e=>by cases e⟩
 | func f=>
  cases hX;cases hy;exact⟨none,.d _ _ _ (.fn f),fun k e=>by cases e⟩
def Goes (P:Program) (cfg:Cfg) (x:Cx) (N dep:Nat) (s':Get) (a:Act) (w:World) (o:Oper):Prop:=
 ∃ v w' x',((execOp a.eval o).run P w= .ok (.value v) w'∨((execOp a.eval o).run P w= .ok .skip w'∧v=undef))∧Rel cfg x' N s' (a.put o.dst v) w'∧Fr dep x x' w w'
theorem ao (R:Rel cfg x N s a w) {o:Oper} {k:Nat} (hd:o.dst=some k) (hk:k<N) {v:Value} {y:V} (hrun:(execOp a.eval o).run P w= .ok (.value v) w)
  (hy:y.isOwn=false) {l:Option Loc} (hv:RdV x s (conc x a w) w l v y):Goes P cfg x N dep (updG s (put1 o.dst y)) a w o:=by
 refine⟨v,w,x,.inl hrun,?_,Fr.refl _ _ _⟩;rw[hd];exact R.put hk hy hv
theorem av (R:Rel cfg x N s a w) {o:Oper} {k:Nat} (hd:o.dst=some k) (hk:k<N) {v:Value} {y:D} (hrun:(execOp a.eval o).run P w= .ok (.value v) w)
  (hv:Rd (freeB x) w v y):Goes P cfg x N dep (updG s (put1 o.dst (.d y))) a w o:=
 ao R hd hk hrun rfl (l:=none) (.d _ _ _ hv)
end
theorem avn (P:Program) (w:World) (F:Nat→Prop) {op:BinOp} {k k':IntKind} {n m:Int} {r:D} (t:TypeId) (h:ay op k n k' m=some r):
  ∃ v,(binOp op t (.int k n) (.int k' m)).run P w= .ok v w∧Rd F w v r:=by
 cases op<;>simp only[ay] at h
 case shl=>
  split at h
  · cases h
  · cases h;rename_i hm;exact⟨_,by simp only[binOp,Op.shift,hm,if_false];rfl,.int _ _⟩
 case shr=>
  split at h
  · cases h
  · cases h;rename_i hm;exact⟨_,by simp only[binOp,Op.shift,hm,if_false];rfl,.int _ _⟩
 case quo=>
  split at h
  · rename_i hm;obtain⟨rfl,hm⟩:=hm;cases h;exact⟨_,by simp only[binOp,Op.intDiv,hm,if_false,ne_eq,aa6];rfl,.int _ _⟩
  · cases h
 case rem=>
  split at h
  · rename_i hm;obtain⟨rfl,hm⟩:=hm;cases h;exact⟨_,by simp only[binOp,Op.intDiv,hm,if_false,ne_eq,aa6];rfl,.int _ _⟩
  · cases h
 all_goals
  split at h
  · rename_i hk;subst hk;cases h
    refine⟨_,by simp only[binOp,if_false,ne_eq,aa6];rfl,?_⟩
    first|exact .int _ _|exact .bool _
  · cases h
theorem avk (P:Program) (w:World) (F:Nat→Prop) {op:BinOp} {p q:List UInt8} {r:D} (t:TypeId) (h:fu op p q=some r):
  ∃ v,(binOp op t (.string ⟨p.toArray⟩) (.string ⟨q.toArray⟩)).run P w= .ok v w∧Rd F w v r:=by
 have hp:(⟨p.toArray⟩:ByteArray).toList=p:=ByteArray.toList_mk p;have hq:(⟨q.toArray⟩:ByteArray).toList=q:=ByteArray.toList_mk q;cases op<;>simp only[fu] at h
 case add=>
  split at h
  · cases h
    rename_i hm;refine⟨.string (⟨p.toArray⟩++⟨q.toArray⟩),?_,?_⟩
    · have hs:((⟨p.toArray⟩:ByteArray).size+(⟨q.toArray⟩:ByteArray).size:Nat)=p.length+q.length:=by simp[ByteArray.size]
      have:¬ (((⟨p.toArray⟩:ByteArray).size+(⟨q.toArray⟩:ByteArray).size:Nat):Int)>IntKind.i64.max:=by
       rw[hs];simp only[a2w] at hm;simp only[IntKind.max];simp[IntKind.signed,IntKind.bits];omega
      simp only[binOp,Op.stringOp,this,if_false];rfl
    · have:(⟨p.toArray⟩++⟨q.toArray⟩:ByteArray)=⟨(p++q).toArray⟩:=by
       apply ByteArray.ext;apply Array.ext';simp
      rw[this];exact .str _
  · cases h
 all_goals
  first
  |cases h
  |skip
 all_goals
  refine⟨_,by simp only[binOp,Op.stringOp,hp,hq];rfl,?_⟩
  exact .bool _
end Go.Ev
namespace Go.Ev
open Go
section
variable {P:Program} {cfg:Cfg} {x:Cx} {N dep:Nat} {s:Get} {a:Act} {w:World}
theorem RdV.own_inv {l:Option Loc} {cv:Loc→Option Value} {v:Value} {nw:Bool} {z:Nat} {es:List D} (h:RdV x s cv w l v (.own nw z es)):
  ∃ l0 b o cap,l=some l0∧v= .slice (some (ad3 b o)) es.length cap∧x.ow b=some (.at l0)∧es.length≤cap∧Arr (freeB x) w b o cap z es:=by
 cases h with
 |own l b o len cap z nw es how hlen hcap h=>exact⟨l,b,o,cap,rfl,by rw[hlen],how,by omega,h⟩
theorem Rel.own_at (R:Rel cfg x N s a w) {l0:Loc} {nw:Bool} {z:Nat} {es:List D} (h0:s l0=some (.own nw z es)):
  ∃ b o cap,conc x a w l0=some (.slice (some (ad3 b o)) es.length cap)∧x.ow b=some (.at l0)∧es.length≤cap∧Arr (freeB x) w b o cap z es:=by
 obtain⟨u,hu,hr⟩:=R.locs l0 _ h0;obtain⟨l1,b,o,cap,h1,h2,h3,h4,h5⟩:=hr.own_inv;cases h1;exact⟨b,o,cap,by rw[hu,h2],h3,h4,h5⟩
theorem Rel.bor_at (R:Rel cfg x N s a w) {l:Option Loc} {v:Value} {l':Loc} {off len z:Nat} {es:List D} (h:RdV x s (conc x a w) w l v (.bor l' off len)) (hs:s l'=some (.own false z es)):
   ∃ b o' cap',v= .slice (some (ad3 b o')) len cap'∧x.ow b=some (.at l')∧off+len≤es.length∧len≤cap'∧Arr (freeB x) w b o' cap' z ((es.drop off).take len):=by
 cases h with
 |bor _ _ _ _ b o' cap' h4 h=>
 obtain⟨o,L,C,h1,h3,h5,h6⟩:=h z es hs;obtain⟨b2,o2,cap2,g1,g2,g3,g4⟩:=R.own_at hs;rw[h1] at g1;cases g1;refine⟨b,o',cap',rfl,g2,h3,h4,g4.pos,h6,fun e he=>g4.wid e (aai (aaj he)),fun e he=>g4.cel e (aai (aaj he)),fun i e he j c hj=> ?_⟩
 rw[List.getElem?_take] at he;split at he
 · rename_i hi
   rw[List.getElem?_drop] at he;obtain⟨v,q1,q2⟩:=g4.els (off+i) e he j c hj;refine⟨v,?_,q2⟩;rcases h5 with⟨h5,_⟩|h5
   · omega
   · rw[h5,show o+off*z+i*z+j=o+(off+i)*z+j by rw[aaf];omega]
     exact q1
 · cases he
theorem Rel.bor_at' (R:Rel cfg x N s a w) {l:Option Loc} {v:Value} {l':Loc} {off len z:Nat} {es:List D} (h:RdV x s (conc x a w) w l v (.bor l' off len)) (hs:s l'=some (.own false z es)):
   ∃ b o' cap',v= .slice (some (ad3 b o')) len cap'∧(∃ o L C,conc x a w l'=some (.slice (some (ad3 b o)) L C))∧off+len≤es.length∧len≤cap'∧Arr (freeB x) w b o' cap' z ((es.drop off).take len):=by
 cases h with
 |bor _ _ _ _ b o' cap' h4 h=>
 obtain⟨o,L,C,h1,h3,h5,h6⟩:=h z es hs;obtain⟨b2,o2,cap2,g1,g2,g3,g4⟩:=R.own_at hs;rw[h1] at g1;cases g1;refine⟨b,o',cap',rfl,⟨_,_,_,h1⟩,h3,h4,g4.pos,h6,fun e he=>g4.wid e (aai (aaj he)),fun e he=>g4.cel e (aai (aaj he)),fun i e he j c hj=> ?_⟩
 rw[List.getElem?_take] at he;split at he
 · rename_i hi
   rw[List.getElem?_drop] at he;obtain⟨v,q1,q2⟩:=g4.els (off+i) e he j c hj;refine⟨v,?_,q2⟩;rcases h5 with⟨h5,_⟩|h5
   · omega
   · rw[h5,show o+off*z+i*z+j=o+(off+i)*z+j by rw[aaf];omega]
     exact q1
 · cases he
theorem r9 {ix:IOpd} {y:V} (hy:val cfg s ix=some y) (h:∀ k,ix≠ .t k):y.isOwn=false:=by
 cases ix with
 |t k=>exact absurd rfl (h k)
 |c d=>cases hy;rfl
 | g n=>
  simp only[val,yw] at hy;obtain⟨e,_,rfl⟩:=hy;rfl
theorem Rel.handAny (R:Rel cfg x N s a w) {k:Nat} (hk:k<N) {l0:Loc} {nw:Bool} {z:Nat} {es:List D} (h0:s l0=some (.own nw z es))
   {b:Nat} (how:x.ow b=some (.at l0)) {o len cap:Nat} {es':List D} (hA:Arr (freeB x) w b o cap z es') (hl:es'.length=len) (hcap:len≤cap):
   Rel cfg (x.give b (some (.at (.slot k)))) N (updG s [(.slot k,.own true z es'),(l0,.junk)]) (a.put (some k) (.slice (some (ad3 b o)) len cap)) w:=by
 by_cases e:l0= .slot k
 · subst e
   have h1:=R.put hk (v:= .slice (some (ad3 b o)) len cap) (y:= .junk) rfl (l:=none) (.junk _ _);have hx:x.give b (some (.at (.slot k)))=x:=by
    cases x with
    | mk ow ad=>
     simp only[Cx.give,Cx.mk.injEq,and_true]
     funext b'
     split
     · rename_i e;rw[e];exact how.symm
     · rfl
   rw[hx];exact h1.congr (fun l=>by simp only[a8,lu];split<;>rfl)
 · exact R.hand hk e h0 how hA hl hcap
theorem sim_mv (R:Rel cfg x N s a w) {o:Oper} {X:Operand} (ho:o.op= .move X∨o.op= .assign X) {k:Nat} (hd:o.dst=some k) (hk:k<N) {ix:IOpd} (hX:cOpd X=some ix) {y:V} (hy:val cfg s ix=some y)
   {u:List (Loc×V)} (hu:evMv (some k) ix y=some u):Goes P cfg x N dep (updG s u) a w o:=by
 obtain⟨l,hr,hl⟩:=a6 R hX hy;have hrun:(execOp a.eval o).run P w= .ok (.value (a.eval X)) w:=by
   rcases ho with ho|ho<;>simp[execOp,ho]
 unfold evMv at hu;split at hu
 · rename_i j z es
   cases hu;obtain⟨hl1,rfl⟩:=hl j rfl;subst hl1;rw[show put1 (some k) (V.bor (.slot j) 0 es.length)=put1 o.dst (V.bor (.slot j) 0 es.length) by rw[hd]]
   have he:s (.slot j)=some (.own false z es):=hy;obtain⟨b,o',cap,g1,g2,g3,g4⟩:=R.own_at he;have hv:a.eval (.tmp j)= .slice (some (ad3 b o')) es.length cap:=by simpa[conc,Act.eval] using g1
   rw[hv] at hrun;refine ao R hd hk hrun rfl (l:=none) (.bor _ _ _ _ _ _ _ g3 fun z' es' hs=> ?_)
   rw[he] at hs;cases hs;exact⟨o',_,cap,g1,by omega,.inr yp,g4.room⟩
 · rename_i j z es
   cases hu;obtain⟨hl1,rfl⟩:=hl j rfl;have he:s (.slot j)=some (.own true z es):=hy;obtain⟨b,o',cap,g1,g2,g3,g4⟩:=R.own_at he;refine⟨a.eval (.tmp j),w,x.give b (some (.at (.slot k))),.inl hrun,?_,Fr.give g2 _⟩;have hv:a.eval (.tmp j)= .slice (some (ad3 b o')) es.length cap:=by simpa[conc,Act.eval] using g1
   rw[hv,hd];exact R.handAny hk he g2 g4 rfl g3
 · cases hu
 · rename_i h1 h2 h3
   cases hu;have hn:y.isOwn=false:=by
    by_cases hix:∃ j,ix= .t j
    · obtain⟨j,rfl⟩:=hix
      cases y<;>first|rfl| (rename_i nw z es;cases nw<;>simp_all;done)|simp_all
    · exact r9 hy (fun j e=>hix ⟨j,e⟩)
   rw[show put1 (some k) y=put1 o.dst y by rw[hd]]
   exact ao R hd hk hrun hn hr
theorem sim_asg (R:Rel cfg x N s a w) {o:Oper} {X:Operand} (ho:o.op= .assign X) {k:Nat} (hd:o.dst=some k) (hk:k<N) {ix:IOpd} (hX:cOpd X=some ix) {y:V} (hy:val cfg s ix=some y)
   {u:List (Loc×V)} (hu:evAsg s (some k) ix y=some u):Goes P cfg x N dep (updG s u) a w o:=by
 obtain⟨l,hr,hl⟩:=a6 R hX hy;have hrun:(execOp a.eval o).run P w= .ok (.value (a.eval X)) w:=by simp[execOp,ho]
 unfold evAsg at hu;split at hu
 · rename_i j nw z es
   cases hu;obtain⟨hl1,rfl⟩:=hl j rfl;have he:s (.slot j)=some (.own nw z es):=hy;obtain⟨b,o',cap,g1,g2,g3,g4⟩:=R.own_at he;refine⟨a.eval (.tmp j),w,x.give b (some (.at (.slot k))),.inl hrun,?_,Fr.give g2 _⟩;have hv:a.eval (.tmp j)= .slice (some (ad3 b o')) es.length cap:=by simpa[conc,Act.eval] using g1
   rw[hv,hd];exact R.handAny hk he g2 g4 rfl g3
 · rename_i l' off n
   split at hu
   · rename_i z es hs
     split at hu
     · rename_i hc
       obtain⟨rfl,rfl⟩:=hc;obtain⟨b,o',cap',g1,g2,g3,g4,g5⟩:=R.bor_at hr hs;simp only[List.drop_zero,List.take_length] at g5;split at hu
       · rename_i e
         cases hu;have e':l'= .slot k:=by simpa using e.symm
         subst e';refine⟨a.eval X,w,x,.inl hrun,?_,Fr.refl _ _ _⟩;rw[g1,hd];have R1:=R.put hk (v:= .slice (some (ad3 b o')) es.length cap') (y:= .junk) rfl (l:=none) (.junk _ _);have R2:=R1.claim (l1:= .slot k) (y1:= .junk) (by simp[a8]) g2 (iw (by rw[R.size];exact hk)) g5 rfl g4
         exact R2.congr (fun l=>by simp only[a8,lu];split<;>rfl)
       · cases hu
         refine⟨a.eval X,w,x.give b (some (.at (.slot k))),.inl hrun,?_,Fr.give g2 _⟩;rw[g1,hd];exact R.handAny hk hs g2 g5 rfl g4
     · cases hu
   · cases hu
 · cases hu
 · cases hu
 · rename_i h1 h2 h3 h4
   cases hu;have hn:y.isOwn=false:=by
     by_cases hix:∃ j,ix= .t j
     · obtain⟨j,rfl⟩:=hix
       cases y<;>first|rfl| (rename_i nw z es;cases nw<;>simp_all;done)|simp_all
     · exact r9 hy (fun j e=>hix ⟨j,e⟩)
   rw[show put1 (some k) y=put1 o.dst y by rw[hd]]
   exact ao R hd hk hrun hn hr
end
end Go.Ev
namespace Go.Ev
open Go
section
variable {P:Program} {cfg:Cfg} {x:Cx} {N dep:Nat} {s:Get} {a:Act} {w:World}
theorem val_d (R:Rel cfg x N s a w) {X:Operand} {ix:IOpd} (hX:cOpd X=some ix) {y:D} (hy:val cfg s ix=some (.d y)):Rd (freeB x) w (a.eval X) y:=by
 obtain⟨l,hr,_⟩:=a6 R hX hy;exact hr.d_inv
theorem RdV.iptr_rd {l:Option Loc} {cv:Loc→Option Value} {v:Value} {e:D} (hr:RdV x s cv w l v (.iptr e 0)):Rd (freeB x) w v (.ptr e):=by
 cases hr with
 | iptr l b o off e h=>
  obtain⟨h1,h2⟩:=h;have hv:∀ j,∃ v,∀ c,e.cells[j]? =some c→freeB x b∧w.cell? (ad3 b (o+j))=some v∧Rd (freeB x) w v c:=fun j=>by
   cases hc:e.cells[j]? with
   |none=>exact⟨undef,fun c h=>by cases h⟩
   |some c=>obtain⟨v,g1,g2,g3⟩:=h2 j c hc;exact⟨v,fun c' h=>by cases h;exact⟨g1,g2,g3⟩⟩
  exact .ptr b o e (fun j=>(hv j).choose) h1 (fun j c hc=>⟨((hv j).choose_spec c hc).1,((hv j).choose_spec c hc).2.1⟩) (fun j c hc=>((hv j).choose_spec c hc).2.2)
theorem qu (R:Rel cfg x N s a w) {X:Operand} {ix:IOpd} (hX:cOpd X=some ix) {y:D} (hy:dat cfg s ix=some y):Rd (freeB x) w (a.eval X) y:=by
 simp only[dat,y8] at hy;obtain⟨v,hv,ha⟩:=hy;obtain⟨l,hr,_⟩:=a6 R hX hv;unfold V.asD at ha;split at ha
 · cases ha;exact hr.d_inv.canon
 · cases ha;exact hr.iptr_rd
 · cases ha
theorem a4e (R:Rel cfg x N s a w):∀ {Xs:List Operand} {ixs:List IOpd} (_:cOpds Xs=some ixs) {ys:List D} (_:dats cfg s ixs=some ys),
  Xs.length=ys.length∧∀ (i:Nat) X y,Xs[i]? =some X→ys[i]? =some y→Rd (freeB x) w (a.eval X) y
 | [],ixs,h,ys,h'=>by cases h;cases h';simp
 | X::Xs,ixs,h,ys,h'=>by
  unfold cOpds at h;split at h
  · rename_i ix ixs' h1 h2
    cases h;unfold dats at h';split at h'
    · rename_i y ys' h3 h4
      cases h';obtain⟨g1,g2⟩:=a4e R h2 h4;refine⟨by simp[g1],fun i X' y' e1 e2=> ?_⟩
      cases i with
      |zero=>simp at e1 e2;subst e1;subst e2;exact qu R h1 h3
      |succ i=>simp at e1 e2;exact g2 i X' y' e1 e2
    · cases h'
  · cases h
theorem sim_pick (R:Rel cfg x N s a w) {o:Oper} {C A B:Operand} (ho:o.op= .pick C A B) {k:Nat} (hd:o.dst=some k) (hk:k<N)
   {c p q:IOpd} (hC:cOpd C=some c) (hA:cOpd A=some p) (hB:cOpd B=some q) {t:Bool} (hc:val cfg s c=some (.d (.bool t)))
   {y:D} (hy:val cfg s (if t then p else q)=some (.d y)):Goes P cfg x N dep (updG s (put1 o.dst (.d y))) a w o:=by
 have h1:=(val_d R hC hc).bool_inv;cases t
 · refine av R hd hk (v:=a.eval B) ?_ (val_d R hB hy)
   simp[execOp,ho,h1,asBool]
 · refine av R hd hk (v:=a.eval A) ?_ (val_d R hA hy)
   simp[execOp,ho,h1,asBool]
theorem jf (op:BinOp) (t:TypeId) (X Y:Operand) {u v:Value} (h:(∀ n,u≠ .agg n)∧u≠ .nilIface):(eqGuard op t X Y u v).run P w= .ok () w:=by
 unfold eqGuard;cases op<;>try rfl
 all_goals
  cases u<;>first|rfl| (exact absurd rfl (h.1 _))| (exact absurd rfl h.2)
theorem sim_bin (R:Rel cfg x N s a w) {o:Oper} {op:BinOp} {t t':TypeId} {X Y:Operand} (ho:o.op= .binOp op t X Y t') {k:Nat} (hd:o.dst=some k) (hk:k<N)
   {p q:IOpd} (hX:cOpd X=some p) (hY:cOpd Y=some q) {c d r:D} (hc:val cfg s p=some (.d c)) (hdd:val cfg s q=some (.d d)) (hr:D.bin op c d=some r):
   Goes P cfg x N dep (updG s (put1 o.dst (.d r))) a w o:=by
 have h1:=val_d R hX hc;have h2:=val_d R hY hdd;cases c<;>cases d<;>simp only[D.bin] at hr<;>try cases hr
 · have e1:=h1.int_inv
   have e2:=h2.int_inv;obtain⟨v,g1,g2⟩:=avn P w (freeB x) t hr;refine av R hd hk (v:=v) ?_ g2;simp only[execOp,ho,e1,e2];simp[jf,g1]
 · have e1:=h1.str_inv
   have e2:=h2.str_inv;obtain⟨v,g1,g2⟩:=avk P w (freeB x) t hr;refine av R hd hk (v:=v) ?_ g2;simp only[execOp,ho,e1,e2];simp[jf,g1]
theorem sim_un (R:Rel cfg x N s a w) {o:Oper} {op:UnOp} {t:TypeId} {X:Operand} (ho:o.op= .unOp op t X) {k:Nat} (hd:o.dst=some k) (hk:k<N)
   {p:IOpd} (hX:cOpd X=some p) {c r:D} (hc:val cfg s p=some (.d c)) (hr:D.un op c=some r):Goes P cfg x N dep (updG s (put1 o.dst (.d r))) a w o:=by
 have h1:=val_d R hX hc;cases c<;>simp only[D.un] at hr<;>try cases hr
 · have e1:=h1.bool_inv
   cases op<;>simp at hr;subst hr;refine av R hd hk (v:= .bool _) ?_ (.bool _);simp[execOp,ho,e1,Op.unary]
 · have e1:=h1.int_inv
   cases op<;>simp only[Option.some.injEq,reduceCtorEq] at hr
   · subst hr
     refine av R hd hk (v:= .int _ _) ?_ (.int _ _);simp only[execOp,ho,e1,Op.unary,Op.intArith];rfl
   · subst hr
     refine av R hd hk (v:= .int _ _) ?_ (.int _ _);simp only[execOp,ho,e1,Op.unary,Op.intBits];rfl
theorem axv (R:Rel cfg x N s a w) {o:Oper} {t t':TypeId} {X:Operand} (ho:o.op= .convert t t' X) {k:Nat} (hd:o.dst=some k) (hk:k<N)
  {p:IOpd} (hX:cOpd X=some p) {q q':IntKind} (ht:P.underlying t=some (.int q')) (ht':P.underlying t'=some (.int q)) {k':IntKind} {n:Int} (hc:val cfg s p=some (.d (.int k' n))):
  Goes P cfg x N dep (updG s (put1 o.dst (.d (.int q (q.wrap n))))) a w o:=by
 have e1:=(val_d R hX hc).int_inv;refine av R hd hk (v:= .int q (q.wrap n)) ?_ (.int _ _);simp[execOp,ho,e1,convert,run_underlying ht,run_underlying ht',Conv.intToInt]
theorem axu (R:Rel cfg x N s a w) {o:Oper} {t t':TypeId} {X:Operand} (ho:o.op= .convert t t' X) {k:Nat} (hd:o.dst=some k) (hk:k<N)
  {p:IOpd} (hX:cOpd X=some p) (ht:P.underlying t=some .string) (ht':P.underlying t'=some .string) {b:List UInt8} (hc:val cfg s p=some (.d (.str b))):
  Goes P cfg x N dep (updG s (put1 o.dst (.d (.str b)))) a w o:=by
 have e1:=(val_d R hX hc).str_inv;refine av R hd hk (v:= .string ⟨b.toArray⟩) ?_ (.str _);simp[execOp,ho,e1,convert,run_underlying ht,run_underlying ht']
theorem sim_ext (R:Rel cfg x N s a w) {o:Oper} {X:Operand} {i:Nat} (ho:o.op= .extract X i) {k:Nat} (hd:o.dst=some k) (hk:k<N)
  {p:IOpd} (hX:cOpd X=some p) {ds:List D} (hc:val cfg s p=some (.d (.tup ds))) {r:D} (hr:ds[i]? =some r):Goes P cfg x N dep (updG s (put1 o.dst (.d r))) a w o:=by
 have h1:=val_d R hX hc;generalize hv:a.eval X=v at h1;cases h1 with
 | tup vs cs hl h=>
  have hi:i<vs.length:=by rw[hl];exact(y4.1 hr).1
  refine av R hd hk (v:=vs[i]) ?_ (h i _ _ (yy hi) hr);simp[execOp,ho,hv,Instr.extract,hi]
theorem sim_mkI (R:Rel cfg x N s a w) {o:Oper} {t:TypeId} {X:Operand} (ho:o.op= .makeInterface t X) {k:Nat} (hd:o.dst=some k) (hk:k<N)
   {p:IOpd} (hX:cOpd X=some p) {d:TypeDesc} (ht:P.underlying t=some d) (hni:∀ ms,d≠ .interface ms) {y:V} (hc:val cfg s p=some y)
   {u:List (Loc×V)} (hu:(match y with
    | .d c=>some (put1 o.dst (.d (.ifc t c.canon)))
    | .ref d k off=>some (put1 o.dst (.ifc t (.ref d k off)))
    | .iptr e 0=>some (put1 o.dst (.d (.ifc t (.ptr e))))
    |_=>none)=some u):Goes P cfg x N dep (updG s u) a w o:=by
 have hrun:(execOp a.eval o).run P w= .ok (.value (.iface t (a.eval X))) w:=by
   simp only[execOp,ho,Instr.makeInterface,Sem.run_bind,run_underlying ht,Result.andThen_ok];cases d<;>first|rfl|exact absurd rfl (hni _)
 obtain⟨l,hr,_⟩:=a6 R hX hc;split at hu
 · cases hu
   exact av R hd hk hrun (.ifc _ _ _ hr.d_inv.canon)
 · cases hu
   exact ao R hd hk hrun rfl (l:=none) (.ifc _ _ _ _ (hr.reloc rfl))
 · rename_i e0 hc0
   cases hu;refine av R hd hk hrun (.ifc _ _ _ ?_);exact qu R hX (by simp[dat,hc0,V.asD])
 · cases hu
theorem a2x (P:Program) (w:World) (F:Nat→Prop) (mx:Bool) (k:IntKind):∀ (vs:List Value) (ds:List D) (n:Int) (r:D),vs.length=ds.length→(∀ (i:Nat) v d,vs[i]? =some v→ds[i]? =some d→Rd F w v d)→
  minD.go mx k n ds=some r→∃ m,((if mx then vs.foldlM Builtin.max2 (.int k n) else vs.foldlM Builtin.min2 (.int k n)):Sem Value).run P w= .ok (.int k m) w∧r= .int k m
 | [],[],n,r,_,_,h=>by
  simp only[minD.go] at h;cases h;exact⟨n,by cases mx<;>simp,rfl⟩
 | v::vs,d::ds,n,r,hl,hr,h=>by
  have h0:=hr 0 v d rfl rfl;cases d<;>simp only[minD.go] at h<;>try cases h
  rename_i k' m;have e:=h0.int_inv;subst e;obtain⟨m',g1,g2⟩:=a2x P w F mx k vs ds _ r (by simpa using hl) (fun i v d e1 e2=>hr (i+1) v d (by simpa using e1) (by simpa using e2)) h
  refine⟨m',?_,g2⟩;cases mx
  · simp only[zf,if_false,List.foldlM_cons,Builtin.min2,pure_bind] at g1 ⊢
    exact g1
  · simp only[if_true,List.foldlM_cons,Builtin.max2,pure_bind] at g1 ⊢
    exact g1
theorem sd (R:Rel cfg x N s a w) {o:Oper} {mx:Bool} {c:Call} (ho:o.op= .call c) (hb:c.callee= .builtin (if mx then .max else .min)) {k:Nat} (hd:o.dst=some k) (hk:k<N)
  {ps:List IOpd} (hX:cOpds c.args.toList=some ps) {ds:List D} (hc:dats cfg s ps=some ds) {r:D} (hr:minD mx ds=some r):Goes P cfg x N dep (updG s (put1 o.dst (.d r))) a w o:=by
 obtain⟨g1,g2⟩:=a4e R hX hc;cases ds with
 |nil=>simp[minD] at hr
 | cons d ds=>
  cases hxs:c.args.toList with
  |nil=>rw[hxs] at g1;simp at g1
  | cons X Xs=>
   rw[hxs] at g1 g2;have h0:=g2 0 X d rfl rfl;cases d<;>simp only[minD] at hr<;>try cases hr
   rename_i q n;obtain⟨m,q1,rfl⟩:=a2x P w (freeB x) mx q (Xs.map a.eval) ds n r (by simpa using g1) (fun i v d e1 e2=>by
     rw[zg] at e1;cases hX:Xs[i]? with
     |none=>rw[hX] at e1;cases e1
     |some X'=>rw[hX] at e1;cases e1;exact g2 (i+1) X' d (by simpa using hX) (by simpa using e2)) hr
   refine av R hd hk (v:= .int q m) ?_ (.int _ _);have hargs:c.args.map a.eval=(a.eval X::Xs.map a.eval).toArray:=by
     apply Array.ext';simp[hxs]
   cases mx
   · simp only[zf,if_false] at hb q1
     simp only[execOp,ho,resolve,hb,invoke,builtin,Builtin.min_,hargs,Sem.run_bind,Sem.run_pure,Result.andThen_ok,h0.int_inv,q1]
   · simp only[if_true] at hb q1
     simp only[execOp,ho,resolve,hb,invoke,builtin,Builtin.max_,hargs,Sem.run_bind,Sem.run_pure,Result.andThen_ok,h0.int_inv,q1]
end
end Go.Ev
namespace Go.Ev
open Go
def xh (F:Nat→Prop) (w:World) (b o:Nat) (e:D):Prop:=
 (∀ c∈e.cells,c.isCell=true)∧∀ (j:Nat) c,e.cells[j]? =some c→∃ v,w.cell? (ad3 b (o+j))=some v∧Rd F w v c
theorem PtrAt.cells {F:Nat→Prop} {w:World} {b o:Nat} {e:D} (h:PtrAt F w b o e):xh F w b o e:=
 ⟨h.1,fun j c hj=>let⟨v,_,h1,h2⟩:=h.2 j c hj;⟨v,h1,h2⟩⟩
theorem Arr.cells {F:Nat→Prop} {w:World} {b o cap z:Nat} {es:List D} (h:Arr F w b o cap z es) {i:Nat} {e:D} (he:es[i]? =some e):xh F w b (o+i*z) e:=
 ⟨h.cel e (List.mem_of_getElem? he),fun j c hj=>h.els i e he j c hj⟩
section
variable {P:Program} {w:World} {F:Nat→Prop}
theorem fb {t:TypeId} (h:zOpt P t=some none):(isAgg t).run P w= .ok false w∧∃ d,P.underlying t=some d:=by
 unfold zOpt at h;split at h<;>try(cases h)
 rename_i d n h1 h2 hu hn;refine⟨?_,d,hu⟩;simp only[isAgg,Sem.run_bind,run_underlying hu,Result.andThen_ok];cases d<;>first|rfl|exact(h1 _ rfl).elim|exact(h2 _ _ rfl).elim
theorem bd {t:TypeId} {n:Nat} (h:sizeD P t=some n):(sizeOf t).run P w= .ok n w:=by
 simp only[sizeD,yw] at h;obtain⟨i,hi,rfl⟩:=h;simp[sizeOf,typeInfo,hi]
theorem fa {t:TypeId} {n:Nat} (h:zOpt P t=some (some n)):(isAgg t).run P w= .ok true w∧(sizeOf t).run P w= .ok n w:=by
 unfold zOpt at h;split at h
 · rename_i hu hn
   cases h;exact⟨by simp[isAgg,run_underlying hu],bd hn⟩
 · rename_i hu hn
   cases h;exact⟨by simp[isAgg,run_underlying hu],bd hn⟩
 · split at h<;>cases h
 · cases h
theorem b8 (b o n:Nat):(ad3 b o).add n=ad3 b (o+n):=by
 unfold Addr.add;split<;>simp_all
theorem l8 {cs:List D} {f:Nat→Option Value} (h:∀ (j:Nat) c,cs[j]? =some c→∃ v,f j=some v∧Rd F w v c):
  ∃ vs:List Value,vs.length=cs.length∧(∀ (j:Nat) v,vs[j]? =some v→f j=some v)∧∀ (j:Nat) v c,vs[j]? =some v→cs[j]? =some c→Rd F w v c:=by
 induction cs generalizing f with
 |nil=>exact⟨[],rfl,by simp,by simp⟩
 | cons c cs ih=>
  obtain⟨v,h1,h2⟩:=h 0 c rfl;obtain⟨vs,g1,g2,g3⟩:=ih (f:=fun j=>f (j+1)) (fun j c' hj=>h (j+1) c' (by simpa using hj))
  refine⟨v::vs,by simp[g1],fun j u hu=> ?_,fun j u d hu hd=> ?_⟩
  · cases j with
    |zero=>simp at hu;subst hu;exact h1
    |succ j=>simp at hu;exact g2 j u hu
  · cases j with
    |zero=>simp at hu hd;subst hu;subst hd;exact h2
    |succ j=>simp at hu hd;exact g3 j u d hu hd
theorem dl {t:TypeId} {z:Option Nat} (hz:zOpt P t=some z) {b o off:Nat} {e r:D} (h:xh F w b o e) (hl:ldD z e off=some r):
  ∃ v,(loadVar t (ad3 b (o+off))).run P w= .ok v w∧Rd F w v r:=by
 cases z with
 | none=>
  simp only[ldD] at hl;obtain⟨v,h1,h2⟩:=h.2 off r hl;refine⟨v,?_,h2⟩;simp only[loadVar,Sem.run_bind,(fb hz).1,Result.andThen_ok,zf,if_false,run_load,h1]
 | some n=>
  simp only[ldD] at hl;split at hl
  · rename_i hn
    cases hl;obtain⟨vs,g1,g2,g3⟩:=l8 (w:=w) (F:=F) (cs:=(e.cells.drop off).take n) (f:=fun j=>w.cell? (ad3 b (o+off+j))) (fun j c hj=>by
     rw[List.getElem?_take] at hj;split at hj
     · rw[List.getElem?_drop] at hj
       obtain⟨v,q1,q2⟩:=h.2 _ c hj;exact⟨v,by rw[← q1,Nat.add_assoc],q2⟩
     · cases hj)
    have hlen:vs.length=n:=by rw[g1];simp;omega
    have hr:=run_loadCells_list (P:=P) w (ad3 b (o+off)) vs (fun j v hj=>by rw[b8];exact g2 j v hj)
    rw[hlen] at hr;refine⟨.agg vs.toArray,?_,.agg vs _ g1 (fun c hc=>h.1 c (aai (aaj hc))) g3⟩
    simp only[loadVar,Sem.run_bind,(fa (w:=w) hz).1,(fa (w:=w) hz).2,Result.andThen_ok,if_true,hr];rfl
  · cases hl
theorem akk {t:TypeId} {z:Option Nat} (hz:zOpt P t=some z) {vs:List Value} {cs:List D} (hl:vs.length=cs.length) (hc:∀ c∈cs,c.isCell=true)
  (h:∀ (i:Nat) v c,vs[i]? =some v→cs[i]? =some c→Rd F w v c) {off:Nat} {r:D} (hr:ldD z (.agg cs) off=some r):
  ∃ v,(part t vs.toArray off).run P w= .ok v w∧Rd F w v r:=by
 cases z with
 | none=>
  simp only[ldD,D.cells] at hr;have hi:off<vs.length:=by rw[hl];exact(y4.1 hr).1
  refine⟨vs[off],?_,h off _ _ (yy hi) hr⟩;simp[part,(fb (w:=w) hz).1,hi]
 | some n=>
  change (if off+n≤cs.length then some (D.agg ((cs.drop off).take n)) else none)=some r at hr
  by_cases hn:off+n≤cs.length
  · rw[if_pos hn] at hr
    cases hr;refine⟨.agg ((vs.drop off).take n).toArray,?_,.agg _ _ (by simp[hl]) (fun c hc'=>hc c (aai (aaj hc'))) (fun i v c h1 h2=> ?_)⟩
    · simp[part,(fa (w:=w) hz).1,(fa (w:=w) hz).2]
    · rw[List.getElem?_take] at h1 h2
      split at h1
      · rename_i hi
        rw[if_pos hi] at h2;rw[List.getElem?_drop] at h1 h2;exact h _ v c h1 h2
      · cases h1
  · rw[if_neg hn] at hr;cases hr
end
section
variable {P:Program} {cfg:Cfg} {x:Cx} {N dep:Nat} {s:Get} {a:Act} {w:World}
theorem cg {o:Oper} {c:Call} (ho:o.op= .call c) {b:Builtin} (hb:c.callee= .builtin b) {v w'} (h:(builtin b c.argTypes o.type (c.args.map fun| .const _=>true|_=>false) (c.args.map a.eval)).run P w= .ok (.value v) w'):
  (execOp a.eval o).run P w= .ok (.value v) w':=by
 rw[← h];simp only[execOp,ho,resolve,hb];rfl
theorem axq (R:Rel cfg x N s a w) {o:Oper} {c:Call} (ho:o.op= .call c) (hb:c.callee= .builtin .len) {X:Operand} (hargs:c.args.toList=[X]) {t:TypeId} (htys:c.argTypes.toList=[t])
   {k:Nat} (hd:o.dst=some k) (hk:k<N) {p:IOpd} (hX:cOpd X=some p) (ht:P.underlying t=some .string∨∃ e,P.underlying t=some (.slice e)) {y:V} (hy:val cfg s p=some y)
   {n:Nat} (hn:(match y with| .d (.str b)=>some b.length| .d .nilS=>some 0| .d (.sl es)=>some es.length| .own _ _ es=>some es.length| .bor _ _ n=>some n| .vec ys=>some ys.length|_=>none)=some n)
   (hs:(∃ b,y= .d (.str b))↔P.underlying t=some .string):Goes P cfg x N dep (updG s (put1 o.dst (.d (.int .i64 n)))) a w o:=by
 obtain⟨l,hr,_⟩:=a6 R hX hy;have hA:c.args= #[X]:=by apply Array.ext';simp[hargs]
 have hT:c.argTypes= #[t]:=by apply Array.ext';simp[htys]
 refine av R hd hk (v:= .int .i64 n) ?_ (.int _ _);have hsl:∀ (v:Value),(∃ ad cap,v= .slice ad n cap)→a.eval X=v→(∃ e,P.underlying t=some (.slice e))→
     (execOp a.eval o).run P w= .ok (.value (.int .i64 n)) w:=by
   intro v hv e ⟨el,he⟩;have hl:(Builtin.len_ #[t] o.type #[v]).run P w= .ok (.int .i64 n) w:=by
     obtain⟨ad,cap,rfl⟩:=hv;simp only[Builtin.len_,List.getElem?_toArray,List.getElem?_cons_zero,Sem.run_bind,run_underlying he,Result.andThen_ok]<;>rfl
   refine cg ho hb ?_;rw[hA,hT];simp only[List.map_toArray,List.map_cons,List.map_nil,e,builtin,Sem.run_bind,hl,Result.andThen_ok,Sem.run_pure]
 have hns:(¬ ∃ b,y= .d (.str b))→∃ e,P.underlying t=some (.slice e):=fun h=>by
   rcases ht with h'|h'
   · exact absurd (hs.2 h') h
   · exact h'
 split at hn
 · rename_i b hb'
   cases hn;have e:=hr.d_inv.str_inv;have hst:=hs.1 ⟨_,rfl⟩;have hl:(Builtin.len_ #[t] o.type #[.string ⟨b.toArray⟩]).run P w= .ok (.int .i64 b.length) w:=by
     simp only[Builtin.len_,List.getElem?_toArray,List.getElem?_cons_zero,Sem.run_bind,run_underlying hst,Result.andThen_ok];rfl
   refine cg ho hb ?_;rw[hA,hT];simp only[List.map_toArray,List.map_cons,List.map_nil,e,builtin,Sem.run_bind,hl,Result.andThen_ok,Sem.run_pure]
 · cases hn
   obtain⟨ad,e⟩:=hr.d_inv.nilS_inv;exact hsl _ ⟨ad,0,rfl⟩ e (hns yt)
 · rename_i es
   cases hn;obtain⟨ad,cap,e,_⟩:=hr.d_inv.sl_inv;exact hsl _ ⟨ad,cap,rfl⟩ e (hns yt)
 · rename_i nw z es
   cases hn;obtain⟨l0,b,o',cap,_,e,_⟩:=hr.own_inv;exact hsl _ ⟨_,cap,rfl⟩ e (hns yt)
 · rename_i l' off n'
   cases hn;generalize hv:a.eval X=v at hr;cases hr with
   |bor _ _ _ _ b o' cap' h4 h=>exact hsl _ ⟨_,cap',rfl⟩ hv (hns yt)
 · rename_i ys
   cases hn;generalize hv:a.eval X=v at hr;cases hr with
   |vec _ b o' cap' _ vs h1 h2 h3=>exact hsl _ ⟨_,cap',rfl⟩ hv (hns yt)
 · cases hn
theorem sim_nil (R:Rel cfg x N s a w) {o:Oper} {X:Operand} (ho:o.op= .nilCheck X) {k:Nat} (hd:o.dst=some k) (hk:k<N) {p:IOpd} (hX:cOpd X=some p) {y:V} (hy:val cfg s p=some y)
   {u:List (Loc×V)} (hu:evNil (some k) y=some u):Goes P cfg x N dep (updG s u) a w o:=by
 obtain⟨l,hr,_⟩:=a6 R hX hy;have key:y.isOwn=false→u=put1 o.dst y→(execOp a.eval o).run P w= .ok (.value (a.eval X)) w→Goes P cfg x N dep (updG s u) a w o:=fun h1 h2 h3=>by
   subst h2;exact ao R hd hk h3 h1 hr
 have hrun:∀ v,a.eval X=v→(match v with| .pointer none| .nilIface| .nilFunc=>False| .func (.method _) _ _=>False|_=>True)→(execOp a.eval o).run P w= .ok (.value (a.eval X)) w:=by
   intro v e hv;simp only[execOp,ho,e];split at hv<;>first|exact hv.elim|skip
   rename_i h1 h2 h3 h4;cases v<;>first|rfl| (rename_i q;cases q<;>first|rfl|exact absurd rfl h1)|exact absurd rfl h2|exact absurd rfl h3|skip
   rename_i fn f1 f2;cases fn<;>first|rfl|exact absurd rfl (h4 _ _ _)
 have hp:∀ ad,a.eval X= .pointer (some ad)→(execOp a.eval o).run P w= .ok (.value (a.eval X)) w:=fun ad e=>hrun _ e trivial
 unfold evNil at hu;generalize hv:a.eval X=v at hr;split at hu<;>cases hu
 · have:=hr.d_inv;cases this;exact key rfl (by rw[hd]) (hp _ hv)
 · have:=hr.d_inv;cases this;exact key rfl (by rw[hd]) (hrun _ hv trivial)
 · have:=hr.d_inv;cases this;exact key rfl (by rw[hd]) (hrun _ hv trivial)
 · cases hr;exact key rfl (by rw[hd]) (hp _ hv)
 · cases hr;exact key rfl (by rw[hd]) (hp _ hv)
 · cases hr;exact key rfl (by rw[hd]) (hp _ hv)
 · cases hr;exact key rfl (by rw[hd]) (hrun _ hv trivial)
 · cases hr;exact key rfl (by rw[hd]) (hrun _ hv trivial)
 · cases hr;exact key rfl (by rw[hd]) (hp _ hv)
end
end Go.Ev
namespace Go.Ev
open Go
def xg (P:Program) (cfg:Cfg):Prop:=
 ∀ t,cfg.intTy t=true→∃ k i,P.underlying t=some (.int k)∧P.info? t=some i∧i.comparable=true
section
variable {P:Program} {cfg:Cfg} {x:Cx} {N dep:Nat} {s:Get} {a:Act} {w:World}
def eqVal:Value→Bool
 | .bool _| .pointer _| .slice _ _ _| .func _ _ _| .nilFunc| .iface _ _| .nilIface=>true
 |_=>false
theorem run_eq (op:BinOp) (neg:Bool) (hop:op=if neg then .neq else .eql) (t:TypeId) {u v:Value} (hu:eqVal u=true) (hv:eqVal v=true) {r:Bool}
  (h:(Op.equal t u v).run P w= .ok r w):(binOp op t u v).run P w= .ok (.bool (if neg then !r else r)) w:=by
 have h':(Op.equalIn Op.maxDepth t u v).run P w= .ok r w:=h;cases neg<;>subst hop<;>cases u<;>simp[eqVal] at hu<;>cases v<;>simp[eqVal] at hv<;>simp[binOp,Op.equal,h']
theorem run_nilguard (op:BinOp) (t:TypeId) (X Y:Operand) {u v:Value} (h:(∀ n,u≠ .agg n)) (h':u= .nilIface→v≠ .nilIface):(eqGuard op t X Y u v).run P w= .ok () w:=by
 unfold eqGuard;cases op<;>try rfl
 all_goals
  cases u<;>first|rfl| (exact absurd rfl (h _))|skip
  cases v<;>first|rfl| (exact absurd rfl (h' rfl))
theorem b6 {t e:TypeId} (ht:P.underlying t=some (.pointer e)) (u v:Option Addr) (h:u=none∨v=none):
  (Op.equal t (.pointer u) (.pointer v)).run P w= .ok (u.isNone&&v.isNone) w:=by
 show(Op.equalIn (9999+1) t _ _).run P w=_;unfold Op.equalIn;cases u<;>cases v<;>simp at h<;>simp[run_underlying ht]
theorem pr {t e:TypeId} (ht:P.underlying t=some (.slice e)) (u v:Option Addr) (l c l' c':Nat) (h:u=none∨v=none):
  (Op.equal t (.slice u l c) (.slice v l' c')).run P w= .ok (u.isNone&&v.isNone) w:=by
 show(Op.equalIn (9999+1) t _ _).run P w=_;unfold Op.equalIn;cases u<;>cases v<;>simp at h<;>simp[run_underlying ht]
theorem dm {t:TypeId} {ps rs:Array TypeId} {b:Bool} (ht:P.underlying t=some (.func ps rs b)) (u v:Value)
  (h:(u= .nilFunc∧v= .nilFunc)∨(u= .nilFunc∧∃ f a b,v= .func f a b)∨((∃ f a b,u= .func f a b)∧v= .nilFunc)):
  (Op.equal t u v).run P w= .ok (u matches .nilFunc&&v matches .nilFunc) w:=by
 show(Op.equalIn (9999+1) t _ _).run P w=_;unfold Op.equalIn;rcases h with⟨rfl,rfl⟩|⟨rfl,f,p,q,rfl⟩|⟨⟨f,p,q,rfl⟩,rfl⟩<;>simp[run_underlying ht]
theorem rq {t:TypeId} (ht:P.underlying t=some .bool) (u v:Bool):(Op.equal t (.bool u) (.bool v)).run P w= .ok (u==v) w:=by
 show(Op.equalIn (9999+1) t _ _).run P w=_;unfold Op.equalIn;simp[run_underlying ht]
theorem bv {t:TypeId} {ms:Array (String×TypeId)} (ht:P.underlying t=some (.interface ms)) (u v:Value)
  (h:(u= .nilIface∧∃ f a,v= .iface f a)∨((∃ f a,u= .iface f a)∧v= .nilIface)):(Op.equal t u v).run P w= .ok false w:=by
 show(Op.equalIn (9999+1) t _ _).run P w=_;unfold Op.equalIn;rcases h with⟨rfl,f,p,rfl⟩|⟨⟨f,p,rfl⟩,rfl⟩<;>simp[run_underlying ht]
theorem l3 {t:TypeId} {ms:Array (String×TypeId)} (ht:P.underlying t=some (.interface ms)) (f g:TypeId) (p q:Value) (h:f≠g):
  (Op.equal t (.iface f p) (.iface g q)).run P w= .ok false w:=by
 show(Op.equalIn (9999+1) t _ _).run P w=_;unfold Op.equalIn;simp[run_underlying ht,h]
theorem k7 {t:TypeId} {ms:Array (String×TypeId)} (ht:P.underlying t=some (.interface ms)) (f:TypeId) {k k':IntKind} {i:TypeInfo} (n m:Int)
  (hf:P.underlying f=some (.int k')) (hi:P.info? f=some i) (hc:i.comparable=true):
  (Op.equal t (.iface f (.int k n)) (.iface f (.int k m))).run P w= .ok (n==m) w:=by
 show(Op.equalIn (9998+1+1) t _ _).run P w=_;unfold Op.equalIn;simp only[Sem.run_bind,run_underlying ht,Result.andThen_ok,ne_eq,aa6,if_false,typeInfo,run_program,hi,Sem.run_pure,hc,Bool.not_true,zf];unfold Op.equalIn;simp[run_underlying hf]
theorem sim_eqn (hI:xg P cfg) (R:Rel cfg x N s a w) {o:Oper} {op:BinOp} {neg:Bool} (hop:op=if neg then .neq else .eql) {t t':TypeId} {X Y:Operand} (ho:o.op= .binOp op t X Y t')
   {k:Nat} (hd:o.dst=some k) (hk:k<N) {p q:IOpd} (hX:cOpd X=some p) (hY:cOpd Y=some q) {d:TypeDesc} (ht:P.underlying t=some d) {cls:ECls} (hcls:js d=some cls)
   {c e:V} (hc:val cfg s p=some c) (he:val cfg s q=some e) {r:Bool} (hr:V.eqn cfg cls c e=some r):
   Goes P cfg x N dep (updG s (put1 o.dst (.d (.bool (if neg then !r else r))))) a w o:=by
 obtain⟨l1,h1,_⟩:=a6 R hX hc;obtain⟨l2,h2,_⟩:=a6 R hY he;generalize hu:a.eval X=u at h1;generalize hv:a.eval Y=v at h2;have key:eqVal u=true→eqVal v=true→(u= .nilIface→v≠ .nilIface)→(Op.equal t u v).run P w= .ok r w→Goes P cfg x N dep (updG s (put1 o.dst (.d (.bool (if neg then !r else r))))) a w o:=by
   intro e1 e2 e3 e4;refine av R hd hk (v:= .bool _) ?_ (.bool _);have hg:(eqGuard op t X Y u v).run P w= .ok () w:=run_nilguard op t X Y (fun n h=>by subst h;simp[eqVal] at e1) e3
   simp only[execOp,ho,hu,hv,Sem.run_bind,hg,Result.andThen_ok,run_eq op neg hop t e1 e2 e4,Sem.run_pure]
 have hbool:cls= .bool→d= .bool:=by rintro rfl;unfold js at hcls;split at hcls<;>first|rfl|cases hcls
 have hptr:cls= .ptr→∃ e,d= .pointer e:=by rintro rfl;unfold js at hcls;split at hcls<;>first|exact⟨_,rfl⟩|cases hcls
 have hfn:cls= .func→∃ p q b,d= .func p q b:=by rintro rfl;unfold js at hcls;split at hcls<;>first|exact⟨_,_,_,rfl⟩|cases hcls
 have hif:cls= .iface→∃ ms,d= .interface ms:=by rintro rfl;unfold js at hcls;split at hcls<;>first|exact⟨_,rfl⟩|cases hcls
 unfold V.eqn at hr;split at hr
 · have g1:=h1.d_inv
   have g2:=h2.d_inv;unfold D.eqn at hr;split at hr
   · cases hr;cases g1;cases g2;cases hbool rfl;exact key rfl rfl yt (rq ht _ _)
   · cases hr;cases g1;cases g2;obtain⟨el,rfl⟩:=hptr rfl;exact key rfl rfl yt (b6 ht _ _ (.inl rfl))
   · cases hr;cases g1;cases g2;obtain⟨el,rfl⟩:=hptr rfl;exact key rfl rfl yt (b6 ht _ _ (.inl rfl))
   · cases hr;cases g1;cases g2;obtain⟨el,rfl⟩:=hptr rfl;exact key rfl rfl yt (b6 ht _ _ (.inr rfl))
   · exfalso;unfold js at hcls;split at hcls<;>cases hcls
   · cases hr;cases g1;cases g2;obtain⟨_,_,_,rfl⟩:=hfn rfl;exact key rfl rfl yt (dm ht _ _ (.inl ⟨rfl,rfl⟩))
   · cases hr;cases g1;cases g2;obtain⟨_,_,_,rfl⟩:=hfn rfl;exact key rfl rfl yt (dm ht _ _ (.inr (.inl ⟨rfl,_,_,_,rfl⟩)))
   · cases hr;cases g1;cases g2;obtain⟨_,_,_,rfl⟩:=hfn rfl;exact key rfl rfl yt (dm ht _ _ (.inr (.inr ⟨⟨_,_,_,rfl⟩,rfl⟩)))
   · cases hr;cases g1;cases g2;obtain⟨_,rfl⟩:=hif rfl;exact key rfl rfl yt (bv ht _ _ (.inl ⟨rfl,_,_,rfl⟩))
   · cases hr;cases g1;cases g2;obtain⟨_,rfl⟩:=hif rfl;exact key rfl rfl yt (bv ht _ _ (.inr ⟨⟨_,_,rfl⟩,rfl⟩))
   · obtain⟨_,rfl⟩:=hif rfl
     split at hr
     · rename_i hne
       cases hr;cases g1;cases g2;exact key rfl rfl yt (l3 ht _ _ _ _ hne)
     · rename_i hne
       have hne:=Decidable.not_not.1 hne;split at hr
       · split at hr
         · rename_i hk
           obtain⟨hk1,rfl⟩:=hk;cases hr;subst hne;obtain⟨k',i,q1,q2,q3⟩:=hI _ hk1;cases g1 with
           | ifc _ _ _ g1=>cases g2 with
            | ifc _ _ _ g2=>
             cases g1.int_inv;cases g2.int_inv;exact key rfl rfl yt (k7 ht _ _ _ q1 q2 q3)
         · cases hr
       · cases hr
   · exfalso;unfold js at hcls;split at hcls<;>cases hcls
   · exfalso;unfold js at hcls;split at hcls<;>cases hcls
   · cases hr
 · cases hr;cases h2.d_inv;obtain⟨el,rfl⟩:=hptr rfl;cases h1;exact key rfl rfl yt (b6 ht _ _ (.inr rfl))
 · cases hr;cases h2.d_inv;obtain⟨el,rfl⟩:=hptr rfl;cases h1;exact key rfl rfl yt (b6 ht _ _ (.inr rfl))
 · cases hr;cases h2.d_inv;obtain⟨el,rfl⟩:=hptr rfl;cases h1;exact key rfl rfl yt (b6 ht _ _ (.inr rfl))
 · cases hr;cases h2.d_inv;obtain⟨_,_,_,rfl⟩:=hfn rfl;cases h1;exact key rfl rfl yt (dm ht _ _ (.inr (.inr ⟨⟨_,_,_,rfl⟩,rfl⟩)))
 · cases hr;cases h2.d_inv;obtain⟨_,rfl⟩:=hif rfl;cases h1;exact key rfl rfl yt (bv ht _ _ (.inr ⟨⟨_,_,rfl⟩,rfl⟩))
 · exfalso;unfold js at hcls;split at hcls<;>cases hcls
 · cases hr
theorem bytes_eq (s t:List UInt8):((⟨s.toArray⟩:ByteArray).toList==(⟨t.toArray⟩:ByteArray).toList)=(s==t):=by
 rw[ByteArray.toList_eq,ByteArray.toList_eq]
theorem nu {F G:Nat→Prop} (dd:Nat) (vs us:List Value) (cs es:List D)
  (hv:∀ (i:Nat) v c,vs[i]? =some v→cs[i]? =some c→Rd F w v c) (hu:∀ (i:Nat) v c,us[i]? =some v→es[i]? =some c→Rd G w v c) (hl:vs.length=cs.length) (hl':us.length=es.length):
  ∀ (fs:List Field) (i:Nat) (ks:List Nat) (r:Bool),auj P i fs=some ks→dh ks (cs.drop i) (es.drop i)=some r→
    (Op.eqFields (dd+1) vs.toArray us.toArray fs).run P w= .ok r w
 | [],i,ks,r,hf,h3=>by
  cases hf;generalize cs.drop i=A at h3;generalize es.drop i=B at h3;cases A<;>cases B<;>simp only[dh] at h3<;>cases h3;rfl
 | f::fs,i,ks,r,hf,h3=>by
  unfold auj at hf;split at hf
  · rename_i k ks' hk hr
    split at hf
    · rename_i hq
      obtain⟨hn,ho,hz⟩:=hq;cases hf;have hi:i<cs.length:=by
        by_cases h:i<cs.length
        · exact h
        · rw[List.drop_of_length_le yp] at h3;simp[dh] at h3
      have hi':i<es.length:=by
        by_cases h:i<es.length
        · exact h
        · rw[List.drop_of_length_le (l:=es) yp,aa5 hi] at h3;simp[dh] at h3
      rw[aa5 hi,aa5 hi'] at h3;have pv:(part f.type vs.toArray f.offset).run P w= .ok (vs[i]'(by omega)) w:=by
        simp only[part,Sem.run_bind,(fb hz).1,Result.andThen_ok,zf,if_false];simp[ho,yy (show i<vs.length by omega)]
      have pu:(part f.type us.toArray f.offset).run P w= .ok (us[i]'(by omega)) w:=by
        simp only[part,Sem.run_bind,(fb hz).1,Result.andThen_ok,zf,if_false];simp[ho,yy (show i<us.length by omega)]
      have rv:=hv i _ _ (yy yp) (yy hi);have ru:=hu i _ _ (yy yp) (yy hi');simp only[dh] at h3;split at h3
      · rename_i t t' g1 g2
        cases h3;have ih:=nu dd vs us cs es hv hu hl hl' fs (i+1) ks' t' hr g2;have e1:(Op.equalIn (dd+1) f.type (vs[i]'(by omega)) (us[i]'(by omega))).run P w= .ok t w:=by
          generalize vs[i]'(by omega)=v at*
          generalize us[i]'(by omega)=u at*
          generalize cs[i]=c at *;generalize es[i]=e at *;unfold t7 at g1;split at g1
          · rename_i a b c d
            split at g1
            · rename_i hkk
              cases g1;subst hkk;cases rv.int_inv;cases ru.int_inv;unfold flatK at hk;split at hk<;>cases hk;rename_i k2 hk2;exact run_equalIn_int w dd _ _ k2 _ _ hk2
            · cases g1
          · cases g1
            cases rv.bool_inv;cases ru.bool_inv;unfold flatK at hk;split at hk<;>cases hk;rename_i hk2;exact run_equalIn_bool w dd _ _ _ hk2
          · cases g1
            cases rv;cases ru;unfold flatK at hk;split at hk<;>cases hk;rename_i hk2;rw[run_equalIn_string w dd _ _ _ hk2,bytes_eq]
          · cases g1
        simp only[Op.eqFields,ne_eq,hn,not_false_eq_true,if_true,Sem.run_bind,pv,pu,Result.andThen_ok,e1];cases t
        · simp only[aa0,if_true,Sem.run_pure];rfl
        · simp only[Bool.not_true,zf,if_false];rw[ih];rfl
      · cases h3
    · cases hf
  · cases hf
theorem eqn_agg {ks:List Nat} {c e:V} {r:Bool} (hr:V.eqn cfg (.agg ks) c e=some r):∃ xs ys,c= .d (.agg xs)∧e= .d (.agg ys)∧dh ks xs ys=some r:=by
 cases c<;>cases e<;>simp only[V.eqn,reduceCtorEq] at hr;rename_i c e;cases c<;>cases e<;>simp only[D.eqn,reduceCtorEq] at hr;exact⟨_,_,rfl,rfl,hr⟩
theorem sim_eqS (R:Rel cfg x N s a w) {o:Oper} {op:BinOp} {neg:Bool} (hop:op=if neg then .neq else .eql) {t t':TypeId} {X Y:Operand} (ho:o.op= .binOp op t X Y t')
   {k:Nat} (hd:o.dst=some k) (hk:k<N) {p q:IOpd} (hX:cOpd X=some p) (hY:cOpd Y=some q) {fs:Array Field} (ht:P.underlying t=some (.struct fs)) {ks:List Nat} (hcls:auk P t fs=some ks)
   {c e:V} (hc:val cfg s p=some c) (he:val cfg s q=some e) {r:Bool} (hr:V.eqn cfg (.agg ks) c e=some r):
   Goes P cfg x N dep (updG s (put1 o.dst (.d (.bool (if neg then !r else r))))) a w o:=by
 obtain⟨xs,ys,rfl,rfl,hr⟩:=eqn_agg hr;have h1:=val_d R hX hc;have h2:=val_d R hY he;generalize hu:a.eval X=u at h1;generalize hv:a.eval Y=v at h2;cases h1 with
 |agg vs cs hl hcc hvs=>
 cases h2 with
 |agg us es hl' hcc' hus=>
 unfold auk at hcls;split at hcls
 · cases hcls
 · rename_i hno
   rw[not_or] at hno;have hst:P.stoodInHeld t=false:=by simpa using hno.1
   have hgd:P.eqGuardType P.depth t=false:=by simpa using hno.2
   have hfs:P.fieldsOf t=fs:=by unfold Program.fieldsOf;rw[ht]
   have hrun:(Op.equalIn 10000 t (.agg vs.toArray) (.agg us.toArray)).run P w= .ok r w:=by
     rw[run_equalIn_struct w 9999 t _ _ (by rw[hfs];exact ht) hst,hfs]
     exact nu 9998 vs us xs ys hvs hus hl hl' fs.toList 0 ks r hcls hr
   refine av R hd hk (v:= .bool _) ?_ (.bool _);cases neg
   · simp only[zf,if_false] at hop
     subst hop;simp only[execOp,ho,hu,hv,Sem.run_bind,run_eqGuard_agg w _ t X Y _ _ hgd,Result.andThen_ok,run_eql_struct,hrun,Sem.run_pure,zf,if_false]
   · simp only[if_true] at hop
     subst hop;simp only[execOp,ho,hu,hv,Sem.run_bind,run_eqGuard_agg w _ t X Y _ _ hgd,Result.andThen_ok,run_neq_struct,hrun,Sem.run_pure,if_true]
theorem a41 {Y:Operand} (h:cOpd Y=some (.c .nilS)):Y= .const (.slice none 0 0):=by
 cases Y with
 |tmp t=>cases h
 |global g=>cases h
 |func f=>cases h
 | const v=>
  simp only[cOpd,yw,IOpd.c.injEq] at h;obtain⟨d,hd,rfl⟩:=h;unfold valD at hd;split at hd
  · simp only[yw] at hd
    obtain⟨_,_,hd⟩:=hd;cases hd
  · unfold valD0 at hd
    split at hd<;>first|rfl|cases hd
theorem ae3 {Y:Operand} (h:cOpd Y=some (.c .nilI)):Y= .const .nilIface:=by
 cases Y with
 |tmp t=>cases h
 |global g=>cases h
 |func f=>cases h
 | const v=>
  simp only[cOpd,yw,IOpd.c.injEq] at h;obtain⟨d,hd,rfl⟩:=h;unfold valD at hd;split at hd
  · simp only[yw] at hd
    obtain⟨_,_,hd⟩:=hd;cases hd
  · unfold valD0 at hd
    split at hd<;>first|rfl|cases hd
theorem axs (R:Rel cfg x N s a w) {o:Oper} {op:BinOp} {neg:Bool} (hop:op=if neg then .neq else .eql) {t t':TypeId} {X Y:Operand} (ho:o.op= .binOp op t X Y t')
  {k:Nat} (hd:o.dst=some k) (hk:k<N) {p:IOpd} (hX:cOpd X=some p) (hY:cOpd Y=some (.c .nilI)) {ms:Array (String×TypeId)} (ht:P.underlying t=some (.interface ms)) {c:V} (hc:val cfg s p=some c) {r:Bool} (hr:V.eqn cfg .ifnil c (.d .nilI)=some r):
  Goes P cfg x N dep (updG s (put1 o.dst (.d (.bool (if neg then !r else r))))) a w o:=by
 obtain⟨l1,h1,_⟩:=a6 R hX hc;have hv:a.eval Y= .nilIface:=by rw[ae3 hY];rfl
 have hYc:=ae3 hY;generalize hu:a.eval X=u at h1;have key:eqVal u=true→(∀ n,u≠ .agg n)→(Op.equal t u .nilIface).run P w= .ok r w→Goes P cfg x N dep (updG s (put1 o.dst (.d (.bool (if neg then !r else r))))) a w o:=by
  intro e1 e2 e4;refine av R hd hk (v:= .bool _) ?_ (.bool _);have hg:(eqGuard op t X Y u .nilIface).run P w= .ok () w:=by
   by_cases hu':u= .nilIface
   · subst hu'
     rw[hYc];unfold eqGuard;cases op<;>first|rfl| (simp;done)
   · exact run_nilguard op t X Y e2 (fun h=>absurd h hu')
  simp only[execOp,ho,hu,hv,Sem.run_bind,hg,Result.andThen_ok,run_eq op neg hop t e1 rfl e4,Sem.run_pure]
 cases c with
 | d y=>
  have g1:=h1.d_inv;cases y with
  | nilI=>
   have:r=true:=by simpa[V.eqn,D.eqn] using hr.symm
   subst this;cases g1;exact key rfl yt (by
     show(Op.equalIn (9999+1) t _ _).run P w=_;unfold Op.equalIn;simp[run_underlying ht])
  | ifc f y=>
   have:r=false:=by simpa[V.eqn,D.eqn] using hr.symm
   subst this;cases g1;exact key rfl yt (bv ht _ _ (.inr ⟨⟨_,_,rfl⟩,rfl⟩))
  |_=>simp[V.eqn,D.eqn] at hr
 | ifc f y=>
  have:r=false:=by simpa[V.eqn] using hr.symm
  subst this;cases h1;exact key rfl yt (bv ht _ _ (.inr ⟨⟨_,_,rfl⟩,rfl⟩))
 |_=>simp[V.eqn] at hr
theorem axr (R:Rel cfg x N s a w) {o:Oper} {op:BinOp} {neg:Bool} (hop:op=if neg then .neq else .eql) {t t' e:TypeId} {X Y:Operand} (ho:o.op= .binOp op t X Y t')
   {k:Nat} (hd:o.dst=some k) (hk:k<N) {p:IOpd} (hX:cOpd X=some p) (hY:cOpd Y=some (.c .nilS)) (ht:P.underlying t=some (.slice e)) {c:V} (hc:val cfg s p=some c) {r:D} (hr:ll neg c=some r):
   Goes P cfg x N dep (updG s (put1 o.dst (.d r))) a w o:=by
 obtain⟨l1,h1,_⟩:=a6 R hX hc;have hv:a.eval Y= .slice none 0 0:=by rw[a41 hY];rfl
 generalize hu:a.eval X=u at h1;have key:∀ ad len cap,u= .slice ad len cap→Rd (freeB x) w (.bool (if neg then !ad.isNone else ad.isNone)) r→Goes P cfg x N dep (updG s (put1 o.dst (.d r))) a w o:=by
   intro ad len cap e1 e2;subst e1;refine av R hd hk ?_ e2;have hg:(eqGuard op t X Y (.slice ad len cap) (.slice none 0 0)).run P w= .ok () w:=run_nilguard op t X Y yt yt;have he:=pr (P:=P) (w:=w) ht ad none len cap 0 0 (.inr rfl);simp only[Option.isNone_none,Bool.and_true] at he;simp only[execOp,ho,hu,hv,Sem.run_bind,hg,Result.andThen_ok,run_eq op neg hop t rfl rfl he,Sem.run_pure]
 unfold ll at hr;split at hr
 · cases hr;obtain⟨ad,e1⟩:=h1.d_inv.nilS_inv;exact key _ _ _ e1 (.unkB _)
 · cases hr;obtain⟨ad,cap,e1,_⟩:=h1.d_inv.sl_inv;exact key _ _ _ e1 (.unkB _)
 · cases hr
   have h2:=h1.d_inv;cases h2 with
   |sl b o' len cap z es vs hlen hcap=>exact key _ _ _ rfl (by cases neg<;>exact .bool _)
 · cases hr;obtain⟨_,b,o',cap,_,e1,_⟩:=h1.own_inv;exact key _ _ _ e1 (by cases neg<;>exact .bool _)
 · cases hr;cases h1;exact key _ _ _ rfl (by cases neg<;>exact .bool _)
 · cases hr
end
end Go.Ev
namespace Go.Ev
open Go
section
variable {P:Program} {cfg:Cfg} {x:Cx} {N dep:Nat} {s:Get} {a:Act} {w:World}
theorem axc {F:Nat→Prop} {v:Value} {d:D} {n:Int} (h:Rd F w v d) (hd:d.toInt? =some n):∃ k,v= .int k n∧d= .int k n:=by
 cases d<;>simp only[D.toInt?] at hd<;>cases hd;exact⟨_,h.int_inv,rfl⟩
theorem fm (R:Rel cfg x N s a w) {X:Operand} {ix:IOpd} (hX:cOpd X=some ix) {n:Int} (hy:(dat cfg s ix).bind D.toInt? =some n):∃ k,a.eval X= .int k n:=by
 simp only[y8] at hy;obtain⟨d,h1,h2⟩:=hy;obtain⟨k,h3,_⟩:=axc (qu R hX h1) h2;exact⟨k,h3⟩
theorem avh (R:Rel cfg x N s a w) {o:Oper} {t:TypeId} {X:Operand} {f:Nat} (ho:o.op= .fieldAddr t X f) {k:Nat} (hd:o.dst=some k) (hk:k<N) {p:IOpd} (hX:cOpd X=some p)
   {fs:Array Field} (ht:P.underlying t=some (.struct fs)) {fd:Field} (hf:fs[f]? =some fd) {n:Nat} (hn:sizeD P fd.type=some n) (hn0:n≠0) {y:V} (hy:val cfg s p=some y)
   {k':Nat} {u:List (Loc×V)} (hu:(match(some y:Option V) with
    |some (.ref d k o)=>some (put1 (some k') (.ref d k (o+fd.offset)))
    |some (.bref l i o)=>some (put1 (some k') (.bref l i (o+fd.offset)))
    |some (.iptr e o)=>some (put1 (some k') (.iptr e (o+fd.offset)))
    |some (.d (.ptr e))=>some (put1 (some k') (.iptr e fd.offset))
    |_=>none)=some u) (hk':k'=k):Goes P cfg x N dep (updG s u) a w o:=by
 subst hk';obtain⟨l,hr,_⟩:=a6 R hX hy;generalize hv:a.eval X=v at hr;have hrun:∀ b o',v= .pointer (some (ad3 b o'))→(execOp a.eval o).run P w= .ok (.value (.pointer (some (ad3 b (o'+fd.offset))))) w:=fun b o' e=>by
   subst e;simp[execOp,ho,hv,Instr.fieldAt,run_underlying ht,hf,Instr.sureAddr,fieldPlace,bd hn,hn0,b8]
 split at hu<;>cases hu
 · rename_i e;cases e;rw[← hd];cases hr with
   |ref _ d j off h=>exact ao R hd hk (hrun _ _ rfl) rfl (l:=none) (.ref _ _ _ _ h)
 · rename_i e;cases e;rw[← hd];cases hr with
   |bref _ l' i off b o' h=>exact ao R hd hk (hrun _ _ rfl) rfl (l:=none) (.bref _ _ _ _ _ _ (fun z es hs=>by
     obtain⟨q,L,C,h1,h2⟩:=h z es hs;exact⟨q,L,C,h1,by omega⟩))
 · rename_i e;cases e;rw[← hd];cases hr with
   |iptr _ b o' off e h=>exact ao R hd hk (by rw[hrun _ _ rfl,Nat.add_assoc]) rfl (l:=none) (.iptr _ _ _ _ _ h)
 · rename_i e;cases e;rw[← hd]
   have:=hr.d_inv;cases this with
   |ptr b o' e2 vs hc hm h=>exact ao R hd hk (hrun _ _ rfl) rfl (l:=none) (.iptr _ b o' fd.offset _ ⟨hc,fun j c hj=>⟨vs j,(hm j c hj).1,(hm j c hj).2,h j c hj⟩⟩)
theorem sim_idxB (R:Rel cfg x N s a w) {o:Oper} {t:TypeId} {X I:Operand} (ho:o.op= .indexAddr t X I) {k:Nat} (hd:o.dst=some k) (hk:k<N) {p q:IOpd} (hX:cOpd X=some p) (hI:cOpd I=some q)
   {n:Nat} {el:TypeId} (ht:P.underlying t=some (.array n el)) {z:Nat} (hz:sizeD P el=some z) {y:V} {j:Int}
   {u:List (Loc×V)} (hu:(match y with
    | .ref d k' o=>some (put1 (some k) (.ref d k' (o+j.toNat*z)))
    | .bref l i o=>some (put1 (some k) (.bref l i (o+j.toNat*z)))
    | .iptr e o=>some (put1 (some k) (.iptr e (o+j.toNat*z)))
    | .d (.ptr e)=>some (put1 (some k) (.iptr e (j.toNat*z)))
    |_=>none)=some u) (hy:val cfg s p=some y) (hj:(dat cfg s q).bind D.toInt? =some j) (h0:0≤j) (h1:j<n)
   :Goes P cfg x N dep (updG s u) a w o:=by
 obtain⟨l,hr,_⟩:=a6 R hX hy;obtain⟨ik,hi⟩:=fm R hI hj;generalize hv:a.eval X=v at hr;have hrun:∀ b o',v= .pointer (some (ad3 b o'))→(execOp a.eval o).run P w= .ok (.value (.pointer (some (ad3 b (o'+j.toNat*z))))) w:=fun b o' e=>by
   subst e;simp[execOp,ho,hv,hi,Instr.indexAt,asIntOf,run_underlying ht,Instr.sureAddr,bd hz,h0,h1,b8]
 split at hu<;>cases hu
 · rw[← hd];cases hr with
   |ref _ d j off h=>exact ao R hd hk (hrun _ _ rfl) rfl (l:=none) (.ref _ _ _ _ h)
 · rw[← hd];cases hr with
   |bref _ l' i off b o' h=>exact ao R hd hk (hrun _ _ rfl) rfl (l:=none) (.bref _ _ _ _ _ _ (fun z es hs=>by
    obtain⟨q,L,C,h1,h2⟩:=h z es hs;exact⟨q,L,C,h1,by omega⟩))
 · rw[← hd];cases hr with
   |iptr _ b o' off e h=>exact ao R hd hk (by rw[hrun _ _ rfl,Nat.add_assoc]) rfl (l:=none) (.iptr _ _ _ _ _ h)
 · rw[← hd]
   have:=hr.d_inv;cases this with
   |ptr b o' e2 vs hc hm h=>exact ao R hd hk (hrun _ _ rfl) rfl (l:=none) (.iptr _ b o' (j.toNat*z) _ ⟨hc,fun j c hj=>⟨vs j,(hm j c hj).1,(hm j c hj).2,h j c hj⟩⟩)
theorem axt (R:Rel cfg x N s a w) {o:Oper} {t:TypeId} {X:Operand} {f:Nat} (ho:o.op= .field t X f) {k:Nat} (hd:o.dst=some k) (hk:k<N) {p:IOpd} (hX:cOpd X=some p)
  {fs:Array Field} (ht:P.underlying t=some (.struct fs)) {fd:Field} (hf:fs[f]? =some fd) {z:Option Nat} (hz:zOpt P fd.type=some z) {cs:List D} (hy:val cfg s p=some (.d (.agg cs)))
  {r:D} (hr:ldD z (.agg cs) fd.offset=some r):Goes P cfg x N dep (updG s (put1 o.dst (.d r))) a w o:=by
 have h1:=val_d R hX hy;generalize hv:a.eval X=v at h1;cases h1 with
 | agg vs cs hl hc h=>
  obtain⟨v,g1,g2⟩:=akk (P:=P) hz hl hc h hr;refine av R hd hk (v:=v) ?_ g2;simp only[execOp,ho,hv,Instr.field,Sem.run_bind,run_underlying ht,Result.andThen_ok,hf,asAgg,Sem.run_pure,g1]
theorem sim_idxC (R:Rel cfg x N s a w) {o:Oper} {t:TypeId} {X I:Operand} (ho:o.op= .index t X I) {k:Nat} (hd:o.dst=some k) (hk:k<N) {p q:IOpd} (hX:cOpd X=some p) (hI:cOpd I=some q)
  {n:Nat} {e:TypeId} (ht:P.underlying t=some (.array n e)) {z:Option Nat} (hz:zOpt P e=some z) {cs:List D} (hy:val cfg s p=some (.d (.agg cs)))
  {j:Int} (hj:(dat cfg s q).bind D.toInt? =some j) (h0:0≤j) (h1:j<n) {r:D} (hr:ldD z (.agg cs) (j.toNat*z.getD 1)=some r):Goes P cfg x N dep (updG s (put1 o.dst (.d r))) a w o:=by
 have g:=val_d R hX hy;obtain⟨kk,hji⟩:=fm R hI hj;generalize hv:a.eval X=v at g;cases g with
 | agg vs cs hl hc h=>
  obtain⟨v,g1,g2⟩:=akk (P:=P) hz hl hc h hr;have hs:(sizeOf e).run P w= .ok (z.getD 1) w:=by
   cases z with
   |some n=>exact(fa hz).2
   | none=>
    unfold zOpt at hz;split at hz<;>try(cases hz)
    rename_i q1 q2 q3;split at hz
    · rename_i h1;subst h1;exact bd q3
    · cases hz
  refine av R hd hk (v:=v) ?_ g2;simp only[execOp,ho,hv,hji,Instr.index,asIntOf,Sem.run_bind,Sem.run_pure,Result.andThen_ok,run_underlying ht,h0,h1,and_self,if_true,hs,g1]
theorem sim_idxS (R:Rel cfg x N s a w) {o:Oper} {t:TypeId} {X I:Operand} (ho:o.op= .index t X I) {k:Nat} (hd:o.dst=some k) (hk:k<N) {p q:IOpd} (hX:cOpd X=some p) (hI:cOpd I=some q)
  (ht:P.underlying t=some .string) {b:List UInt8} (hy:val cfg s p=some (.d (.str b))) {j:Int} (hj:(dat cfg s q).bind D.toInt? =some j) (h0:¬ j<0) {c:UInt8} (hc:b[j.toNat]? =some c):
  Goes P cfg x N dep (updG s (put1 o.dst (.d (byteD c)))) a w o:=by
 have e:=(val_d R hX hy).str_inv;obtain⟨kk,hji⟩:=fm R hI hj;refine av R hd hk (v:= .int .u8 c.toNat) ?_ (.int _ _);have hb:(⟨b.toArray⟩:ByteArray)[j.toNat]? =some c:=by
  have:(⟨b.toArray⟩:ByteArray)[j.toNat]? =b[j.toNat]? :=by
   rw[getElem?_def];by_cases h:j.toNat<b.length
   · rw[dif_pos (show j.toNat<(⟨b.toArray⟩:ByteArray).size from h),yy h];rfl
   · rw[dif_neg (show ¬ j.toNat<(⟨b.toArray⟩:ByteArray).size from h),aar yp]
  rw[this];exact hc
 simp only[execOp,ho,e,hji,Instr.index,asIntOf,Sem.run_bind,Sem.run_pure,Result.andThen_ok,run_underlying ht,show(0:Int)≤j by omega,if_true,hb]
theorem de {j:Int} {k:IntKind} {y:Nat} (c:BoundsCode) (h:0≤j∧j≤y):(Instr.sliceBound (.int k j) y c).run P w= .ok j.toNat w:=by
 simp[Instr.sliceBound,asIntOf,h.1,h.2]
theorem pq (R:Rel cfg x N s a w) {lo hi:Option Operand} {ilo ihi:Option IOpd} (hlo:cOpdO lo=some ilo) (hhi:cOpdO hi=some ihi) {len top:Nat} (isS:Bool) {l h:Nat} (hb:bc cfg s len ilo ihi=some (l,h))
   (htop:len≤top):(Instr.sliceBounds isS len top (lo.map a.eval) (hi.map a.eval) none).run P w= .ok (l,h,top) w∧l≤h∧h≤len:=by
 unfold bc at hb;simp only at hb;split at hb
 · cases hb
 · rename_i h' hh'
   have hH:h'≤len∧((hi=none∧h'=len)∨∃ Y k n,hi=some Y∧a.eval Y= .int k n∧0≤n∧n≤len∧h'=n.toNat):=by
     cases hi with
     |none=>cases hhi;simp at hh';subst hh';exact⟨y7 _,.inl ⟨rfl,rfl⟩⟩
     | some X=>
       simp only[cOpdO,yw] at hhi;obtain⟨ix,hX,rfl⟩:=hhi;simp only at hh';split at hh'
       · rename_i n hn
         split at hh'
         · rename_i hn'
           cases hh';obtain⟨k,hk⟩:=fm R hX hn;exact⟨by omega,.inr ⟨X,k,n,rfl,hk,hn'.1,hn'.2,rfl⟩⟩
         · cases hh'
       · cases hh'
   obtain⟨q1,q2⟩:=hH;have hL:(lo=none∧l=0∧h=h')∨∃ Y k n,lo=some Y∧a.eval Y= .int k n∧0≤n∧n≤h'∧l=n.toNat∧h=h':=by
     cases lo with
     |none=>cases hlo;cases hb;exact .inl ⟨rfl,rfl,rfl⟩
     | some X=>
       simp only[cOpdO,yw] at hlo;obtain⟨ix,hX,rfl⟩:=hlo;simp only at hb;split at hb
       · rename_i n hn
         split at hb
         · rename_i hn'
           cases hb;obtain⟨k,hk⟩:=fm R hX hn;exact .inr ⟨X,k,n,rfl,hk,hn'.1,hn'.2,rfl,rfl⟩
         · cases hb
       · cases hb
   rcases q2 with⟨rfl,rfl⟩|⟨Y,k,n,rfl,g1,g2,g3,rfl⟩
   · rcases hL with⟨rfl,rfl,rfl⟩|⟨Z,k',m,rfl,f1,f2,f3,rfl,rfl⟩
     · exact⟨by simp[Instr.sliceBounds],by omega,q1⟩
     · refine⟨?_,by omega,q1⟩
       simp only[Instr.sliceBounds,Option.map_none,Option.map_some,Sem.run_bind,Sem.run_pure,Result.andThen_ok,f1];rw[de _ ⟨f2,f3⟩];rfl
   · rcases hL with⟨rfl,rfl,rfl⟩|⟨Z,k',m,rfl,f1,f2,f3,rfl,rfl⟩
     · refine⟨?_,by omega,q1⟩
       simp only[Instr.sliceBounds,Option.map_none,Option.map_some,Sem.run_bind,Sem.run_pure,Result.andThen_ok,g1];rw[de _ ⟨g2,by omega⟩];rfl
     · refine⟨?_,by omega,q1⟩
       simp only[Instr.sliceBounds,Option.map_some,Sem.run_bind,Sem.run_pure,Result.andThen_ok,g1,f1];rw[de _ ⟨g2,by omega⟩]
       simp only[Result.andThen_ok];rw[de _ ⟨f2,by omega⟩];rfl
theorem avg (R:Rel cfg x N s a w) {o:Oper} {t:TypeId} {X:Operand} {lo hi:Option Operand} (ho:o.op= .slice t X lo hi none) {k:Nat} (hd:o.dst=some k) (hk:k<N) {p:IOpd} (hX:cOpd X=some p)
  {ilo ihi:Option IOpd} (hlo:cOpdO lo=some ilo) (hhi:cOpdO hi=some ihi) (ht:P.underlying t=some .string) {b:List UInt8} (hy:val cfg s p=some (.d (.str b))) {l h:Nat} (hb:bc cfg s b.length ilo ihi=some (l,h)):
  Goes P cfg x N dep (updG s (put1 o.dst (.d (.str ((b.take h).drop l))))) a w o:=by
 have e:=(val_d R hX hy).str_inv;obtain⟨g1,g2,g3⟩:=pq (P:=P) R hlo hhi false hb (y7 _);refine av R hd hk (v:= .string ⟨((b.take h).drop l).toArray⟩) ?_ (.str _);have hx:(⟨b.toArray⟩:ByteArray).extract l h=⟨((b.take h).drop l).toArray⟩:=by
  apply ByteArray.ext;apply Array.ext';rw[Lib.extract_data];simp[List.drop_take]
 have hsz:(⟨b.toArray⟩:ByteArray).size=b.length:=rfl;simp only[execOp,ho,e,Instr.sliceAt,Instr.slice,Option.map_none,Sem.run_bind,Sem.run_pure,Result.andThen_ok,run_underlying ht,Option.isSome_none,zf,if_false,hsz];rw[g1];simp only[Result.andThen_ok,Sem.run_pure,hx]
end
end Go.Ev
namespace Go.Ev
open Go
theorem Arr.sub {F:Nat→Prop} {w:World} {b o cap z:Nat} {es:List D} (A:Arr F w b o cap z es) {l h m:Nat} (h1:l≤h) (h2:h≤es.length) (h3:h≤m) (h4:m≤cap):
   Arr F w b (if m=l then o else o+l*z) (m-l) z ((es.take h).drop l):=by
 refine⟨A.pos,fun j hj=> ?_,fun e he=>A.wid e (aaj (aai he)),fun e he=>A.cel e (aaj (aai he)),fun i e he j c hj=> ?_⟩
 · by_cases e:m=l
   · simp[e] at hj
   · rw[if_neg e,Nat.add_assoc]
     refine A.room _ ?_;have:(m-l)*z+l*z=m*z:=by rw[← aaf];congr 1;omega
     have:=zu z h4;omega
 · rw[List.getElem?_drop,List.getElem?_take] at he
   split at he
   · rename_i hi
     rw[if_neg yp];obtain⟨v,q1,q2⟩:=A.els (l+i) e he j c hj;exact⟨v,by rw[show o+l*z+i*z+j=o+(l+i)*z+j by rw[aaf];omega];exact q1,q2⟩
   · cases he
theorem Rd.sl_at {F:Nat→Prop} {w:World} {v:Value} {es:List D} (h:Rd F w v (.sl es)) {z:Nat} (hz:∀ e,es.head? =some e→e.cells.length=z):
  (∃ ad cap,v= .slice ad 0 cap∧es=[])∨∃ b o cap,v= .slice (some (ad3 b o)) es.length cap∧es.length≤cap∧(∀ e∈es,e.cells.length=z)∧∀ (i:Nat) e,es[i]? =some e→PtrAt F w b (o+i*z) e:=by
 cases h with
 |slA ad cap=>exact .inl ⟨ad,cap,rfl,rfl⟩
 |sl b o len cap z' es vs hlen hcap hw hc hm h=>
 have hzz:es≠[]→z'=z:=fun hne=>by
  cases es with
  |nil=>exact absurd rfl hne
  |cons e r=>rw[← hw e yt,hz e rfl]
 refine .inr ⟨b,o,cap,by rw[hlen],by omega,fun e he=>by rw[hw e he];exact hzz (List.ne_nil_of_mem he),fun i e he=> ?_⟩
 have hmem:=List.mem_of_getElem? he;have:=hzz (List.ne_nil_of_mem hmem);subst this;exact⟨hc e hmem,fun j c hj=>⟨vs i j,(hm i e he j c hj).1,(hm i e he j c hj).2,h i e he j c hj⟩⟩
theorem Rd.sl_of {F:Nat→Prop} {w:World} {b o cap z:Nat} {es:List D} (hcap:es.length≤cap) (hw:∀ e∈es,e.cells.length=z)
  (h:∀ (i:Nat) e,es[i]? =some e→PtrAt F w b (o+i*z) e):Rd F w (.slice (some (ad3 b o)) es.length cap) (.sl es):=by
 have hv:∀ i j,∃ v,∀ e,es[i]? =some e→∀ c,e.cells[j]? =some c→F b∧w.cell? (ad3 b (o+i*z+j))=some v∧Rd F w v c:=by
  intro i j;cases he:es[i]? with
  |none=>exact⟨undef,fun e h=>by cases h⟩
  | some e=>
   cases hc:e.cells[j]? with
   |none=>exact⟨undef,fun e' h c h'=>by cases h;rw[hc] at h';cases h'⟩
   | some c=>
    obtain⟨v,h1,h2,h3⟩:=(h i e he).2 j c hc;exact⟨v,fun e' h c' h'=>by cases h;rw[hc] at h';cases h';exact⟨h1,h2,h3⟩⟩
 exact .sl b o _ cap z es (fun i j=>(hv i j).choose) rfl hcap hw (fun e he c hc=>by
   obtain⟨i,hi⟩:=aae he;exact(h i e hi).1 c hc)
  (fun i e he j c hc=>⟨((hv i j).choose_spec e he c hc).1,((hv i j).choose_spec e he c hc).2.1⟩) (fun i e he j c hc=>((hv i j).choose_spec e he c hc).2.2)
theorem av7 {z:Nat} {es:List D} (h:headZ z es=true):∀ e,es.head? =some e→e.cells.length=z:=by
 cases es with
 |nil=>simp
 |cons e r=>simpa[headZ] using h
section
variable {P:Program} {cfg:Cfg} {x:Cx} {N dep:Nat} {s:Get} {a:Act} {w:World}
theorem yc (R:Rel cfg x N s a w) {lo hi mx:Option Operand} {ilo ihi imx:Option IOpd} (hlo:cOpdO lo=some ilo) (hhi:cOpdO hi=some ihi) (hmx:cOpdO mx=some imx) {len cap top:Nat} (hcap:len≤cap)
  (ht:topOf cfg s len imx=some top) {l h:Nat} (hb:bc cfg s top ilo ihi=some (l,h)) (hg:(imx.isSome&&ihi.isNone)=false):
  ∃ m,(Instr.sliceBounds true len cap (lo.map a.eval) (hi.map a.eval) (mx.map a.eval)).run P w= .ok (l,h,m) w∧l≤h∧h≤len∧h≤m∧m≤cap:=by
 cases mx with
 | none=>
  cases hmx;simp only[topOf,Option.some.injEq] at ht;subst ht;obtain⟨g1,g2,g3⟩:=pq (P:=P) R hlo hhi true hb hcap;exact⟨cap,g1,g2,g3,by omega,y7 _⟩
 | some M=>
  simp only[cOpdO,yw] at hmx;obtain⟨im,hM,rfl⟩:=hmx;simp only[topOf] at ht;split at ht
  · rename_i n hn
    split at ht
    · rename_i hn'
      cases ht;obtain⟨km,hkm⟩:=fm R hM hn;cases hi with
      |none=>cases hhi;simp at hg
      | some Y=>
       simp only[cOpdO,yw] at hhi;obtain⟨iy,hY,rfl⟩:=hhi;unfold bc at hb;simp only at hb;split at hb
       · cases hb
       · rename_i h' hh'
         split at hh'
         · rename_i q hq
           split at hh'
           · rename_i hq'
             cases hh';obtain⟨ky,hky⟩:=fm R hY hq;have e1:∀ c,(Instr.sliceBound (.int km n) cap c).run P w= .ok n.toNat w:=fun c=>de c ⟨hn'.1,by omega⟩
             have e2:∀ c,(Instr.sliceBound (.int ky q) n.toNat c).run P w= .ok q.toNat w:=fun c=>de c ⟨hq'.1,by omega⟩
             cases lo with
             | none=>
              cases hlo;cases hb;refine⟨n.toNat,?_,by omega,by omega,by omega,by omega⟩
              simp only[Instr.sliceBounds,Option.map_none,Option.map_some,Sem.run_bind,Sem.run_pure,Result.andThen_ok,hkm,hky,e1,e2]
             | some Z=>
              simp only[cOpdO,yw] at hlo;obtain⟨iz,hZ,rfl⟩:=hlo;simp only at hb;split at hb
              · rename_i r hr
                split at hb
                · rename_i hr'
                  cases hb;obtain⟨kz,hkz⟩:=fm R hZ hr;have e3:∀ c,(Instr.sliceBound (.int kz r) q.toNat c).run P w= .ok r.toNat w:=fun c=>de c ⟨hr'.1,by omega⟩
                  refine⟨n.toNat,?_,by omega,by omega,by omega,by omega⟩
                  simp only[Instr.sliceBounds,Option.map_some,Sem.run_bind,Sem.run_pure,Result.andThen_ok,hkm,hky,hkz,e1,e2,e3]
                · cases hb
              · cases hb
           · cases hh'
         · cases hh'
    · cases ht
  · cases ht
theorem axo (R:Rel cfg x N s a w) {o:Oper} {t el:TypeId} {X:Operand} {lo hi mx:Option Operand} (ho:o.op= .slice t X lo hi mx) {k:Nat} (hd:o.dst=some k) (hk:k<N) {p:IOpd} (hX:cOpd X=some p)
   {ilo ihi imx:Option IOpd} (hlo:cOpdO lo=some ilo) (hhi:cOpdO hi=some ihi) (hmx:cOpdO mx=some imx) (ht:P.underlying t=some (.slice el)) {z:Nat} (hz:sizeD P el=some z) {y:V} (hy:val cfg s p=some y)
   {u:List (Loc×V)} (hu:fl cfg s (some k) z p y ilo ihi imx=some u):Goes P cfg x N dep (updG s u) a w o:=by
 obtain⟨l0,hr,hl0⟩:=a6 R hX hy;generalize hv:a.eval X=v at hr;unfold fl at hu;split at hu
 · cases hu
 · rename_i es hes
   split at hu
   · cases hu
   · rename_i top htop
     split at hu
     · cases hu
     · rename_i l h hb
       split at hu
       · cases hu
       · rename_i hg
         have hg':(imx.isSome&&ihi.isNone)=false:=Bool.eq_false_iff.2 hg;have hrun:∀ ad cap,v= .slice ad es.length cap→es.length≤cap→∃ m,(execOp a.eval o).run P w= .ok (.value (.slice (if m=l then ad else ad.map (·.add (l*z))) (h-l) (m-l))) w∧
             l≤h∧h≤es.length∧h≤m∧m≤cap:=by
           intro ad cap e hcap;obtain⟨m,g1,g2⟩:=yc (P:=P) R hlo hhi hmx hcap htop hb hg';refine⟨m,?_,g2⟩;simp only[execOp,ho,hv,e,Instr.sliceAt,Instr.slice,Sem.run_bind,run_underlying ht,Result.andThen_ok];rw[g1];simp only[Result.andThen_ok,bd hz,Sem.run_pure]
         split at hu
         ·
           cases hu;cases hes;obtain⟨ad,e⟩:=hr.d_inv.nilS_inv;obtain⟨m,g1,g2,g3,g4,g5⟩:=hrun ad 0 e (y7 _);have h0:h=0:=by simpa using g3
           have hl:l=0:=yp;have hm:m=0:=yp;subst h0;subst hl;subst hm;rw[show put1 (some k) (V.d .nilS)=put1 o.dst (.d .nilS) by rw[hd]]
           exact av R hd hk g1 (by simpa using Rd.nilS ad)
         ·
           split at hu
           · rename_i hz'
             cases hu;cases hes;rcases hr.d_inv.sl_at (av7 hz') with⟨ad,cap,e,hes0⟩|⟨b,o',cap,e,hc,hw,hp⟩
             · subst hes0
               obtain⟨m,g1,g2,g3,g4,g5⟩:=hrun ad cap e (aad _);have h0:h=0:=by simpa using g3
               have hl:l=0:=yp;subst h0;subst hl;rw[show put1 (some k) (V.d (.sl ((([]:List D).take 0).drop 0)))=put1 o.dst (.d (.sl [])) by rw[hd];rfl]
               exact av R hd hk g1 (Rd.slA _ _)
             obtain⟨m,g1,g2,g3,g4,g5⟩:=hrun _ cap e hc;rw[show put1 (some k) (V.d (.sl ((es.take h).drop l)))=put1 o.dst (.d (.sl ((es.take h).drop l))) by rw[hd]]
             refine av R hd hk g1 ?_;have hlen:((es.take h).drop l).length=h-l:=by simp;omega
             rw[show(if m=l then some (ad3 b o') else Option.map (fun q=>q.add (l*z)) (some (ad3 b o')))=some (ad3 b (if m=l then o' else o'+l*z)) by
               split<;>simp[b8],← hlen]
             refine Rd.sl_of (by rw[hlen];omega) (fun e he=>hw e (aaj (aai he))) (fun i e he=> ?_)
             rw[List.getElem?_drop,List.getElem?_take] at he;split at he
             · rename_i hi
               rw[if_neg yp,show o'+l*z+i*z=o'+(l+i)*z by rw[aaf];omega]
               exact hp _ e he
             · cases he
           · cases hu
         ·
           rename_i j z' _;split at hu
           · rename_i hz'
             subst hz';cases hu;cases hes;obtain⟨hl1,rfl⟩:=hl0 j rfl;have he:s (.slot j)=some (.own false z' es):=hy;obtain⟨b,o',cap,q1,q2,q3,q4⟩:=R.own_at he;have hvv:v= .slice (some (ad3 b o')) es.length cap:=by rw[← hv];simpa[conc,Act.eval] using q1
             obtain⟨m,g1,g2,g3,g4,g5⟩:=hrun _ cap hvv q3;rw[show put1 (some k) (V.bor (.slot j) l (h-l))=put1 o.dst (.bor (.slot j) l (h-l)) by rw[hd]]
             rw[show(if m=l then some (ad3 b o') else Option.map (fun q=>q.add (l*z')) (some (ad3 b o')))=some (ad3 b (if m=l then o' else o'+l*z')) by
               split<;>simp[b8]] at g1
             refine ao R hd hk g1 rfl (l:=none) (.bor _ _ _ _ b _ _ yp fun z2 es2 hs=> ?_)
             rw[he] at hs;cases hs;refine⟨o',_,cap,q1,by omega,?_,(q4.sub g2 g3 g4 g5).room⟩
             split
             · rename_i e;exact .inl ⟨by omega,by omega⟩
             · exact .inr rfl
           · cases hu
         ·
           rename_i j z' _;split at hu
           · rename_i hz'
             subst hz';cases hu;cases hes;obtain⟨hl1,rfl⟩:=hl0 j rfl;have he:s (.slot j)=some (.own true z' es):=hy;obtain⟨b,o',cap,q1,q2,q3,q4⟩:=R.own_at he;have hvv:v= .slice (some (ad3 b o')) es.length cap:=by rw[← hv];simpa[conc,Act.eval] using q1
             obtain⟨m,g1,g2,g3,g4,g5⟩:=hrun _ cap hvv q3;rw[show(if m=l then some (ad3 b o') else Option.map (fun q=>q.add (l*z')) (some (ad3 b o')))=some (ad3 b (if m=l then o' else o'+l*z')) by
               split<;>simp[b8]] at g1
             refine⟨_,w,x.give b (some (.at (.slot k))),.inl g1,?_,Fr.give q2 _⟩;rw[hd];exact R.handAny hk he q2 (q4.sub g2 g3 g4 g5) (by simp;omega) yp
           · cases hu
         ·
           rename_i loc off n;split at hu
           · rename_i z' es' hs
             split at hu
             · rename_i hz'
               subst hz';cases hu;simp only[cont,hs,Option.some.injEq] at hes;obtain⟨b,o',cap',q1,q2,q3,q4,q5⟩:=R.bor_at hr hs;have hn:es.length=n:=by rw[← hes];simp;omega
               obtain⟨m,g1,g2,g3,g4,g5⟩:=hrun _ cap' (by rw[q1,hn]) yp
               rw[show put1 (some k) (V.bor loc (off+l) (h-l))=put1 o.dst (.bor loc (off+l) (h-l)) by rw[hd]]
               rw[show(if m=l then some (ad3 b o') else Option.map (fun q=>q.add (l*z')) (some (ad3 b o')))=some (ad3 b (if m=l then o' else o'+l*z')) by
                 split<;>simp[b8]] at g1
               refine ao R hd hk g1 rfl (l:=none) (.bor _ _ _ _ b _ _ yp fun z2 es2 hs2=> ?_)
               rw[hs] at hs2;cases hs2;subst q1;cases hr with
               |bor _ _ _ _ _ _ _ h4 hh=>
               obtain⟨o2,L,C,f1,f2,f3,f4⟩:=hh _ _ hs;refine⟨o2,L,C,f1,by omega,?_,(Arr.sub q5 g2 (by simp;omega) g4 g5).room⟩
               split
               · exact .inl ⟨by omega,by omega⟩
               · rcases f3 with⟨f3,f5⟩|f3
                 · omega
                 · exact .inr (by rw[f3,aaf];omega)
             · cases hu
           · cases hu
         · cases hu
end
end Go.Ev
namespace Go.Ev
open Go
section
variable {P:Program} {cfg:Cfg} {x:Cx} {N dep:Nat} {s:Get} {a:Act} {w:World}
theorem sim_idxA (R:Rel cfg x N s a w) {o:Oper} {t el:TypeId} {X I:Operand} (ho:o.op= .indexAddr t X I) {k:Nat} (hd:o.dst=some k) (hk:k<N) {p q:IOpd} (hX:cOpd X=some p) (hI:cOpd I=some q)
   (ht:P.underlying t=some (.slice el)) {z:Nat} (hz:sizeD P el=some z) {y:V} (hy:val cfg s p=some y) {n:Int} (hn:(dat cfg s q).bind D.toInt? =some n)
   {u:List (Loc×V)} (hu:evIdx s (some k) z p y n=some u):Goes P cfg x N dep (updG s u) a w o:=by
 obtain⟨l0,hr,hl0⟩:=a6 R hX hy;obtain⟨kk,hji⟩:=fm R hI hn;generalize hv:a.eval X=v at hr;unfold evIdx at hu;split at hu
 · cases hu
 · rename_i hn0
   have hrun:∀ b o' len cap,v= .slice (some (ad3 b o')) len cap→n<len→(execOp a.eval o).run P w= .ok (.value (.pointer (some (ad3 b (o'+n.toNat*z))))) w:=by
     intro b o' len cap e hlt;simp only[execOp,ho,hv,e,hji,Instr.indexAt,asIntOf,Sem.run_bind,Sem.run_pure,Result.andThen_ok,run_underlying ht,Bool.and_false];rw[if_pos ⟨by omega,hlt⟩]
     simp only[Sem.run_bind,bd hz,Result.andThen_ok,Sem.run_pure,b8]
   split at hu
   · simp only[y8] at hu
     obtain⟨e,he,hu⟩:=hu;split at hu
     · rename_i hze
       cases hu;have hlt:=(y4.1 he).1;have hw:∃ b o' len cap z',v= .slice (some (ad3 b o')) len cap∧n.toNat<len∧z'=z∧PtrAt (freeB x) w b (o'+n.toNat*z') e:=by
         cases hr.d_inv with
         |slA ad cap=>cases he
         | sl b o' len cap z' es vs hlen hcap hw hc hm h=>
           have hmem:=List.mem_of_getElem? he;refine⟨b,o',len,cap,z',rfl,by omega,by rw[← hw e hmem,hze],hc e hmem,fun j c hj=>⟨vs _ j,(hm _ e he j c hj).1,(hm _ e he j c hj).2,h _ e he j c hj⟩⟩
       obtain⟨b,o',len,cap,z',e1,e2,rfl,e3⟩:=hw;rw[show put1 (some k) (V.iptr e 0)=put1 o.dst (.iptr e 0) by rw[hd]]
       exact ao R hd hk (hrun b o' len cap e1 yp) rfl (l:=none) (.iptr _ b _ 0 e e3)
     · cases hu
   · rename_i j z' es
     split at hu
     · rename_i hc
       obtain⟨hc1,rfl⟩:=hc;cases hu;obtain⟨hl1,rfl⟩:=hl0 j rfl;have he:s (.slot j)=some (.own false z' es):=hy;obtain⟨b,o',cap,q1,q2,q3,q4⟩:=R.own_at he;have hvv:v= .slice (some (ad3 b o')) es.length cap:=by rw[← hv];simpa[conc,Act.eval] using q1
       rw[show put1 (some k) (V.bref (.slot j) n.toNat 0)=put1 o.dst (.bref (.slot j) n.toNat 0) by rw[hd]]
       refine ao R hd hk (hrun b o' _ cap hvv yp) rfl (l:=none) (.bref _ _ _ _ b _ fun z2 es2 hs=> ?_)
       rw[he] at hs;cases hs;exact⟨o',_,cap,q1,by omega⟩
     · cases hu
   · rename_i l off len
     split at hu
     · rename_i z' es hs
       split at hu
       · rename_i hc
         obtain⟨hc1,rfl⟩:=hc;cases hu;cases hr with
         |bor _ _ _ _ b o' cap' h4 hh=>
         obtain⟨o2,L,C,f1,f2,f3,f4⟩:=hh _ _ hs;rw[show put1 (some k) (V.bref l (off+n.toNat) 0)=put1 o.dst (.bref l (off+n.toNat) 0) by rw[hd]]
         refine ao R hd hk (hrun b o' _ cap' rfl yp) rfl (l:=none) (.bref _ _ _ _ b _ fun z2 es2 hs2=> ?_)
         rw[hs] at hs2;cases hs2;refine⟨o2,L,C,f1,?_⟩;rcases f3 with⟨f3,_⟩|f3
         · omega
         · rw[f3,aaf];omega
       · cases hu
     · cases hu
   · rename_i ys
     simp only[y8] at hu;obtain⟨y',hy',hu⟩:=hu;split at hu
     · rename_i hz1
       subst hz1;cases hu;cases hr with
       |vec _ b o' cap' _ vs hcap hm h=>
       have hlt:=(y4.1 hy').1;rw[show put1 (some k) (V.vref y')=put1 o.dst (.vref y') by rw[hd]]
       refine ao R hd hk (hrun b o' _ cap' rfl yp) rfl (l:=none) ?_;rw[Nat.mul_one];exact .vref _ b _ _ _ (hm _ _ hy').1 (hm _ _ hy').2 (h _ _ hy')
     · cases hu
   · cases hu
theorem eq (X:Operand) {o:Oper} {t:TypeId} (ho:o.op= .load t X) {b o':Nat} (hv:a.eval X= .pointer (some (ad3 b o'))) {v:Value} (h:(loadVar t (ad3 b o')).run P w= .ok v w):
  (execOp a.eval o).run P w= .ok (.value v) w:=by
 simp[execOp,ho,hv,Instr.loadAt,Instr.sureAddr,h]
theorem mo (u:List (Loc×V)):∀ (s:Get) {l:Loc},(∀ p∈u,p.1≠l)→updG s u l=s l:=by
 induction u with
 |nil=>intro s l _;rfl
 | cons p r ih=>
  intro s l h;obtain⟨l',y⟩:=p;rw[a8,ih _ (fun q hq=>h q (by simp[hq])),if_neg (Ne.symm (h (l',y) yt))]
theorem xo (u:List (Loc×V)):∀ (s:Get) {l:Loc} (y:V),(∀ p∈u,p.1≠l)→∀ l',updG s ((l,y)::u) l'=updG (updG s u) [(l,y)] l':=by
 induction u with
 |nil=>intro s l y _ l';rfl
 | cons p r ih=>
  intro s l y h l';obtain⟨q,yq⟩:=p;have hq:q≠l:=h (q,yq) yt;have h1:=ih (fun l'=>if l'=q then some yq else s l') (l:=l) y (fun p hp=>h p (by simp[hp])) l'
  have h2:(fun l2=>if l2=q then some yq else(if l2=l then some y else s l2))=(fun l2=>if l2=l then some y else(if l2=q then some yq else s l2)):=by
   funext l2
   by_cases e1:l2=q
   · subst e1;simp[hq]
   · simp[e1]
  rw[a8,a8,h2];exact h1
theorem lj:∀ (n:Nat) (s:Get) (d k off:Nat) {cs:List D} {u:List (Loc×V)},cw s d k off n=some (cs,u)→∀ p∈u,∃ i,p.1= .cell ⟨d,k,off+i⟩∧i<n
 |0,s,d,k,off,cs,u,h=>by cases h;simp
 | n+1,s,d,k,off,cs,u,h=>by
  unfold cw at h;have key:∀ {r u'},cw s d k (off+1) n=some (r,u')→∀ p∈u',∃ i,p.1= .cell ⟨d,k,off+i⟩∧i<n+1:=fun h' p hp=>by
    obtain⟨i,h1,h2⟩:=lj n s d k (off+1) h' p hp;exact⟨i+1,by rw[h1];congr 2;omega,by omega⟩
  split at h
  · rename_i h1 h2
    split at h
    · cases h;exact key h2
    · cases h
  · rename_i h1 h2;cases h;exact key h2
  · rename_i h1 h2
    cases h;intro p hp;rcases zr.1 hp with rfl|hp
    · exact⟨0,rfl,by omega⟩
    · exact key h2 p hp
  · cases h
theorem qp:∀ (n:Nat) (d k off:Nat) {cs:List D} {u:List (Loc×V)} (_:Rel cfg x N s a w),cw s d k off n=some (cs,u)→
  cs.length=n∧∃ x',Rel cfg x' N (updG s u) a w∧(∀ dep,Fr dep x x' w w)∧x'.ad=x.ad∧(∀ b,x.ow b=none→x'.ow b=none)∧
    ∀ (j:Nat) c,cs[j]? =some c→∃ v,w.cell? (ad3 (x.ad d k) (off+j))=some v∧Rd (freeB x') w v c∧c.isCell=true
 | 0,d,k,off,cs,u,R,h=>by
  cases h;exact⟨rfl,x,R,fun _=>Fr.refl _ _ _,rfl,fun _ h=>h,fun j c h=>by simp at h⟩
 | n+1,d,k,off,cs,u,R,h=>by
  have hkeys:=lj (n+1) s d k off h;unfold cw at h;have key:∀ {r u'},cw s d k (off+1) n=some (r,u')→∀ y0,s (.cell ⟨d,k,off⟩)=some y0→∀ c0,c0.isCell=true→
      (∀ l v,RdV x s (conc x a w) w l v y0→Rd (freeB x) w v c0)→(c0::r).length=n+1∧∃ x',Rel cfg x' N (updG s u') a w∧(∀ dep,Fr dep x x' w w)∧x'.ad=x.ad∧(∀ b,x.ow b=none→x'.ow b=none)∧
    ∀ (j:Nat) c,(c0::r)[j]? =some c→∃ v,w.cell? (ad3 (x.ad d k) (off+j))=some v∧Rd (freeB x') w v c∧c.isCell=true:=by
    intro r u' h' y0 hy0 c0 hc0 hrd;obtain⟨g1,x',g2,g3,g4,g5,g6⟩:=qp n d k (off+1) R h';refine⟨by simp[g1],x',g2,g3,g4,g5,fun j c hj=> ?_⟩
    cases j with
    | zero=>
      simp at hj;subst hj;obtain⟨v,hv,hr⟩:=R.locs _ _ hy0;exact⟨v,hv,(hrd _ _ hr).mono (fun b o u h1 h2=>⟨g5 b h1,h2⟩),hc0⟩
    | succ j=>
      simp at hj;obtain⟨v,q1,q2⟩:=g6 j c hj;exact⟨v,by rw[show off+(j+1)=off+1+j by omega];exact q1,q2⟩
  split at h
  · rename_i h1 h2
    split at h
    · rename_i hc;cases h;exact key h2 _ h1 _ (D.can_isCell hc) (fun l v hr=>hr.d_inv.can)
    · cases h
  · rename_i h1 h2
    cases h;exact key h2 _ h1 _ rfl (fun l v hr=>hr.iptr_rd)
  · rename_i nw z es r u' h1 h2
    cases h;obtain⟨g1,x',g2,g3,g4,g5,g6⟩:=qp n d k (off+1) R h2;have hne:∀ p∈u',p.1≠ .cell ⟨d,k,off⟩:=fun p hp=>by
      obtain⟨i,q1,_⟩:=lj n s d k (off+1) h2 p hp;rw[q1];simp;omega
    have h1':updG s u' (.cell ⟨d,k,off⟩)=some (.own nw z es):=by rw[mo u' s hne];exact h1
    obtain⟨b,q1,_,q2⟩:=g2.release h1';have hmono:∀ b',x.ow b'=none→(x'.give b none).ow b'=none:=fun b' hb'=>by
      simp only[Cx.give];split
      · rfl
      · exact g5 b' hb'
    refine⟨by simp[g1],x'.give b none,q2.congr (xo u' s _ hne),fun dep=>(g3 dep).trans (Fr.give q1 _),by simp[g4],hmono,fun j c hj=> ?_⟩
    cases j with
    | zero=>
      simp at hj;subst hj;obtain⟨v,hv,hr⟩:=q2.locs (.cell ⟨d,k,off⟩) (.d (.sl es)) (by rw[a7,if_pos rfl])
      refine⟨v,?_,hr.d_inv,rfl⟩;simpa[conc,g4] using hv
    | succ j=>
      simp at hj;obtain⟨v,p1,p2,p3⟩:=g6 j c hj;exact⟨v,by rw[show off+(j+1)=off+1+j by omega];exact p1,p2.mono (fun b' o u h1 h2=>⟨by
        show(x'.give b none).ow b'=none;simp only[Cx.give];split
        · rfl
        · exact h1,h2⟩),p3⟩
  · cases h
theorem sim_load (R:Rel cfg x N s a w) {o:Oper} {t:TypeId} {X:Operand} (ho:o.op= .load t X) {k:Nat} (hd:o.dst=some k) (hk:k<N) {p:IOpd} (hX:cOpd X=some p)
   {z:Option Nat} (hz:zOpt P t=some z) {y:V} (hy:val cfg s p=some y) {u:List (Loc×V)} (hu:dx s (some k) z y=some u):Goes P cfg x N dep (updG s u) a w o:=by
 obtain⟨l0,hr,_⟩:=a6 R hX hy;generalize hv:a.eval X=v at hr;unfold dx at hu;split at hu
 · rename_i e off
   simp only[yw] at hu;obtain⟨r,hl,rfl⟩:=hu;cases hr with
   |iptr _ b o' _ _ h=>
   obtain⟨v,g1,g2⟩:=dl hz h.cells hl;rw[← hd];exact av R hd hk (eq X ho hv g1) g2
 · rename_i e
   simp only[yw] at hu;obtain⟨r,hl,rfl⟩:=hu;cases hr.d_inv with
   |ptr b o' e vs hc hm h=>
   obtain⟨v,g1,g2⟩:=dl (b:=b) (o:=o') hz ⟨hc,fun j c hj=>⟨vs j,(hm j c hj).2,h j c hj⟩⟩ hl
   rw[← hd];exact av R hd hk (eq X ho hv (by simpa using g1)) g2
 · rename_i l i off
   split at hu
   · rename_i z' es hs
     simp only[y8,yw] at hu;obtain⟨e,he,r,hl,rfl⟩:=hu;cases hr with
     |bref _ _ _ _ b o' h=>
     obtain⟨o2,L,C,f1,f2⟩:=h _ _ hs;obtain⟨b2,o3,cap,q1,q2,q3,q4⟩:=R.own_at hs;rw[f1] at q1;cases q1;obtain⟨v,g1,g2⟩:=dl hz (q4.cells he) hl;rw[← hd];exact av R hd hk (eq X ho hv (by rw[f2];exact g1)) g2
   · cases hu
 · rename_i y'
   split at hu
   · split at hu
     · rename_i hp
       cases hu;cases hr with
       |vref _ b o' v' _ hb hm h=>
       rw[← hd];refine ao R hd hk (eq X ho hv (v:=v') ?_) (by cases y'<;>first|rfl|simp[V.plainV] at hp) h
       simp only[loadVar,Sem.run_bind,(fb hz).1,Result.andThen_ok,zf,if_false,run_load,hm]
     · cases hu
   · cases hu
 · rename_i d j off
   cases hr with
   |ref _ _ _ _ hal=>
   split at hu
   ·
     have hrun:∀ v,w.cell? (ad3 (x.ad d j) off)=some v→(execOp a.eval o).run P w= .ok (.value v) w:=fun v h=>by
       refine eq X ho hv ?_;simp only[loadVar,Sem.run_bind,(fb hz).1,Result.andThen_ok,zf,if_false,run_load,h]
     split at hu
     · rename_i z' es hs
       cases hu;obtain⟨b,o',cap,q1,q2,q3,q4⟩:=R.own_at hs;rw[← hd];refine ao R hd hk (hrun _ q1) rfl (l:=none) (.bor _ _ _ _ b _ _ q3 fun z2 es2 hs2=> ?_)
       rw[hs] at hs2;cases hs2;exact⟨o',_,cap,q1,by omega,.inr yp,q4.room⟩
     · rename_i y' _ hs
       split at hu
       · rename_i hp
         cases hu;obtain⟨v,q1,q2⟩:=R.locs _ _ hs;rw[← hd];exact ao R hd hk (hrun _ q1) (by cases y'<;>first|rfl|simp[V.plainV] at hp) q2
       · cases hu
     · cases hu
   ·
     rename_i n;simp only[yw] at hu;obtain⟨⟨cs,u'⟩,hg,rfl⟩:=hu;obtain⟨g1,x',g2,g3,g4,g5,g6⟩:=qp n d j off R hg;obtain⟨vs,f1,f2,f3⟩:=l8 (w:=w) (F:=freeB x') (cs:=cs) (f:=fun i=>w.cell? (ad3 (x.ad d j) (off+i))) (fun i c hi=>by
       obtain⟨v,e1,e2,_⟩:=g6 i c hi;exact⟨v,e1,e2⟩)
     have hlen:vs.length=n:=by rw[f1,g1]
     have hrl:=run_loadCells_list (P:=P) w (ad3 (x.ad d j) off) vs (fun i v hi=>by rw[b8];exact f2 i v hi)
     rw[hlen] at hrl;have hrun:(execOp a.eval o).run P w= .ok (.value (.agg vs.toArray)) w:=by
       refine eq X ho hv ?_;simp only[loadVar,Sem.run_bind,(fa (w:=w) hz).1,(fa (w:=w) hz).2,Result.andThen_ok,if_true,hrl];rfl
     have hrd:Rd (freeB x') w (.agg vs.toArray) (.agg cs):= .agg vs cs f1 (fun c hc=>by
       obtain⟨i,hi⟩:=aae hc;obtain⟨_,_,_,e⟩:=g6 i c hi;exact e) f3
     refine⟨_,w,x',.inl hrun,?_,g3 dep⟩;rw[bm,hd];exact g2.put hk rfl (l:=none) (.d _ _ _ hrd)
 · cases hu
theorem ae1 (R:Rel cfg x N s a w):∀ {ps:List (Nat×Operand)} {l:List (Nat×IOpd)} (_:d9 ps=some l) {ds:List (Nat×D)} (_:parts2 cfg s l=some ds),
  ps.length=ds.length∧∀ (i:Nat) p d,ps[i]? =some p→ds[i]? =some d→p.1=d.1∧Rd (freeB x) w (a.eval p.2) d.2
 | [],l,h,ds,h'=>by cases h;cases h';simp
 | (i,X)::ps,l,h,ds,h'=>by
  unfold d9 at h;split at h
  · rename_i ix l' h1 h2
    cases h;unfold parts2 at h';split at h'
    · rename_i y ys h3 h4
      cases h';obtain⟨g1,g2⟩:=ae1 R h2 h4;refine⟨by simp[g1],fun j p d e1 e2=> ?_⟩
      cases j with
      |zero=>simp at e1 e2;subst e1;subst e2;exact⟨rfl,qu R h1 h3⟩
      |succ j=>simp at e1 e2;exact g2 j p d e1 e2
    · cases h'
  · cases h
theorem axp (R:Rel cfg x N s a w) {o:Oper} {f:FuncId} {A B:Array Operand} (ho:o.op= .makeFunc (.func f) A B) {k:Nat} (hd:o.dst=some k) (hk:k<N) {ia ib:List IOpd} (hA:cOpds A.toList=some ia) (hB:cOpds B.toList=some ib)
   {xs ys:List V} (hx:vals cfg s ia=some xs) (hy:vals cfg s ib=some ys) {u:List (Loc×V)}
   (hu:(match xs,ys with
     | [],[]=>some (put1 (some k) (.d (.fn f)))
     |xs,ys=>if xs.all V.plainV&&ys.all V.plainV then some (put1 (some k) (.clo f xs ys)) else none)=some u):Goes P cfg x N dep (updG s u) a w o:=by
 have hrun:(execOp a.eval o).run P w= .ok (.value (.func (.func f) (A.map a.eval) (B.map a.eval))) w:=by simp[execOp,ho,Instr.makeFunc]
 have hvs:∀ {Xs:List Operand} {is:List IOpd} {vs:List V},cOpds Xs=some is→vals cfg s is=some vs→Xs.length=vs.length∧∀ (i:Nat) X v,Xs[i]? =some X→vs[i]? =some v→∃ l,RdV x s (conc x a w) w l (a.eval X) v:=by
   intro Xs
   induction Xs with
   |nil=>intro is vs h1 h2;cases h1;cases h2;simp
   | cons X Xs ih=>
     intro is vs h1 h2;unfold cOpds at h1;split at h1
     · rename_i ix is' h3 h4
       cases h1;unfold vals at h2;split at h2
       · rename_i v vs' h5 h6
         cases h2;obtain⟨g1,g2⟩:=ih h4 h6;refine⟨by simp[g1],fun i X' v' e1 e2=> ?_⟩
         cases i with
         |zero=>simp at e1 e2;subst e1;subst e2;obtain⟨l,hr,_⟩:=a6 R h3 h5;exact⟨l,hr⟩
         |succ i=>simp at e1 e2;exact g2 i X' v' e1 e2
       · cases h2
     · cases h1
 obtain⟨a1,a2⟩:=hvs hA hx;obtain⟨b1,b2⟩:=hvs hB hy;split at hu
 · cases hu
   rw[← hd];have e1:A= #[]:=by apply Array.ext';simpa using z8 a1
   have e2:B= #[]:=by apply Array.ext';simpa using z8 b1
   subst e1;subst e2;exact av R hd hk hrun (by simpa using Rd.fn f)
 · split at hu
   · rename_i hp
     simp only[ze,aac] at hp;cases hu;rw[← hd];have hA':A.map a.eval=(A.toList.map a.eval).toArray:=by apply Array.ext';simp
     have hB':B.map a.eval=(B.toList.map a.eval).toArray:=by apply Array.ext';simp
     rw[hA',hB'] at hrun;have hno:∀ v,V.plainV v=true→v.isOwn=false:=fun v h=>by cases v<;>first|rfl|simp[V.plainV] at h
     refine ao R hd hk hrun rfl (l:=none) (.clo _ _ _ _ _ _ (by simpa using a1) (by simpa using b1) (fun i v y h1 h2=> ?_) (fun i v y h1 h2=> ?_))
     · rw[zg] at h1
       cases hX:A.toList[i]? with
       |none=>rw[hX] at h1;cases h1
       |some X'=>rw[hX] at h1;cases h1;obtain⟨l,hr⟩:=a2 i X' y hX h2;exact hr.reloc (hno y (hp.1 y (List.mem_of_getElem? h2)))
     · rw[zg] at h1
       cases hX:B.toList[i]? with
       |none=>rw[hX] at h1;cases h1
       |some X'=>rw[hX] at h1;cases h1;obtain⟨l,hr⟩:=b2 i X' y hX h2;exact hr.reloc (hno y (hp.2 y (List.mem_of_getElem? h2)))
   · cases hu
theorem sim_tass (R:Rel cfg x N s a w) {o:Oper} {X:Operand} {xt t:TypeId} {ok:Bool} (ho:o.op= .typeAssert X xt t ok) {k:Nat} (hd:o.dst=some k) (hk:k<N) {p:IOpd} (hX:cOpd X=some p)
   {d:TypeDesc} (ht:P.underlying t=some d) (hni:∀ ms,d≠ .interface ms) {zero:D} (hz:zeroC P t=some zero) {y:V} (hy:val cfg s p=some y) {u:List (Loc×V)} (hu:ael (some k) t zero ok y=some u):
   Goes P cfg x N dep (updG s u) a w o:=by
 obtain⟨l0,hr,_⟩:=a6 R hX hy;generalize hv:a.eval X=v at hr;have hzero:∃ zv,(zeroValue t).run P w= .ok zv w∧Rd (freeB x) w zv zero:=by
   simp only[zeroC,y8] at hz;obtain⟨zv,⟨i,hi,hz1⟩,hz2⟩:=hz;exact⟨zv,by simp[zeroValue,typeInfo,hi,hz1],afh hz2⟩
 obtain⟨zv,z1,z2⟩:=hzero;have tup2:∀ {v1:Value} {d1:D} {b:Bool},Rd (freeB x) w v1 d1→Rd (freeB x) w (.tuple #[v1,.bool b]) (.tup [d1,.bool b]):=fun {v1 d1 b} h=>
   .tup [v1,.bool b] [d1,.bool b] rfl (fun i v c h1 h2=>by
     cases i with
     |zero=>simp at h1 h2;subst h1;subst h2;exact h
     | succ i=>cases i with
       |zero=>simp at h1 h2;subst h1;subst h2;exact .bool _
       |succ i=>simp at h1)
 have hrun:∀ v' r,a.eval X=v'→((do match v' with
     | .iface u q=>if u=t then(pure (if ok then .tuple #[q,.bool true] else q):Sem Value) else(if ok then do pure (.tuple #[← zeroValue t,.bool false]) else runtimePanic (.typeAssertion (some xt) (some u) t ""))
     | .nilIface=>(if ok then do pure (.tuple #[← zeroValue t,.bool false]) else runtimePanic (.typeAssertion (some xt) none t ""))
     |_=>stuck "TypeAssert: interface value expected"):Sem Value).run P w= .ok r w→(execOp a.eval o).run P w= .ok (.value r) w:=by
   intro v' r e h;simp only[execOp,ho,e,Instr.typeAssert,Sem.run_bind,run_underlying ht,Result.andThen_ok];cases d<;>first|exact absurd rfl (hni _)| (cases v'<;>first|exact(by rw[h];rfl)| (simp only[h];rfl))
 unfold ael at hu;split at hu
 · rename_i u' q
   cases hr.d_inv with
   |ifc _ qv _ hq=>
   split at hu
   · rename_i e
     subst e;cases hu;rw[← hd];cases ok
     · exact av R hd hk (hrun _ qv hv yt) hq
     · exact av R hd hk (hrun _ (.tuple #[qv,.bool true]) hv yt) (tup2 hq)
   · rename_i e
     split at hu
     · rename_i hok
       subst hok;cases hu;rw[← hd];exact av R hd hk (hrun _ (.tuple #[zv,.bool false]) hv (by simp[e,z1])) (tup2 z2)
     · cases hu
 · split at hu
   · rename_i hok
     subst hok;cases hu;rw[← hd];have:=hr.d_inv.nilI_inv;subst this;exact av R hd hk (hrun _ (.tuple #[zv,.bool false]) hv (by simp[z1])) (tup2 z2)
   · cases hu
 · cases hu
end
