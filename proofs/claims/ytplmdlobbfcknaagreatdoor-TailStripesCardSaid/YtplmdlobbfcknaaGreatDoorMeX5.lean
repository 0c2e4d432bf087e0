import Derived.Test.YtplmdlobbfcknaaGreatDoorMeX3
namespace Go.Me
open Go Go.RowKit
variable [Gam]
set_option linter.unusedSectionVars false
set_option linter.unusedSimpArgs false
set_option linter.unusedVariables false
def nmOf (l:List (Nat×Ob)):Nm:=⟨fun b=>(l[b]?).map (·.1),fun _=>(0,0)⟩
def hpOf (l:List (Nat×Ob)):Hp:=⟨l.length,(List.range l.length).foldr (fun i t=>match l[i]? with|some p=>t.put i p.2|none=>t) .lf⟩
theorem wk (l:List (Nat×Ob)) (b:Nat):∀ is:List Nat,(is.foldr (fun i t=>match l[i]? with|some p=>t.put i p.2|none=>t) Tr.lf).get b=if b∈is then(l[b]?).map (·.2) else none
 | []=>rfl
 | i::is=>by
  rw[List.foldr_cons];cases hi:l[i]? with
  | none=>
   simp only;rw[wk l b is];by_cases e:b=i
   · subst e;simp[hi]
   · simp[e]
  | some p=>
   simp only;rw[Tr.get_put,wk l b is];by_cases e:b=i
   · subst e;simp[hi]
   · simp[e]
theorem apl (l:List (Nat×Ob)) (b:Nat):(hpOf l).get b=(l[b]?).map (·.2):=by
 unfold hpOf Hp.get;rw[wk];by_cases h:b<l.length
 · rw[if_pos (List.mem_range.2 h)]
 · rw[if_neg (fun hm=>h (List.mem_range.1 hm)),List.getElem?_eq_none (by omega)];rfl
theorem WR.blocks {C:Cfg} (hg:C.gobj=fun _=>none) (hv:C.vobj=fun _=>none) {l:List (Nat×Ob)} {w:World} (hn:(l.map (·.1)).Nodup) (h:∀ (b c:Nat) (o:Ob),l[b]? =some (c,o)→∃ ob,w.heap[c]? =some ob∧OR (nmOf l) (0,0) o ob):WR C 0 (nmOf l) (hpOf l).get l.length w:=by
 have at_:∀ {b c:Nat},nmOf l b=some c→∃ o,l[b]? =some (c,o):=fun {b c} hb=>by
   have hb:(l[b]?).map (·.1)=some c:=hb
   cases hl:l[b]? with
   |none=>rw[hl] at hb;cases hb
   |some p=>rw[hl] at hb;cases hb;exact⟨p.2,rfl⟩
 refine⟨fun b c hb=> ?_,fun b o c h1 h2 h3=> ?_,fun b b' c _ _ h1 h2=> ?_,fun k cs hk=>(by rw[hg] at hk;cases hk),fun k cs hk=>(by rw[hv] at hk;cases hk),Nat.zero_le _,fun b o hb=> ?_⟩
 · obtain⟨o,hl⟩:=at_ hb
   obtain⟨ob,h1,_⟩:=h b c o hl;exact⟨(List.getElem?_eq_some_iff.1 hl).1,Nat.zero_le _,(Array.getElem?_eq_some_iff.1 h1).1⟩
 · obtain⟨o',hl⟩:=at_ h3
   rw[apl,hl] at h1;cases h1;exact h b c o' hl
 · obtain⟨o1,l1⟩:=at_ h1
   obtain⟨o2,l2⟩:=at_ h2;have q1:(l.map (·.1))[b]? =some c:=by simp[l1]
   have q2:(l.map (·.1))[b']? =some c:=by simp[l2]
   obtain⟨r1,r2⟩:=List.getElem?_eq_some_iff.1 q1;obtain⟨r3,r4⟩:=List.getElem?_eq_some_iff.1 q2;exact(List.getElem_inj hn).1 (r2.trans r4.symm)
 · rw[apl] at hb
   cases hl:l[b]? with
   |none=>rw[hl] at hb;cases hb
   |some p=>exact(List.getElem?_eq_some_iff.1 hl).1
def Laid (C:Cfg) (w:World):Prop:=∀ k cs,C.gobj k=some cs→∃ (vs:Array Value) (e:TypeId) (fr:Nat×Nat),w.heap[k]? =some (.cells vs e fr)∧∀ (i:Nat) x,cs[i]? =some x→∃ v,vs[i]? =some v∧VR Nm.none x v
def Seen (C:Cfg) (w:World):Prop:=∀ k cs,C.vobj k=some cs→(Gam.at_ k).1<w.heap.size∧∃ (vs:Array Value) (ob:Obj),w.heap[(Gam.at_ k).1]? =some ob∧(∀ W:World,W.heap[(Gam.at_ k).1]? =some ob→∀ (j:Nat) v,vs[j]? =some v→W.cell? ⟨(Gam.at_ k).1,j+(Gam.at_ k).2,none⟩=some v)∧∀ (i:Nat) x,cs[i]? =some x→∃ v,vs[i]? =some v∧VR Nm.none x v
theorem WR.laid {C:Cfg} {w:World} (hg:Laid C w) (hs:Seen C w):WR C w.heap.size noNm (Hp.get ⟨0,.lf⟩) 0 w:=
 ⟨fun b c h=>(by cases h),fun b o c h=>(by cases h),fun b b' c ⟨o,h,_⟩=>(by cases h),fun k cs h=>(by
  obtain⟨vs,e,fr,h1,h2⟩:=hg k cs h;exact⟨(Array.getElem?_eq_some_iff.1 h1).1,vs,e,fr,h1,h2⟩),hs,Nat.le_refl _,fun b o h=>(by cases h)⟩
theorem aid {C:Cfg} (hm:C.P.follows .mixedOrders=true) (hM:MethOk C) (hI:IterOk C) (hF:FnOk C) (hX:ExtOk C) {f:FuncId} {F:Func} {c:Code} {n:Nat} (hf:C.P.funcs[f]? =some F) (hname:(F.name=="runtime.NumGoroutine")=false) (hb:F.body=some c)
   (h:uf (evF C n f [] ⟨0,.lf⟩)=true) (w:World) (hg:Laid C w) (hv:C.vobj=fun _=>none:=by rfl):Calls C.P f #[] w fun e w'=>e= .returned (.bool true)∧Below w.heap.size w w':=by
 unfold uf at h;split at h
 · rename_i H hev
   have:=a0x hm hM hI hF hX n f [] ⟨0,.lf⟩ _ H hev w.heap.size noNm w [] (WR.laid hg fun k cs h=>by rw[hv] at h;cases h) .nil
   rcases this with⟨v,w',ν',h1,_⟩|⟨_,h2⟩
   · rw[run_enter hf hname hb] at h1
     cases h1
   · refine h2.mono fun e w' ⟨v,ν',he,hv,hw,T⟩=> ?_
     cases hv;exact⟨he,T.below⟩
 · cases h
theorem seen_call {C:Cfg} (hC:∀ n,ni C (evF C n)) {f:FuncId} {F:Func} {c:Code} {n:Nat} (hf:C.P.funcs[f]? =some F) (hname:(F.name=="runtime.NumGoroutine")=false) (hb:F.body=some c) {args:List M}
   (h:uf (evF C n f args ⟨0,.lf⟩)=true) {vs:List Value} (w:World) (hg:Laid C w) (hs:Seen C w) (hv:VRs noNm args vs):Calls C.P f vs.toArray w fun e w'=>e= .returned (.bool true)∧Below w.heap.size w w':=by
 unfold uf at h;split at h
 · rename_i H hev
   rcases hC n f args ⟨0,.lf⟩ _ H hev w.heap.size noNm w vs (WR.laid hg hs) hv with⟨v,w',ν',h1,_⟩|⟨_,h2⟩
   · rw[run_enter hf hname hb] at h1
     cases h1
   · refine h2.mono fun e w' ⟨v,ν',he,hv,hw,T⟩=> ?_
     cases hv;exact⟨he,T.below⟩
 · cases h
