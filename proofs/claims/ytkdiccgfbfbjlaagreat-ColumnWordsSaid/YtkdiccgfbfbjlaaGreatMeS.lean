import Derived.Test.YtkdiccgfbfbjlaaGreatMeQ
import Derived.Orders
namespace Go.Me
open Go
variable [Gam]
set_option linter.unusedSectionVars false
set_option linter.unusedSimpArgs false
set_option linter.unusedVariables false
theorem v8 {acc:List Nat} {q:Nat}:∀ {l:List Edge},(n4 acc l).testBit q=true→∃ e∈l,Region.binds .any e=true∧(q=e.on∨(acc.getD e.on 0).testBit q=true)
 | [],h=>by simp[n4] at h
 | e::r,h=>by
  unfold n4 at h;cases hb:Region.binds .any e
  · rw[hb] at h
    obtain⟨e',h1,h2⟩:=v8 h;exact⟨e',List.mem_cons_of_mem _ h1,h2⟩
  · rw[hb] at h
    simp only[cond_true,Nat.testBit_or,Bool.or_eq_true,Nat.testBit_two_pow,decide_eq_true_eq] at h;rcases h with(h|h)|h
    · exact⟨e,List.mem_cons_self,hb,.inl h.symm⟩
    · exact⟨e,List.mem_cons_self,hb,.inr h⟩
    · obtain⟨e',h1,h2⟩:=v8 h
      exact⟨e',List.mem_cons_of_mem _ h1,h2⟩
theorem td:∀ (l:List Oper) (acc:List Nat),(∀ k,k<acc.length→(masks l acc)[k]? =acc[k]?)∧∀ (k:Nat) o,l[k]? =some o→(masks l acc)[acc.length+k]? =some (n4 ((masks l acc).take (acc.length+k)) o.after.toList)
 | [],acc=>⟨fun _ _=>rfl,by simp⟩
 | o::r,acc=>by
  obtain⟨h1,h2⟩:=td r (acc++[n4 acc o.after.toList]);have pre:∀ k,k<acc.length→(masks (o::r) acc)[k]? =acc[k]? :=fun k hk=>by
   rw[masks,h1 k (by simp;omega),List.getElem?_append_left hk]
  refine⟨pre,fun k p hp=> ?_⟩
  cases k with
  | zero=>
   simp at hp;subst hp;have ht:(masks (o::r) acc).take (acc.length+0)=acc:=by
    apply List.ext_getElem?;intro k;rw[List.getElem?_take];by_cases hk:k<acc.length
    · rw[if_pos (by omega),pre k hk]
    · rw[if_neg (by omega),List.getElem?_eq_none (by omega)]
   rw[ht,masks,Nat.add_zero,h1 acc.length (by simp)]
   simp
  | succ k=>
   have:=h2 k p (by simpa using hp)
   simp only[List.length_append,List.length_singleton] at this;rw[masks,show acc.length+(k+1)=acc.length+1+k by omega]
   exact this
theorem bef_edge {ops:Array Oper} {q i:Nat} {o:Oper} (ho:ops[i]? =some o) (h:bef (masks ops.toList []) q i=true):∃ e∈o.after.toList,Region.binds .any e=true∧(q=e.on∨bef (masks ops.toList []) q e.on=true):=by
 unfold bef at h;have hs:=(td ops.toList []).2 i o (by simpa using ho)
 simp only[List.length_nil,Nat.zero_add] at hs;rw[List.getD_eq_getElem?_getD,hs] at h;simp only[Option.getD_some] at h;obtain⟨e,h1,h2,h3⟩:=v8 h;refine⟨e,h1,h2,h3.imp id fun h4=> ?_⟩
 unfold bef;rw[List.getD_eq_getElem?_getD] at h4 ⊢;rw[List.getElem?_take] at h4;split at h4
 · exact h4
 · simp at h4
theorem rf:∀ {l:List Oper} {i:Nat},ue i l=true→∀ (k:Nat) o,l[k]? =some o→∀ e∈o.after.toList,Region.binds .any e=true→e.on<i+k
 | [],i,_,k,o,h=>by simp at h
 | p::r,i,h,k,o,hk=>by
  simp only[ue,Bool.and_eq_true] at h;cases k with
  | zero=>
   simp at hk;subst hk;intro e he hb;have:=List.all_eq_true.1 h.1 e he;rw[hb] at this;simpa[Nat.blt_eq] using this
  | succ k=>
   have:=rf h.2 k o (by simpa using hk)
   intro e he hb;have:=this e he hb;omega
theorem pw:∀ {l:List Nat} {s:Tr M} {k:Nat} {x:M},(restr l s).get k=some x→k∈l∧s.get k=some x
 | [],s,k,x,h=>by cases h
 | j::l,s,k,x,h=>by
  unfold restr at h;split at h
  · rename_i y hy
    rw[Tr.get_put] at h;split at h
    · rename_i e;cases h;subst e;exact⟨List.mem_cons_self,hy⟩
    · obtain⟨h1,h2⟩:=pw h;exact⟨List.mem_cons_of_mem _ h1,h2⟩
  · obtain⟨h1,h2⟩:=pw h;exact⟨List.mem_cons_of_mem _ h1,h2⟩
def effs (l:List Rec) (j:Nat):Nat:=(l.take j).countP fun q=>isEff q.d
theorem aet (l:List Rec):effs l 0=0:=rfl
theorem me {l:List Rec} {j:Nat} {q:Rec} (h:l[j]? =some q):effs l (j+1)=effs l j+if isEff q.d then 1 else 0:=by
 unfold effs;rw[List.take_add_one,h];simp[List.countP_append,List.countP_cons]
theorem mf (q:Rec) (l:List Rec) (j:Nat):effs (q::l) (j+1)=(if isEff q.d then 1 else 0)+effs l j:=by
 unfold effs;rw[List.take_succ_cons,List.countP_cons];omega
section
variable {C:Cfg} {call:FuncId→List M→Hp→Option (M×Hp)} {n0 N:Nat} {ops:Array Oper}
structure Ran (C:Cfg) (call:FuncId→List M→Hp→Option (M×Hp)) (n0 N:Nat) (ops:Array Oper) (r:List Oper) (i st:Nat) (t:S) (l:List Rec) (hs:List Hp) (e:S) (Hs:Nat→Hp) (ss:Nat→Tr M):Prop where
 h0:Hs 0=t.H
 s0:ss 0=t.s
 len:l.length=r.length
 fin:e=⟨ss r.length,Hs r.length⟩
 step:∀ (j:Nat) q,l[j]? =some q→q.i=i+j∧r[j]? =some q.o∧q.s=restr (q.o.looksAt ops) (ss j)∧did C call (fun _=>n0+(i+j)) (Hp.lay (n0+(i+j))) ops q.s (Hs j) q.o=some (q.d,Hs (j+1))∧putM N (ss j) q.o.dst q.d.val=some (ss (j+1))∧q.st=st+effs l j
 hlen:hs.length=effs l l.length+1
 hat:∀ (j:Nat) q,l[j]? =some q→isEff q.d=true→hs[effs l j]? =some (Hs j)
 hlast:hs[effs l l.length]? =some (Hs l.length)
theorem pt:∀ (r:List Oper) (i st:Nat) (t:S) {l:List Rec} {hs:List Hp} {e:S},yg C call n0 ops N r i st t=some (l,hs,e)→∃ (Hs:Nat→Hp) (ss:Nat→Tr M),Ran C call n0 N ops r i st t l hs e Hs ss
 | [],i,st,t,l,hs,e,h=>by
  simp only[yg,Option.some.injEq,Prod.mk.injEq] at h;obtain⟨rfl,rfl,rfl⟩:=h;exact⟨fun _=>t.H,fun _=>t.s,rfl,rfl,rfl,rfl,by simp,rfl,by simp,rfl⟩
 | o::r,i,st,t,l,hs,e,h=>by
  unfold yg at h;split at h
  · rename_i d H1 hd
    split at h
    · rename_i s1 hs1
      split at h
      · rename_i l' hs' e' hr
        simp only[Option.some.injEq,Prod.mk.injEq] at h;obtain⟨rfl,rfl,rfl⟩:=h;obtain⟨Hs,ss,R⟩:=pt r (i+1) _ ⟨s1,H1⟩ hr;have hH:Hs 0=H1:=R.h0;have hS:ss 0=s1:=R.s0;refine⟨fun k=>match k with|0=>t.H|k+1=>Hs k,fun k=>match k with|0=>t.s|k+1=>ss k,rfl,rfl,by simp[R.len],by simpa using R.fin,fun j q hq=> ?_,?_,fun j q hq he=> ?_,?_⟩
        · cases j with
          | zero=>
            simp at hq;subst hq;refine⟨rfl,rfl,rfl,?_,?_,by simp[aet]⟩
            · simp only[Nat.add_zero,hH];exact hd
            · simp only[hS];exact hs1
          | succ j=>
            obtain⟨g1,g2,g3,g4,g5,g6⟩:=R.step j q (by simpa using hq)
            refine⟨by rw[g1];omega,by simpa using g2,g3,?_,g5,?_⟩
            · rw[show i+(j+1)=i+1+j by omega];exact g4
            · rw[g6,mf]
              simp only;cases isEff d<;>simp<;>omega
        · have:=R.hlen
          rw[List.length_cons,mf];simp only;cases isEff d<;>simp<;>omega
        · cases j with
          | zero=>
            simp at hq;subst hq;simp only at he;rw[aet,he];rfl
          | succ j=>
            have:=R.hat j q (by simpa using hq) he
            rw[mf];simp only;cases hd':isEff d
            · simpa using this
            · simp only[if_true,cond_true]
              rw[Nat.add_comm,List.getElem?_cons_succ];exact this
        · have:=R.hlast
          rw[List.length_cons,mf];simp only;cases hd':isEff d
          · simpa using this
          · simp only[if_true,cond_true]
            rw[Nat.add_comm,List.getElem?_cons_succ];exact this
      · cases h
    · cases h
  · cases h
def mkOf (C:Cfg) (l:List Rec) (k:Nat):Option Ob:=match l[k]? with
 | some q=>match q.d with
  | .mk _ _=>(match evMk C q.s q.o with
   |some (ob,_)=>some ob
   |none=>none)
  |_=>none
 |none=>none
def ov (C:Cfg) (l:List Rec) (n0:Nat) (K:Hp):Gt:=fun b=>match K.get b with
 |some o=>some o
 |none=>if n0≤b then mkOf C l (b-n0) else none
theorem dy {l:List Rec} {K:Hp} {b:Nat} {o:Ob} (h:K.get b=some o):ov C l n0 K b=some o:=by simp[ov,h]
theorem gj {l:List Rec} {K:Hp} {b:Nat} (h:K.get b=none):ov C l n0 K b=if n0≤b then mkOf C l (b-n0) else none:=by simp[ov,h]
theorem did_mk {bf:Nat→Nat} {up:Hp→Ob→Hp} {s:Tr M} {H H':Hp} {o:Oper} {x:M} {b:Nat} (h:did C call bf up ops s H o=some (.mk x b,H')):∃ ob f,wantM ops s o=some true∧evMk C s o=some (ob,f)∧x=f (bf H.n)∧b=bf H.n∧H'=up H ob:=by
 unfold did at h;split at h
 · cases h
 · cases h
 · rename_i hw
   split at h
   · cases h
   · split at h
     · rename_i ob f hmk;cases h;exact⟨ob,f,hw,hmk,rfl,rfl,rfl⟩
     · split at h<;>cases h
theorem did_eff {bf:Nat→Nat} {up:Hp→Ob→Hp} {s:Tr M} {H H':Hp} {o:Oper} {x:M} (h:did C call bf up ops s H o=some (.eff x,H')):wantM ops s o=some true∧evEff C H s call o=some (x,H'):=by
 unfold did at h;split at h
 · cases h
 · cases h
 · rename_i hw
   split at h
   · cases h
   · split at h
     · cases h
     · split at h
       · rename_i y H1 he;cases h;exact⟨hw,he⟩
       · cases h
theorem aus {bf:Nat→Nat} {up:Hp→Ob→Hp} {s:Tr M} {H H':Hp} {o:Oper} {x:M} (h:did C call bf up ops s H o=some (.pure x,H')):wantM ops s o=some true∧evPure C H s o=some x∧H'=H:=by
 unfold did at h;split at h
 · cases h
 · cases h
 · rename_i hw
   split at h
   · rename_i y hy;cases h;exact⟨hw,hy,rfl⟩
   · split at h
     · cases h
     · split at h<;>cases h
theorem did_no {bf:Nat→Nat} {up:Hp→Ob→Hp} {s:Tr M} {H H':Hp} {o:Oper} (h:did C call bf up ops s H o=some (.no,H')):wantM ops s o=some false∧H'=H:=by
 unfold did at h;split at h
 · cases h
 · rename_i hw;cases h;exact⟨hw,rfl⟩
 · split at h
   · cases h
   · split at h
     · cases h
     · split at h<;>cases h
theorem lay_get (b:Nat) (H:Hp) (o:Ob):(Hp.lay b H o).get=upd H.get b o:=by
 funext b'
 simp only[Hp.get,Hp.lay,Tr.get_put,upd]
theorem seg {r:List Oper} {t:S} {l:List Rec} {hs:List Hp} {e:S} {Hs:Nat→Hp} {ss:Nat→Tr M} (R:Ran C call n0 N ops r 0 0 t l hs e Hs ss) {p0:Nat} (hno:∀ q,p0≤q→q<l.length→(Hs p0).get (n0+q)=none):∀ (k:Nat),p0+k≤l.length→effs l (p0+k)=effs l p0→
  (Hs (p0+k)).n=(Hs p0).n∧∀ b,(Hs (p0+k)).get b=match(Hs p0).get b with
   |some o=>some o
   |none=>if n0+p0≤b∧b<n0+(p0+k) then mkOf C l (b-n0) else none
 | 0,_,_=>⟨rfl,fun b=>by
  simp only[Nat.add_zero];cases h:(Hs p0).get b with
  |some o=>rfl
  |none=>simp only;rw[if_neg (by omega)]⟩
 | k+1,hk,he=>by
  have hlt:p0+k<l.length:=by omega
  obtain⟨q,hq⟩:∃ q,l[p0+k]? =some q:=⟨_,List.getElem?_eq_getElem hlt⟩
  have hs1:=me hq;have mono:effs l p0≤effs l (p0+k):=by
   unfold effs;exact List.Sublist.countP_le (List.take_sublist_take_left (by omega))
  rw[show p0+k+1=p0+(k+1) by omega,he] at hs1
  have hne:isEff q.d=false:=by
   cases hq':isEff q.d
   · rfl
   · rw[hq'] at hs1;simp at hs1;omega
  rw[hne] at hs1;obtain⟨g1,g2⟩:=seg R hno k (by omega) (by simpa using hs1.symm)
  obtain⟨_,_,_,h4,_,_⟩:=R.step (p0+k) q hq;have widen:∀ b,b≠n0+(p0+k)→(match(Hs p0).get b with
     |some o=>some o
     |none=>if n0+p0≤b∧b<n0+(p0+k) then mkOf C l (b-n0) else none)=match(Hs p0).get b with
     |some o=>some o
     |none=>if n0+p0≤b∧b<n0+(p0+(k+1)) then mkOf C l (b-n0) else none:=fun b hb=>by
   cases(Hs p0).get b with
   |some o=>rfl
   | none=>
     simp only;by_cases hc:n0+p0≤b∧b<n0+(p0+k)
     · rw[if_pos hc,if_pos (by omega)]
     · rw[if_neg hc,if_neg (by omega)]
  have same:Hs (p0+k+1)=Hs (p0+k)→mkOf C l (p0+k)=none→(Hs (p0+(k+1))).n=(Hs p0).n∧∀ b,(Hs (p0+(k+1))).get b=match(Hs p0).get b with
   |some o=>some o
   |none=>if n0+p0≤b∧b<n0+(p0+(k+1)) then mkOf C l (b-n0) else none:=fun e1 e2=>by
   rw[show p0+(k+1)=p0+k+1 by omega,e1]
   refine⟨g1,fun b=> ?_⟩
   rw[g2 b];by_cases hb:b=n0+(p0+k)
   · subst hb
     rw[hno (p0+k) (by omega) hlt]
     simp only;rw[if_neg (by omega),if_pos (by omega),show n0+(p0+k)-n0=p0+k by omega,e2]
   · rw[widen b hb];rfl
  cases hd:q.d with
  | no=>
   rw[hd] at h4;exact same (did_no h4).2 (by simp[mkOf,hq,hd])
  | pure x=>
   rw[hd] at h4;exact same (aus h4).2.2 (by simp[mkOf,hq,hd])
  |eff x=>rw[hd] at hne;cases hne
  | mk x b0=>
   rw[hd] at h4;obtain⟨ob,f,_,e2,_,_,e5⟩:=did_mk h4;have hmk:mkOf C l (p0+k)=some ob:=by simp[mkOf,hq,hd,e2]
   rw[Nat.zero_add] at e5;rw[show p0+(k+1)=p0+k+1 by omega,e5]
   refine⟨g1,fun b=> ?_⟩
   rw[lay_get];by_cases hb:b=n0+(p0+k)
   · subst hb
     rw[cr,hno (p0+k) (by omega) hlt]
     simp only;rw[if_pos (by omega),show n0+(p0+k)-n0=p0+k by omega,hmk]
   · rw[ax _ _ hb,g2 b,widen b hb];rfl
end
end Go.Me
namespace Go.Me
open Go
variable [Gam]
set_option linter.unusedSectionVars false
set_option linter.unusedSimpArgs false
set_option linter.unusedVariables false
section
variable {C:Cfg} {base:Nat} {ν ν':Nm} {g:Gt} {n n0 N:Nat} {w w':World} {call:FuncId→List M→Hp→Option (M×Hp)} {ops:Array Oper}
theorem WR.realize (R:WR C base ν g n w) {b:Nat} {ρ:Nat×Nat} (hb:b<n) (hν:ν b=none) {o:Ob} (hg:g b=some o) {w1:World} (hw:w1.heap=w.heap) {ob:Obj} (ho:OR ν ρ o ob):WR C base (ν.add b w.heap.size ρ) g n (w1.alloc ob)∧ν.le (ν.add b w.heap.size ρ):=by
 have hle:ν.le (ν.add b w.heap.size ρ):=fun b' d h=>by
   have hne:b'≠b:=fun e=>by rw[e,hν] at h;cases h
   rw[Nm.add_ne _ _ _ hne,Nm.rm_ne _ _ _ hne];exact⟨h,rfl⟩
 have hsz:(w1.alloc ob).heap.size=w.heap.size+1:=by simp[hw]
 have hnew:(w1.alloc ob).heap[w.heap.size]? =some ob:=by simp[World.alloc,hw]
 have hold:∀ c',c'<w.heap.size→(w1.alloc ob).heap[c']? =w.heap[c']? :=fun c' h=>by
   simp only[World.alloc,hw];rw[Array.getElem?_push_lt h,Array.getElem?_eq_getElem h]
 refine⟨⟨fun b' d h=> ?_,fun b' q d h1 h2 h3=> ?_,fun b1 b2 d h1 h2 h3 h4=> ?_,fun k xs hk=> ?_,fun k xs hk=> ?_,by have:=R.big;omega,R.dom⟩,hle⟩
 · by_cases e:b'=b
   · subst e;rw[Nm.add_same] at h;cases h;exact⟨hb,R.big,by omega⟩
   · rw[Nm.add_ne _ _ _ e] at h;have:=R.lt b' d h;exact⟨this.1,this.2.1,by omega⟩
 · by_cases e:b'=b
   · subst e
     rw[Nm.add_same] at h3;cases h3;rw[hg] at h1;cases h1;rw[Nm.rm_same];exact⟨ob,hnew,ho.mono hle⟩
   · rw[Nm.add_ne _ _ _ e] at h3
     rw[Nm.rm_ne _ _ _ e];obtain⟨ob',h4,h5⟩:=R.ob b' q d h1 h2 h3;exact⟨ob',by rw[hold d (R.lt b' d h3).2.2];exact h4,h5.mono hle⟩
 · by_cases e1:b1=b<;>by_cases e2:b2=b
   · rw[e1,e2]
   · subst e1;rw[Nm.add_same] at h3;rw[Nm.add_ne _ _ _ e2] at h4;cases h3
     have:=(R.lt b2 _ h4).2.2;omega
   · subst e2;rw[Nm.add_ne _ _ _ e1] at h3;rw[Nm.add_same] at h4;cases h4
     have:=(R.lt b1 _ h3).2.2;omega
   · rw[Nm.add_ne _ _ _ e1] at h3;rw[Nm.add_ne _ _ _ e2] at h4
     exact R.inj b1 b2 d h1 h2 h3 h4
 · obtain⟨h1,vs,e,fr,h2,h3⟩:=R.gl k xs hk
   exact⟨h1,vs,e,fr,by rw[hold k (Nat.lt_of_lt_of_le h1 R.big)];exact h2,h3⟩
 · obtain⟨h1,vs,e,h2,hcv,h3⟩:=R.vg k xs hk
   exact⟨h1,vs,e,by rw[hold _ (Nat.lt_of_lt_of_le h1 R.big)];exact h2,hcv,h3⟩
theorem St.realize {ν0:Nm} {g0:Gt} {w0:World} (T:St ν0 g0 n0 w0 ν g n w) {b:Nat} {ρ:Nat×Nat} (hb:n0≤b) {w1:World} (hw:w1.heap=w.heap) (hr:w1.os=w.os∧w1.tape=w.tape∧w1.output=w.output) {ob:Obj}:St ν0 g0 n0 w0 (ν.add b w.heap.size ρ) g n (w1.alloc ob):=by
 have hsz:(w1.alloc ob).heap.size=w.heap.size+1:=by simp[hw]
 refine⟨T.num,fun b' h=> ?_,T.liv,T.has,T.same,T.non,fun b' c h1 h2=> ?_,by have:=T.size;omega,fun c h1 h2=> ?_,?_⟩
 · rw[Nm.add_ne _ _ _ (by omega),Nm.rm_ne _ _ _ (by omega)];exact T.old b' h
 · by_cases e:b'=b
   · subst e;rw[Nm.add_same] at h2;cases h2;exact .inl T.size
   · rw[Nm.add_ne _ _ _ e] at h2;exact T.new b' c h1 h2
 · rw[← T.keep c h1 h2]
   simp only[World.alloc,hw];have hlt:c<w.heap.size:=Nat.lt_of_lt_of_le h1 T.size;rw[Array.getElem?_push_lt hlt,Array.getElem?_eq_getElem hlt]
 · obtain⟨r1,r2,r3⟩:=T.rest
   obtain⟨q1,q2,q3⟩:=hr;exact⟨q1.trans r1,q2.trans r2,q3.trans r3⟩
theorem mkOf_lt {l:List Rec} {k:Nat} {o:Ob} (h:mkOf C l k=some o):k<l.length:=by
 unfold mkOf at h;split at h
 · rename_i q hq;exact(List.getElem?_eq_some_iff.1 hq).1
 · cases h
theorem effOv {l:List Rec} {K B K':Hp} (R:WR C base ν (ov C l n0 K) n w) (hn:n0+l.length≤n) (hsub:∀ b o,B.get b=some o→ov C l n0 K b=some o) (hkey:∀ b,B.get b=none→K.get b=none) (T:St ν B.get n w ν' K'.get K'.n w') (R':WR C base ν' K'.get K'.n w'):
   WR C base ν' (ov C l n0 K') K'.n w'∧St ν (ov C l n0 K) n w ν' (ov C l n0 K') K'.n w':=by
 have late:∀ b o,K'.get b=none→ov C l n0 K' b=some o→n0≤b∧mkOf C l (b-n0)=some o∧b<n:=fun b o h1 h2=>by
   rw[gj h1] at h2;split at h2
   · rename_i hb;exact⟨hb,h2,by have:=mkOf_lt h2;omega⟩
   · cases h2
 have gone:∀ b,b<n→K'.get b=none→B.get b=none:=fun b hb h=>Classical.byContradiction fun hc=>T.has b hb hc h
 have ovK:∀ b,b<n→K'.get b=none→ov C l n0 K b=ov C l n0 K' b:=fun b hb h=>by
   rw[gj h,gj (hkey b (gone b hb h))]
 have liveB:∀ b,c9 B.get b→c9 (ov C l n0 K) b:=fun b ⟨o,h1,h2⟩=>⟨o,hsub b o h1,h2⟩
 refine⟨⟨R'.lt,fun b o c h1 h2 h3=> ?_,fun b1 b2 c h1 h2 h3 h4=> ?_,R'.gl,R'.vg,R'.big,fun b o h=> ?_⟩,⟨T.num,T.old,fun b hb h=> ?_,fun b hb h=> ?_,fun b hb h=> ?_,fun b hb h=> ?_,fun b c h1 h2=> ?_,T.size,fun c h1 h2=>T.keep c h1 fun b hb=>h2 b (liveB b hb),T.rest⟩⟩
 · cases hk:K'.get b with
   |some o'=>rw[dy hk] at h1;cases h1;exact R'.ob b o c hk h2 h3
   | none=>
     obtain⟨g1,g2,g3⟩:=late b o hk h1;obtain⟨g4,g5⟩:=T.old b g3;rw[g4] at h3;have h1':ov C l n0 K b=some o:=by rw[ovK b g3 hk];exact h1
     obtain⟨ob,g6,g7⟩:=R.ob b o c h1' h2 h3;refine⟨ob,?_,by rw[g5];exact g7.mono fun b' c' h=>by obtain⟨q1,q2⟩:=T.old b' (R.lt b' c' h).1;exact⟨q1.trans h,q2⟩⟩
     rw[T.keep c (R.lt b c h3).2.2 fun b1 hb1 hc=> ?_]
     · exact g6
     · have:=R.inj b1 b c (liveB b1 hb1) ⟨o,h1',h2⟩ hc h3
       subst this;obtain⟨o',p1,_⟩:=hb1;rw[gone b1 g3 hk] at p1;cases p1
 · obtain⟨o1,p1,p2⟩:=h1
   obtain⟨o2,p3,p4⟩:=h2;have mixed:∀ {b1 b2:Nat} {o1 o2:Ob},K'.get b1=some o1→o1.live=true→K'.get b2=none→ov C l n0 K' b2=some o2→o2.live=true→ν' b1=some c→ν' b2=some c→False:=fun {b1 b2 o1 o2} q1 q2 q3 q4 q5 q6 q7=>by
     obtain⟨g1,g2,g3⟩:=late b2 o2 q3 q4;have h2:ov C l n0 K b2=some o2:=by rw[ovK b2 g3 q3];exact q4
     have v2:ν b2=some c:=by rw[← (T.old b2 g3).1];exact q7
     have key:∀ b0,c9 B.get b0→ν b0=some c→False:=fun b0 hb0 hv=>by
       have:=R.inj b0 b2 c (liveB b0 hb0) ⟨o2,h2,q5⟩ hv v2;subst this;obtain⟨o',p1,_⟩:=hb0;rw[gone b0 g3 q3] at p1;cases p1
     by_cases hb:b1<n
     · exact key b1 (T.liv b1 hb ⟨o1,q1,q2⟩) (by rw[← (T.old b1 hb).1];exact q6)
     · rcases T.new b1 c (by omega) q6 with h|⟨b0,h5,h6⟩
       · have:=(R.lt b2 c v2).2.2;omega
       · exact key b0 h5 h6
   cases k1:K'.get b1 with
   | some o1'=>
     rw[dy k1] at p1;cases p1;cases k2:K'.get b2 with
     |some o2'=>rw[dy k2] at p3;cases p3;exact R'.inj b1 b2 c ⟨o1,k1,p2⟩ ⟨o2,k2,p4⟩ h3 h4
     |none=>exact(mixed k1 p2 k2 p3 p4 h3 h4).elim
   | none=>
     cases k2:K'.get b2 with
     |some o2'=>rw[dy k2] at p3;cases p3;exact(mixed k2 p4 k1 p1 p2 h4 h3).elim
     | none=>
       obtain⟨_,_,g3⟩:=late b1 o1 k1 p1;obtain⟨_,_,g3'⟩:=late b2 o2 k2 p3;exact R.inj b1 b2 c ⟨o1,by rw[ovK b1 g3 k1];exact p1,p2⟩ ⟨o2,by rw[ovK b2 g3' k2];exact p3,p4⟩ (by rw[← (T.old b1 g3).1];exact h3) (by rw[← (T.old b2 g3').1];exact h4)
 · cases hk:K'.get b with
   |some o'=>exact R'.dom b o' hk
   |none=>have:=(late b o hk h).2.2;exact Nat.lt_of_lt_of_le this T.num
 · obtain⟨o,h1,h2⟩:=h
   cases hk:K'.get b with
   |some o'=>rw[dy hk] at h1;cases h1;exact liveB b (T.liv b hb ⟨o,hk,h2⟩)
   |none=>exact⟨o,by rw[ovK b hb hk];exact h1,h2⟩
 · cases hk:K'.get b with
   |some o'=>rw[dy hk];simp
   |none=>rw[← ovK b hb hk];exact h
 · cases hk:K'.get b with
   | some o'=>
     rw[dy hk];have:=T.same b hb h;rw[hk] at this;exact(hsub b o' this.symm).symm
   |none=>exact(ovK b hb hk).symm
 · cases hk:K'.get b with
   | some o'=>
     have hB:B.get b≠none:=fun hc=>by have:=T.non b hb hc;rw[hk] at this;cases this
     cases hB':B.get b with
     |none=>exact absurd hB' hB
     |some o=>rw[hsub b o hB'] at h;cases h
   |none=>rw[← ovK b hb hk];exact h
 · rcases T.new b c h1 h2 with h|⟨b0,h3,h4⟩
   · exact .inl h
   · exact .inr ⟨b0,liveB b0 h3,h4⟩
theorem axj {r:List Oper} {t:S} {l:List Rec} {hs:List Hp} {e:S} {Hs:Nat→Hp} {ss:Nat→Tr M} (R:Ran C call n0 N ops r 0 0 t l hs e Hs ss) {k:Nat} {x:M}:∀ (i:Nat),i≤l.length→(ss i).get k=some x→
  (∃ q rc,q<i∧l[q]? =some rc∧rc.o.dst=some k∧rc.d.val=x)∨((∀ q rc,q<i→l[q]? =some rc→rc.o.dst≠some k)∧(ss 0).get k=some x)
 |0,_,h=> .inr ⟨fun q rc h=>absurd h (by omega),h⟩
 | i+1,hi,h=>by
  obtain⟨q,hq⟩:∃ q,l[i]? =some q:=⟨_,List.getElem?_eq_getElem (by omega)⟩
  obtain⟨_,_,_,_,h5,_⟩:=R.step i q hq;have rec':(ss i).get k=some x→q.o.dst≠some k→(∃ q rc,q<i+1∧l[q]? =some rc∧rc.o.dst=some k∧rc.d.val=x)∨((∀ q rc,q<i+1→l[q]? =some rc→rc.o.dst≠some k)∧(ss 0).get k=some x):=fun h1 h2=>by
    rcases axj R i (by omega) h1 with⟨p,rc,g1,g2,g3,g4⟩|⟨g1,g2⟩
    · exact .inl ⟨p,rc,by omega,g2,g3,g4⟩
    · refine .inr ⟨fun p rc hp hrc=> ?_,g2⟩
      by_cases e:p=i
      · subst e;rw[hq] at hrc;cases hrc;exact h2
      · exact g1 p rc (by omega) hrc
  unfold putM at h5;split at h5
  · rename_i hd
    have h5:=Option.some.inj h5;rw[← h5] at h;exact rec' h (by rw[hd];simp)
  · rename_i d hd
    obtain⟨_,h6⟩:=and1 h5;have h6:=Option.some.inj h6;rw[← h6,Tr.get_put] at h;split at h
    · rename_i e
      cases h;subst e;exact .inl ⟨i,q,by omega,hq,hd,rfl⟩
    · rename_i e
      exact rec' h (by rw[hd];simp;omega)
theorem aev:∀ {l:List Rec},tw l=true→∀ (i j:Nat) r q d,l[i]? =some r→l[j]? =some q→r.o.dst=some d→q.o.dst=some d→i=j
 | [],_,i,j,r,q,d,h,_,_,_=>by simp at h
 | p::l,h,i,j,r,q,d,hr,hq,h1,h2=>by
  simp only[tw,Bool.and_eq_true] at h;obtain⟨ha,hb⟩:=h;have first:∀ (j:Nat) q,l[j]? =some q→p.o.dst=some d→q.o.dst≠some d:=fun j q hq hp he=>by
   rw[hp] at ha;have:=List.all_eq_true.1 ha q (List.mem_of_getElem? hq);rw[he] at this;simp at this
  cases i with
  | zero=>
   cases j with
   |zero=>rfl
   |succ j=>simp at hr hq;subst hr;exact absurd h2 (first j q hq h1)
  | succ i=>
   cases j with
   |zero=>simp at hr hq;subst hq;exact absurd h1 (first i r hr h2)
   |succ j=>simp at hr hq;rw[aev hb i j r q d hr hq h1 h2]
end
