import Derived.Test.YtkdiccgfbfbjlaaGreatMeQ
import Derived.Orders
namespace Go.Me
open Go
variable [Gam]
set_option linter.unusedSectionVars false
set_option linter.unusedSimpArgs false
set_option linter.unusedVariables false
theorem su {acc:List Nat} {q:Nat}:∀ {l:List Edge},(l7 acc l).testBit q=true→∃ e∈l,Region.binds .any e=true∧(q=e.on∨(acc.getD e.on 0).testBit q=true)
 | [],h=>by simp[l7] at h
 | e::r,h=>by
  unfold l7 at h;cases hb:Region.binds .any e
  · rw[hb] at h
    obtain⟨e',h1,h2⟩:=su h;exact⟨e',List.mem_cons_of_mem _ h1,h2⟩
  · rw[hb] at h
    simp only[cond_true,Nat.testBit_or,Bool.or_eq_true,Nat.testBit_two_pow,decide_eq_true_eq] at h;rcases h with(h|h)|h
    · exact⟨e,List.mem_cons_self,hb,.inl h.symm⟩
    · exact⟨e,List.mem_cons_self,hb,.inr h⟩
    · obtain⟨e',h1,h2⟩:=su h
      exact⟨e',List.mem_cons_of_mem _ h1,h2⟩
theorem py:∀ (l:List Oper) (acc:List Nat),(∀ k,k<acc.length→(masks l acc)[k]? =acc[k]?)∧∀ (k:Nat) o,l[k]? =some o→(masks l acc)[acc.length+k]? =some (l7 ((masks l acc).take (acc.length+k)) o.after.toList)
 | [],acc=>⟨fun _ _=>rfl,by simp⟩
 | o::r,acc=>by
  obtain⟨h1,h2⟩:=py r (acc++[l7 acc o.after.toList]);have pre:∀ k,k<acc.length→(masks (o::r) acc)[k]? =acc[k]? :=fun k hk=>by
   rw[masks,h1 k (by simp;omega),List.getElem?_append_left hk]
  refine⟨pre,fun k p hp=> ?_⟩
  cases k with
  | zero=>
   simp at hp;subst hp;have ht:(masks (o::r) acc).take (acc.length+0)=acc:=by
    apply List.ext_getElem?;intro k;rw[List.getElem?_take];by_cases hk:k<acc.length
    · rw[if_pos (by omega),pre k hk]
    · rw[if_neg (by omega),List.getElem?_eq_none (by omega)]
   rw[ht,masks,Nat.add_zero,h1 acc.length (by simp)]
   simp
  | succ k=>
   have:=h2 k p (by simpa using hp)
   simp only[List.length_append,List.length_singleton] at this;rw[masks,show acc.length+(k+1)=acc.length+1+k by omega]
   exact this
theorem bef_edge {ops:Array Oper} {q i:Nat} {o:Oper} (ho:ops[i]? =some o) (h:bef (masks ops.toList []) q i=true):∃ e∈o.after.toList,Region.binds .any e=true∧(q=e.on∨bef (masks ops.toList []) q e.on=true):=by
 unfold bef at h;have hs:=(py ops.toList []).2 i o (by simpa using ho)
 simp only[List.length_nil,Nat.zero_add] at hs;rw[List.getD_eq_getElem?_getD,hs] at h;simp only[Option.getD_some] at h;obtain⟨e,h1,h2,h3⟩:=su h;refine⟨e,h1,h2,h3.imp id fun h4=> ?_⟩
 unfold bef;rw[List.getD_eq_getElem?_getD] at h4 ⊢;rw[List.getElem?_take] at h4;split at h4
 · exact h4
 · simp at h4
theorem ot:∀ {l:List Oper} {i:Nat},qq i l=true→∀ (k:Nat) o,l[k]? =some o→∀ e∈o.after.toList,Region.binds .any e=true→e.on<i+k
 | [],i,_,k,o,h=>by simp at h
 | p::r,i,h,k,o,hk=>by
  simp only[qq,Bool.and_eq_true] at h;cases k with
  | zero=>
   simp at hk;subst hk;intro e he hb;have:=List.all_eq_true.1 h.1 e he;rw[hb] at this;simpa[Nat.blt_eq] using this
  | succ k=>
   have:=ot h.2 k o (by simpa using hk)
   intro e he hb;have:=this e he hb;omega
theorem nb:∀ {l:List Nat} {s:Tr M} {k:Nat} {x:M},(restr l s).get k=some x→k∈l∧s.get k=some x
 | [],s,k,x,h=>by cases h
 | j::l,s,k,x,h=>by
  unfold restr at h;split at h
  · rename_i y hy
    rw[Tr.get_put] at h;split at h
    · rename_i e;cases h;subst e;exact⟨List.mem_cons_self,hy⟩
    · obtain⟨h1,h2⟩:=nb h;exact⟨List.mem_cons_of_mem _ h1,h2⟩
  · obtain⟨h1,h2⟩:=nb h;exact⟨List.mem_cons_of_mem _ h1,h2⟩
def effs (l:List Rec) (j:Nat):Nat:=(l.take j).countP fun q=>isEff q.d
theorem aa3 (l:List Rec):effs l 0=0:=rfl
theorem kq {l:List Rec} {j:Nat} {q:Rec} (h:l[j]? =some q):effs l (j+1)=effs l j+if isEff q.d then 1 else 0:=by
 unfold effs;rw[List.take_add_one,h];simp[List.countP_append,List.countP_cons]
theorem kr (q:Rec) (l:List Rec) (j:Nat):effs (q::l) (j+1)=(if isEff q.d then 1 else 0)+effs l j:=by
 unfold effs;rw[List.take_succ_cons,List.countP_cons];omega
section
variable {C:Cfg} {call:FuncId→List M→Hp→Option (M×Hp)} {n0 N:Nat} {ops:Array Oper}
structure Ran (C:Cfg) (call:FuncId→List M→Hp→Option (M×Hp)) (n0 N:Nat) (ops:Array Oper) (r:List Oper) (i st:Nat) (t:S) (l:List Rec) (hs:List Hp) (e:S) (Hs:Nat→Hp) (ss:Nat→Tr M):Prop where
 h0:Hs 0=t.H
 s0:ss 0=t.s
 len:l.length=r.length
 fin:e=⟨ss r.length,Hs r.length⟩
 step:∀ (j:Nat) q,l[j]? =some q→q.i=i+j∧r[j]? =some q.o∧q.s=restr (q.o.looksAt ops) (ss j)∧did C call (fun _=>n0+(i+j)) (Hp.lay (n0+(i+j))) ops q.s (Hs j) q.o=some (q.d,Hs (j+1))∧putM N (ss j) q.o.dst q.d.val=some (ss (j+1))∧q.st=st+effs l j
 hlen:hs.length=effs l l.length+1
 hat:∀ (j:Nat) q,l[j]? =some q→isEff q.d=true→hs[effs l j]? =some (Hs j)
 hlast:hs[effs l l.length]? =some (Hs l.length)
theorem na:∀ (r:List Oper) (i st:Nat) (t:S) {l:List Rec} {hs:List Hp} {e:S},uq C call n0 ops N r i st t=some (l,hs,e)→∃ (Hs:Nat→Hp) (ss:Nat→Tr M),Ran C call n0 N ops r i st t l hs e Hs ss
 | [],i,st,t,l,hs,e,h=>by
  simp only[uq,Option.some.injEq,Prod.mk.injEq] at h;obtain⟨rfl,rfl,rfl⟩:=h;exact⟨fun _=>t.H,fun _=>t.s,rfl,rfl,rfl,rfl,by simp,rfl,by simp,rfl⟩
 | o::r,i,st,t,l,hs,e,h=>by
  unfold uq at h;split at h
  · rename_i d H1 hd
    split at h
    · rename_i s1 hs1
      split at h
      · rename_i l' hs' e' hr
        simp only[Option.some.injEq,Prod.mk.injEq] at h;obtain⟨rfl,rfl,rfl⟩:=h;obtain⟨Hs,ss,R⟩:=na r (i+1) _ ⟨s1,H1⟩ hr;have hH:Hs 0=H1:=R.h0;have hS:ss 0=s1:=R.s0;refine⟨fun k=>match k with|0=>t.H|k+1=>Hs k,fun k=>match k with|0=>t.s|k+1=>ss k,rfl,rfl,by simp[R.len],by simpa using R.fin,fun j q hq=> ?_,?_,fun j q hq he=> ?_,?_⟩
        · cases j with
          | zero=>
            simp at hq;subst hq;refine⟨rfl,rfl,rfl,?_,?_,by simp[aa3]⟩
            · simp only[Nat.add_zero,hH];exact hd
            · simp only[hS];exact hs1
          | succ j=>
            obtain⟨g1,g2,g3,g4,g5,g6⟩:=R.step j q (by simpa using hq)
            refine⟨by rw[g1];omega,by simpa using g2,g3,?_,g5,?_⟩
            · rw[show i+(j+1)=i+1+j by omega];exact g4
            · rw[g6,kr]
              simp only;cases isEff d<;>simp<;>omega
        · have:=R.hlen
          rw[List.length_cons,kr];simp only;cases isEff d<;>simp<;>omega
        · cases j with
          | zero=>
            simp at hq;subst hq;simp only at he;rw[aa3,he];rfl
          | succ j=>
            have:=R.hat j q (by simpa using hq) he
            rw[kr];simp only;cases hd':isEff d
            · simpa using this
            · simp only[if_true,cond_true]
              rw[Nat.add_comm,List.getElem?_cons_succ];exact this
        · have:=R.hlast
          rw[List.length_cons,kr];simp only;cases hd':isEff d
          · simpa using this
          · simp only[if_true,cond_true]
            rw[Nat.add_comm,List.getElem?_cons_succ];exact this
      · cases h
    · cases h
  · cases h
def mkOf (C:Cfg) (l:List Rec) (k:Nat):Option Ob:=match l[k]? with
 | some q=>match q.d with
  | .mk _ _=>(match evMk C q.s q.o with
   |some (ob,_)=>some ob
   |none=>none)
  |_=>none
 |none=>none
def ov (C:Cfg) (l:List Rec) (n0:Nat) (K:Hp):Gt:=fun b=>match K.get b with
 |some o=>some o
 |none=>if n0≤b then mkOf C l (b-n0) else none
theorem dq {l:List Rec} {K:Hp} {b:Nat} {o:Ob} (h:K.get b=some o):ov C l n0 K b=some o:=by simp[ov,h]
theorem f7 {l:List Rec} {K:Hp} {b:Nat} (h:K.get b=none):ov C l n0 K b=if n0≤b then mkOf C l (b-n0) else none:=by simp[ov,h]
theorem did_mk {bf:Nat→Nat} {up:Hp→Ob→Hp} {s:Tr M} {H H':Hp} {o:Oper} {x:M} {b:Nat} (h:did C call bf up ops s H o=some (.mk x b,H')):∃ ob f,wantM ops s o=some true∧evMk C s o=some (ob,f)∧x=f (bf H.n)∧b=bf H.n∧H'=up H ob:=by
 unfold did at h;split at h
 · cases h
 · cases h
 · rename_i hw
   split at h
   · cases h
   · split at h
     · rename_i ob f hmk;cases h;exact⟨ob,f,hw,hmk,rfl,rfl,rfl⟩
     · split at h<;>cases h
theorem did_eff {bf:Nat→Nat} {up:Hp→Ob→Hp} {s:Tr M} {H H':Hp} {o:Oper} {x:M} (h:did C call bf up ops s H o=some (.eff x,H')):wantM ops s o=some true∧evEff C H s call o=some (x,H'):=by
 unfold did at h;split at h
 · cases h
 · cases h
 · rename_i hw
   split at h
   · cases h
   · split at h
     · cases h
     · split at h
       · rename_i y H1 he;cases h;exact⟨hw,he⟩
       · cases h
theorem apy {bf:Nat→Nat} {up:Hp→Ob→Hp} {s:Tr M} {H H':Hp} {o:Oper} {x:M} (h:did C call bf up ops s H o=some (.pure x,H')):wantM ops s o=some true∧evPure C H s o=some x∧H'=H:=by
 unfold did at h;split at h
 · cases h
 · cases h
 · rename_i hw
   split at h
   · rename_i y hy;cases h;exact⟨hw,hy,rfl⟩
   · split at h
     · cases h
     · split at h<;>cases h
theorem did_no {bf:Nat→Nat} {up:Hp→Ob→Hp} {s:Tr M} {H H':Hp} {o:Oper} (h:did C call bf up ops s H o=some (.no,H')):wantM ops s o=some false∧H'=H:=by
 unfold did at h;split at h
 · cases h
 · rename_i hw;cases h;exact⟨hw,rfl⟩
 · split at h
   · cases h
   · split at h
     · cases h
     · split at h<;>cases h
theorem lay_get (b:Nat) (H:Hp) (o:Ob):(Hp.lay b H o).get=upd H.get b o:=by
 funext b'
 simp only[Hp.get,Hp.lay,Tr.get_put,upd]
theorem seg {r:List Oper} {t:S} {l:List Rec} {hs:List Hp} {e:S} {Hs:Nat→Hp} {ss:Nat→Tr M} (R:Ran C call n0 N ops r 0 0 t l hs e Hs ss) {p0:Nat} (hno:∀ q,p0≤q→q<l.length→(Hs p0).get (n0+q)=none):∀ (k:Nat),p0+k≤l.length→effs l (p0+k)=effs l p0→
  (Hs (p0+k)).n=(Hs p0).n∧∀ b,(Hs (p0+k)).get b=match(Hs p0).get b with
   |some o=>some o
   |none=>if n0+p0≤b∧b<n0+(p0+k) then mkOf C l (b-n0) else none
 | 0,_,_=>⟨rfl,fun b=>by
  simp only[Nat.add_zero];cases h:(Hs p0).get b with
  |some o=>rfl
  |none=>simp only;rw[if_neg (by omega)]⟩
 | k+1,hk,he=>by
  have hlt:p0+k<l.length:=by omega
  obtain⟨q,hq⟩:∃ q,l[p0+k]? =some q:=⟨_,List.getElem?_eq_getElem hlt⟩
  have hs1:=kq hq;have mono:effs l p0≤effs l (p0+k):=by
   unfold effs;exact List.Sublist.countP_le (List.take_sublist_take_left (by omega))
  rw[show p0+k+1=p0+(k+1) by omega,he] at hs1
  have hne:isEff q.d=false:=by
   cases hq':isEff q.d
   · rfl
   · rw[hq'] at hs1;simp at hs1;omega
  rw[hne] at hs1;obtain⟨g1,g2⟩:=seg R hno k (by omega) (by simpa using hs1.symm)
  obtain⟨_,_,_,h4,_,_⟩:=R.step (p0+k) q hq;have widen:∀ b,b≠n0+(p0+k)→(match(Hs p0).get b with
     |some o=>some o
     |none=>if n0+p0≤b∧b<n0+(p0+k) then mkOf C l (b-n0) else none)=match(Hs p0).get b with
     |some o=>some o
     |none=>if n0+p0≤b∧b<n0+(p0+(k+1)) then mkOf C l (b-n0) else none:=fun b hb=>by
   cases(Hs p0).get b with
   |some o=>rfl
   | none=>
     simp only;by_cases hc:n0+p0≤b∧b<n0+(p0+k)
     · rw[if_pos hc,if_pos (by omega)]
     · rw[if_neg hc,if_neg (by omega)]
  have same:Hs (p0+k+1)=Hs (p0+k)→mkOf C l (p0+k)=none→(Hs (p0+(k+1))).n=(Hs p0).n∧∀ b,(Hs (p0+(k+1))).get b=match(Hs p0).get b with
   |some o=>some o
   |none=>if n0+p0≤b∧b<n0+(p0+(k+1)) then mkOf C l (b-n0) else none:=fun e1 e2=>by
   rw[show p0+(k+1)=p0+k+1 by omega,e1]
   refine⟨g1,fun b=> ?_⟩
   rw[g2 b];by_cases hb:b=n0+(p0+k)
   · subst hb
     rw[hno (p0+k) (by omega) hlt]
     simp only;rw[if_neg (by omega),if_pos (by omega),show n0+(p0+k)-n0=p0+k by omega,e2]
   · rw[widen b hb];rfl
  cases hd:q.d with
  | no=>
   rw[hd] at h4;exact same (did_no h4).2 (by simp[mkOf,hq,hd])
  | pure x=>
   rw[hd] at h4;exact same (apy h4).2.2 (by simp[mkOf,hq,hd])
  |eff x=>rw[hd] at hne;cases hne
  | mk x b0=>
   rw[hd] at h4;obtain⟨ob,f,_,e2,_,_,e5⟩:=did_mk h4;have hmk:mkOf C l (p0+k)=some ob:=by simp[mkOf,hq,hd,e2]
   rw[Nat.zero_add] at e5;rw[show p0+(k+1)=p0+k+1 by omega,e5]
   refine⟨g1,fun b=> ?_⟩
   rw[lay_get];by_cases hb:b=n0+(p0+k)
   · subst hb
     rw[ck,hno (p0+k) (by omega) hlt]
     simp only;rw[if_pos (by omega),show n0+(p0+k)-n0=p0+k by omega,hmk]
   · rw[ay _ _ hb,g2 b,widen b hb];rfl
end
