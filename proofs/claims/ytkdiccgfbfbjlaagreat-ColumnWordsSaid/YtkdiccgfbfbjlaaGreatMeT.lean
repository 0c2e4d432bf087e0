import Derived.Test.YtkdiccgfbfbjlaaGreatMeS
namespace Go.Me
open Go
variable [Gam]
set_option linter.unusedSectionVars false
set_option linter.unusedSimpArgs false
set_option linter.unusedVariables false
section
variable {C:Cfg} {base:Nat} {n0 N:Nat} {call:FuncId→List M→Hp→Option (M×Hp)} {ops:Array Oper} {t e:S} {l:List Rec} {hs:List Hp} {Hs:Nat→Hp} {ss:Nat→Tr M} {ν0:Nm} {w0:World} {a0:Act}
abbrev isOn (ls:Array Bool) (q:Nat):Prop:=ls[q]? =some true
structure Inv (C:Cfg) (base n0 N:Nat) (ops:Array Oper) (t:S) (l:List Rec) (Hs:Nat→Hp) (ss:Nat→Tr M) (ν0:Nm) (w0:World) (a0:Act) (ls:Array Bool) (a:Act) (w:World) (ν:Nm) (pK:Nat):Prop where
 lsz:ls.size=ops.size
 pk:pK≤l.length
 hno:∀ q,pK≤q→q<l.length→(Hs pK).get (n0+q)=none
 kn:n0+l.length≤(Hs pK).n
 R:WR C base ν (ov C l n0 (Hs pK)) (Hs pK).n w
 T:St ν0 t.H.get n0 w0 ν (ov C l n0 (Hs pK)) (Hs pK).n w
 pend:∀ q r x b,l[q]? =some r→r.d= .mk x b→¬ isOn ls q→ν (n0+q)=none∧ov C l n0 (Hs pK) (n0+q)=mkOf C l q
 clos:∀ i q,isOn ls i→bef (masks ops.toList []) q i=true→isOn ls q
 eff:∀ q r,l[q]? =some r→isEff r.d=true→(isOn ls q↔q<pK)
 vals:∀ q r d,l[q]? =some r→isOn ls q→r.o.dst=some d→VR ν r.d.val (a.tmps.getD d undef)
 olds:∀ k x,(∀ q r,l[q]? =some r→isOn ls q→r.o.dst≠some k)→(ss 0).get k=some x→VR ν x (a.tmps.getD k undef)
 size:N≤a.tmps.size
 defs:a.defers=a0.defers
theorem s9 {ls:Array Bool} {i q:Nat} (hi:i<ls.size):isOn (ls.setIfInBounds i true) q↔q=i∨isOn ls q:=by
 unfold isOn;rw[Array.getElem?_setIfInBounds];by_cases e:i=q
 · subst e;simp[hi]
 · simp[e];exact fun h=>absurd h.symm e
theorem ready_spec {ls:Array Bool} (hsz:ls.size=ops.size) {i:Nat} (h:i∈Region.ready .any ops ls):i<ops.size∧¬ isOn ls i∧∃ o,ops[i]? =some o∧∀ e∈o.after.toList,Region.binds .any e=true→isOn ls e.on:=by
 simp only[Region.ready,List.mem_filter,List.mem_range,Bool.and_eq_true] at h;obtain⟨h1,h2,h3⟩:=h;have ho:ops[i]? =some ops[i]:=Array.getElem?_eq_getElem h1;rw[ho] at h3;simp only[Option.map_some,Option.getD_some] at h3;refine⟨h1,fun hc=> ?_,_,ho,fun e he hb=> ?_⟩
 · unfold isOn at hc
   simp[Array.getD_eq_getD_getElem?,hc] at h2
 · rw[Array.all_eq_true'] at h3
   have:=h3 e (by simpa using he)
   rw[hb] at this;simp only[Bool.not_true,Bool.false_or,Array.getD_eq_getD_getElem?] at this;unfold isOn;cases hq:ls[e.on]? with
   |none=>rw[hq] at this;cases this
   |some b=>rw[hq] at this;simp at this;rw[this]
theorem all_on {ls:Array Bool} (hsz:ls.size=ops.size) (hb:ue 0 ops.toList=true) (h:Region.ready .any ops ls=[]):∀ i,i<ops.size→isOn ls i:=by
 intro i
 induction i using Nat.strongRecOn with
 | _ i ih=>
  intro hi;apply Classical.byContradiction;intro hc;have:i∈Region.ready .any ops ls:=by
   have ho:ops[i]? =some ops[i]:=Array.getElem?_eq_getElem hi;simp only[Region.ready,List.mem_filter,List.mem_range,Bool.and_eq_true];refine⟨hi,?_,?_⟩
   · have hlt:i<ls.size:=by omega
     have:ls[i]? =some ls[i]:=Array.getElem?_eq_getElem hlt;simp only[Array.getD_eq_getD_getElem?,this,Option.getD_some,Bool.not_eq_true'];cases hq:ls[i]
     · rfl
     · exact absurd (by unfold isOn;rw[this,hq]) hc
   · rw[ho]
     simp only[Option.map_some,Option.getD_some];rw[Array.all_eq_true'];intro e he;cases hbe:Region.binds .any e
     · rfl
     · have h1:=rf hb i ops[i] (by simp) e (by simpa using he) hbe
       have:=ih e.on (by omega) (by omega)
       unfold isOn at this;simp[Array.getD_eq_getD_getElem?,this]
  rw[h] at this;cases this
section
variable {ls:Array Bool} {a:Act} {w:World} {ν:Nm} {pK:Nat}
theorem Inv.slots (I:Inv C base n0 N ops t l Hs ss ν0 w0 a0 ls a w ν pK) (Rn:Ran C call n0 N ops ops.toList 0 0 ⟨t.s,⟨n0+ops.size,t.H.t⟩⟩ l hs e Hs ss) {i:Nat} {r:Rec} (hr:l[i]? =some r) (hi:¬ isOn ls i) (hb:∀ q,bef (masks ops.toList []) q i=true→isOn ls q)
   (hsl:axm (masks ops.toList []) ops l r=true):SR ν r.s a:=by
 intro k x hk;obtain⟨h1,_,h3,_,_,_⟩:=Rn.step i r hr;simp only[Nat.zero_add] at h1;rw[h3] at hk;obtain⟨g1,g2⟩:=pw hk;have hil:i<l.length:=(List.getElem?_eq_some_iff.1 hr).1;have hall:=List.all_eq_true.1 hsl k g1;have cond:∀ q rc,l[q]? =some rc→rc.o.dst=some k→(bef (masks ops.toList []) q i=true∧q<i)∨(bef (masks ops.toList []) i q=true∧i<q):=fun q rc hq hd=>by
   have:=List.all_eq_true.1 hall rc (List.mem_of_getElem? hq);rw[show(rc.o.dst==some k)=true by simpa using hd] at this
   obtain⟨e1,_⟩:=Rn.step q rc hq;simp only[Nat.zero_add] at e1;rw[e1,h1] at this;simpa[Nat.blt_eq] using this
 rcases axj Rn i (by omega) g2 with⟨q,rc,p1,p2,p3,p4⟩|⟨p1,p2⟩
 · subst p4
   rcases cond q rc p2 p3 with⟨c1,_⟩|⟨_,c2⟩
   · exact I.vals q rc k p2 (hb q c1) p3
   · omega
 · refine I.olds k x (fun q rc hq hon hd=> ?_) p2
   rcases cond q rc hq hd with⟨_,c2⟩|⟨c1,_⟩
   · exact p1 q rc c2 hq hd
   · exact hi (I.clos q i hon c1)
theorem Inv.next (I:Inv C base n0 N ops t l Hs ss ν0 w0 a0 ls a w ν pK) {i:Nat} {r:Rec} (hr:l[i]? =some r) (hi:¬ isOn ls i) (hil:i<ops.size) (hb:∀ q,bef (masks ops.toList []) q i=true→isOn ls q) (hds:tw l=true) (hN:∀ d,r.o.dst=some d→d<N)
   {v:Value} {w':World} {ν':Nm} {pK':Nat} (hle:ν.le ν') (hv:VR ν' r.d.val v) (pk:pK'≤l.length) (hno:∀ q,pK'≤q→q<l.length→(Hs pK').get (n0+q)=none) (kn:n0+l.length≤(Hs pK').n) (R:WR C base ν' (ov C l n0 (Hs pK')) (Hs pK').n w')
   (T:St ν0 t.H.get n0 w0 ν' (ov C l n0 (Hs pK')) (Hs pK').n w') (pend:∀ q r x b,l[q]? =some r→r.d= .mk x b→¬ isOn ls q→q≠i→ν' (n0+q)=none∧ov C l n0 (Hs pK') (n0+q)=mkOf C l q)
   (eff:∀ q r,l[q]? =some r→isEff r.d=true→((q=i∨isOn ls q)↔q<pK')):Inv C base n0 N ops t l Hs ss ν0 w0 a0 (ls.setIfInBounds i true) (a.put r.o.dst v) w' ν' pK':=by
 have hsz:i<ls.size:=by rw[I.lsz];exact hil
 have getD_ne:∀ k,r.o.dst≠some k→(a.put r.o.dst v).tmps.getD k undef=a.tmps.getD k undef:=fun k hk=>by
   cases hd:r.o.dst with
   |none=>rfl
   | some d=>
     rw[hd] at hk;have:d≠k:=fun e=>hk (by rw[e])
     simp[Act.put,Array.getD_eq_getD_getElem?,Array.getElem?_setIfInBounds_ne this]
 refine⟨by simp[I.lsz],pk,hno,kn,R,T,fun q r' x b h1 h2 h3=> ?_,fun p q h1 h2=> ?_,fun q r' h1 h2=> ?_,fun q r' d h1 h2 h3=> ?_,fun k x h1 h2=> ?_,by rw[ou];exact I.size,by rw[su];exact I.defs⟩
 · rw[s9 hsz] at h3
   exact pend q r' x b h1 h2 (fun h=>h3 (.inr h)) (fun h=>h3 (.inl h))
 · rw[s9 hsz] at h1 ⊢
   rcases h1 with rfl|h1
   · exact .inr (hb q h2)
   · exact .inr (I.clos p q h1 h2)
 · rw[s9 hsz];exact eff q r' h1 h2
 · rw[s9 hsz] at h2
   by_cases e:q=i
   · subst e
     rw[hr] at h1;cases h1;have hlt:d<a.tmps.size:=Nat.lt_of_lt_of_le (hN d h3) I.size;simpa[h3,Act.put,hlt] using hv
   · have hd:r.o.dst≠some d:=fun h=>e (aev hds q i r' r d h1 hr h3 h)
     rw[getD_ne d hd];exact(I.vals q r' d h1 (h2.resolve_left e) h3).mono hle
 · have hd:r.o.dst≠some k:=h1 i r hr ((s9 hsz).2 (.inl rfl))
   rw[getD_ne k hd];exact(I.olds k x (fun q r' g1 g2=>h1 q r' g1 ((s9 hsz).2 (.inr g2))) h2).mono hle
end
theorem put_lt {s s':Tr M} {d:Option Nat} {x:M} (h:putM N s d x=some s'):∀ k,d=some k→k<N:=fun k e=>by
 subst e;unfold putM at h;obtain⟨h1,_⟩:=and1 h;simpa[Nat.blt_eq] using h1
theorem aex {ls:Array Bool} {i:Nat} (hi:i<ls.size) (hn:¬ isOn ls i):∀ n,i<n→((List.range n).countP fun q=> !((ls.setIfInBounds i true)[q]? ==some true))+1=(List.range n).countP fun q=> !(ls[q]? ==some true)
 |0,h=>absurd h (Nat.not_lt_zero _)
 | n+1,h=>by
  have same:∀ q,q≠i→(!((ls.setIfInBounds i true)[q]? ==some true))= !(ls[q]? ==some true):=fun q hq=>by
    rw[Array.getElem?_setIfInBounds_ne (Ne.symm hq)]
  rw[List.range_succ,List.countP_append,List.countP_append,List.countP_singleton,List.countP_singleton];by_cases e:n=i
  · subst e
    have h1:(List.range n).countP (fun q=> !((ls.setIfInBounds n true)[q]? ==some true))=(List.range n).countP (fun q=> !(ls[q]? ==some true)):=by
     apply List.countP_congr;intro q hq;rw[same q (by have:=List.mem_range.1 hq;omega)]
    have h2:(ls.setIfInBounds n true)[n]? =some true:=by simp[hi]
    have h3:(ls[n]? ==some true)=false:=by simpa[isOn] using hn
    rw[h1,h2,h3];simp
  · have:=aex hi hn n (by omega)
    rw[same n e];omega
theorem aeu (l:List Rec) {i j:Nat} (h:i≤j):effs l i≤effs l j:=by
 unfold effs;exact List.Sublist.countP_le (List.take_sublist_take_left h)
theorem a4c {l:List Rec} {p:Nat}:∀ (k:Nat),p+k≤l.length→(∀ q rc,p≤q→q<p+k→l[q]? =some rc→isEff rc.d=false)→effs l (p+k)=effs l p
 |0,_,_=>rfl
 | k+1,hk,h=>by
  obtain⟨q,hq⟩:∃ q,l[p+k]? =some q:=⟨_,List.getElem?_eq_getElem (by omega)⟩
  rw[show p+(k+1)=p+k+1 by omega,me hq,h (p+k) q (by omega) (by omega) hq,a4c k (by omega) fun q rc h1 h2=>h q rc h1 (by omega)]
  rfl
theorem adw {r:List Oper} {t:S} {l:List Rec} {hs:List Hp} {e:S} {Hs:Nat→Hp} {ss:Nat→Tr M} (R:Ran C call n0 N ops r 0 0 t l hs e Hs ss):∀ (k p:Nat),p+k=l.length→∃ P,p≤P∧P≤l.length∧effs l P=effs l p∧hs[effs l p]? =some (Hs P)
 |0,p,h=>⟨p,Nat.le_refl _,by omega,rfl,by rw[show p=l.length by omega];exact R.hlast⟩
 | k+1,p,h=>by
  obtain⟨q,hq⟩:∃ q,l[p]? =some q:=⟨_,List.getElem?_eq_getElem (by omega)⟩
  cases hq':isEff q.d
  · obtain⟨P,h1,h2,h3,h4⟩:=adw R k (p+1) (by omega)
    have he:effs l (p+1)=effs l p:=by rw[me hq,hq'];rfl
    rw[he] at h3 h4;exact⟨P,by omega,h2,h3,h4⟩
  · exact⟨p,Nat.le_refl _,by omega,rfl,R.hat p q hq hq'⟩
theorem lw {m:List Nat} {l:List Rec} {r:Rec} {x:M}:∀ {hs:List Hp} {j:Nat},om C m l r x j hs=true→∀ (k:Nat) H,hs[k]? =some H→mayAt m l r (j+k)=true→evPure C H r.s r.o=some x
 | [],_,_,k,H,h,_=>by simp at h
 | H0::hs,j,h,k,H,hk,hm=>by
  simp only[om,Bool.and_eq_true] at h;cases k with
  | zero=>
   simp at hk;subst hk;rw[Nat.add_zero] at hm;have:=h.1;rw[hm] at this;simp only[cond_true] at this;split at this
   · rename_i y hy;rw[hy,M.beq_eq this]
   · cases this
  |succ k=>exact lw h.2 k H (by simpa using hk) (by rw[show j+1+k=j+(k+1) by omega];exact hm)
theorem aww (hM:MethOk C) (hC:uh C call) (R0:WR C base ν0 t.H.get n0 w0) (Rn:Ran C call n0 N ops ops.toList 0 0 ⟨t.s,⟨n0+ops.size,t.H.t⟩⟩ l hs e Hs ss) (hback:ue 0 ops.toList=true) (hds:tw l=true) (hrec:∀ r∈l,recOk C (masks ops.toList []) ops l hs r=true) {Q:Exit→Act→World→Prop}
  (hQ:∀ a' w' ν',WR C base ν' e.H.get e.H.n w'→SR ν' e.s a'→N≤a'.tmps.size→a'.defers=a0.defers→St ν0 t.H.get n0 w0 ν' e.H.get e.H.n w'→Q .normal a' w'):
  ∀ (fuel:Nat) (ls:Array Bool) (a:Act) (w:World) (ν:Nm) (pK:Nat),((List.range ops.size).countP fun q=> !(ls[q]? ==some true))≤fuel→Inv C base n0 N ops t l Hs ss ν0 w0 a0 ls a w ν pK→wpAny C.P .any ops Q fuel ls a w:=by
 have hlen:l.length=ops.size:=by rw[Rn.len];simp
 have done:∀ (ls:Array Bool) (a:Act) (w:World) (ν:Nm) (pK:Nat),Inv C base n0 N ops t l Hs ss ν0 w0 a0 ls a w ν pK→Region.ready .any ops ls=[]→Q .normal a w:=fun ls a w ν pK I hr=>by
  have hall:=all_on I.lsz hback hr;have heff:effs l (pK+(l.length-pK))=effs l pK:=by
    unfold effs;rw[show pK+(l.length-pK)=l.length by have:=I.pk;omega,List.take_length]
    conv=>lhs;rw[← List.take_append_drop pK l]
    rw[List.countP_append];have:(l.drop pK).countP (fun q=>isEff q.d)=0:=by
      rw[List.countP_eq_zero];intro q hq;obtain⟨j,hj⟩:=List.getElem?_of_mem hq;rw[List.getElem?_drop] at hj;have hlt:=(List.getElem?_eq_some_iff.1 hj).1;intro he;have:=(I.eff (pK+j) q hj he).1 (hall _ (by omega))
      omega
    omega
  obtain⟨g1,g2⟩:=seg Rn I.hno (l.length-pK) (by have:=I.pk;omega) heff
  rw[show pK+(l.length-pK)=l.length by have:=I.pk;omega] at g1 g2
  have hfin:e=⟨ss l.length,Hs l.length⟩:=by rw[Rn.fin,Rn.len]
  have hsub:∀ b o,(Hs l.length).get b=some o→ov C l n0 (Hs pK) b=some o:=fun b o h=>by
    rw[g2 b] at h;cases hk:(Hs pK).get b with
    |some o'=>rw[hk] at h;rw[dy hk];exact h
    | none=>
      rw[hk] at h;simp only at h;split at h
      · rename_i hc;rw[gj hk,if_pos (by omega)];exact h
      · cases h
  have low:∀ b,b<n0→(Hs l.length).get b=ov C l n0 (Hs pK) b:=fun b hb=>by
    rw[g2 b];cases hk:(Hs pK).get b with
    |some o'=>rw[dy hk]
    |none=>rw[gj hk,if_neg (by omega)];simp only;rw[if_neg (by omega)]
  rw[hfin] at hQ;refine hQ a w ν ?_ ?_ I.size I.defs ?_
  · simp only
    rw[g1];exact I.R.sub hsub
  · intro k x hk
    simp only at hk;rcases axj Rn l.length (Nat.le_refl _) hk with⟨q,rc,p1,p2,p3,p4⟩|⟨p1,p2⟩
    · subst p4;exact I.vals q rc k p2 (hall q (by omega)) p3
    · exact I.olds k x (fun q rc h1 _=>p1 q rc ((List.getElem?_eq_some_iff.1 h1).1) h1) p2
  · simp only
    rw[g1];exact⟨I.T.num,I.T.old,fun b hb ⟨o,h1,h2⟩=>I.T.liv b hb ⟨o,by rw[← low b hb];exact h1,h2⟩,fun b hb h=>by rw[low b hb];exact I.T.has b hb h,fun b hb h=>by rw[low b hb];exact I.T.same b hb h,fun b hb h=>by rw[low b hb];exact I.T.non b hb h,I.T.new,I.T.size,I.T.keep,I.T.rest⟩
 intro fuel
 induction fuel with
 | zero=>
  intro ls a w ν pK hc I;have hr:Region.ready .any ops ls=[]:=by
    cases h:Region.ready .any ops ls with
    |nil=>rfl
    | cons i rest=>
      have hi:i∈Region.ready .any ops ls:=by rw[h];exact List.mem_cons_self
      obtain⟨h1,h2,_⟩:=ready_spec I.lsz hi;have h3:=List.countP_eq_zero.1 (Nat.le_zero.1 hc) i (List.mem_range.2 h1);exact absurd (by simpa using h3) h2
  exact⟨hr,done ls a w ν pK I hr⟩
 | succ fuel ih=>
  intro ls a w ν pK hc I;refine⟨done ls a w ν pK I,fun i hi=> ?_⟩
  obtain⟨h1,h2,o,ho,h3⟩:=ready_spec I.lsz hi;have hil:i<l.length:=by omega
  obtain⟨r,hr⟩:∃ r,l[i]? =some r:=⟨_,List.getElem?_eq_getElem hil⟩
  obtain⟨s1,s2,s3,s4,s5,s6⟩:=Rn.step i r hr;simp only[Nat.zero_add] at s1 s4 s6;have hro:r.o=o:=by
    have:ops[i]? =some r.o:=by simpa using s2
    rw[ho] at this;exact(Option.some.inj this).symm
  have hb:∀ q,bef (masks ops.toList []) q i=true→isOn ls q:=fun q hq=>by
    obtain⟨ed,e1,e2,e3⟩:=bef_edge ho hq;have hon:=h3 ed e1 e2;rcases e3 with rfl|e3
    · exact hon
    · exact I.clos _ q hon e3
  have hrk:=hrec r (List.mem_of_getElem? hr);unfold recOk at hrk;simp only[Bool.and_eq_true] at hrk;obtain⟨⟨hsl,hpair⟩,hstg⟩:=hrk;have S:=I.slots Rn hr h2 hb hsl;have hcnt:=aex (ls:=ls) (i:=i) (by rw[I.lsz];exact h1) h2 ops.size h1
  have go:∀ (a':Act) (w':World) (ν':Nm) (pK':Nat),Inv C base n0 N ops t l Hs ss ν0 w0 a0 (ls.setIfInBounds i true) a' w' ν' pK'→wpAny C.P .any ops Q fuel (ls.setIfInBounds i true) a' w':=fun a' w' ν' pK' I'=>ih _ a' w' ν' pK' (by omega) I'
  have lt:=put_lt s5;have hwant:∀ {b},wantM ops r.s r.o=some b→Region.wanted o (yielded ops a.tmps)=b:=fun {b} hw=>by
    rw[← hro];exact aw7 (ν:=ν) (fun j want d hg hd x hx=>S d x hx) hw
  have stay:∀ (v:Value) (w':World) (ν':Nm),ν.le ν'→VR ν' r.d.val v→isEff r.d=false→WR C base ν' (ov C l n0 (Hs pK)) (Hs pK).n w'→St ν0 t.H.get n0 w0 ν' (ov C l n0 (Hs pK)) (Hs pK).n w'→
      (∀ q r x b,l[q]? =some r→r.d= .mk x b→¬ isOn ls q→q≠i→ν' (n0+q)=none∧ov C l n0 (Hs pK) (n0+q)=mkOf C l q)→wpAny C.P .any ops Q fuel (ls.setIfInBounds i true) (a.put o.dst v) w':=fun v w' ν' hle hv hne R' T' hp=>by
    have:=I.next hr h2 h1 hb hds lt (pK':=pK) hle hv I.pk I.hno I.kn R' T' hp (fun q r' hq he=>by
      rw[← I.eff q r' hq he];constructor
      · rintro (rfl|h)
        · rw[hr] at hq;cases hq;rw[hne] at he;cases he
        · exact h
      · exact .inr)
    rw[hro] at this;exact go _ w' ν' pK this
  unfold wpOp;rw[ho];simp only;cases hd:r.d with
  | no=>
    rw[hd] at s4;obtain⟨e1,e2⟩:=did_no s4;rw[if_neg (by rw[hwant e1];simp)]
    exact stay undef w ν (fun b c h=>⟨h,rfl⟩) (by rw[hd];exact VR.tup' .nil) (by rw[hd];rfl) I.R I.T (fun q r x b g1 g2 g3 _=>I.pend q r x b g1 g2 g3)
  | pure x=>
    rw[hd] at s4;obtain⟨e1,e2,e3⟩:=aus s4;rw[if_pos (hwant e1)];left
    have key:∃ B:Hp,evPure C B r.s r.o=some x∧∀ b o,B.get b=some o→ov C l n0 (Hs pK) b=some o:=by
      obtain⟨P,p1,p2,p3,p4⟩:=adw Rn (l.length-pK) pK (by have:=I.pk;omega)
      have hm:mayAt (masks ops.toList []) l r (effs l pK)=true:=by
        unfold mayAt;rw[List.all_eq_true];intro q hq;obtain⟨k,hk⟩:=List.getElem?_of_mem hq;obtain⟨z1,_,_,_,_,z6⟩:=Rn.step k q hk;simp only[Nat.zero_add] at z1 z6;cases hqe:isEff q.d
        · rfl
        · have hiff:=I.eff k q hk hqe
          rw[z1,z6,s1];simp only[cond_true];cases hlt:Nat.blt (effs l k) (effs l pK)
          · simp only[cond_false,Bool.not_eq_true']
            have hge:¬ effs l k<effs l pK:=by rw[← Nat.blt_eq,hlt];simp
            cases hbq:bef (masks ops.toList []) k i
            · rfl
            · exfalso
              have hkp:=hiff.1 (hb k hbq);have h5:=me hk;rw[hqe] at h5;have h6:=aeu l (show k+1≤pK by omega)
              simp at h5;omega
          · simp only[cond_true,Bool.not_eq_true']
            have hlt:effs l k<effs l pK:=by rw[← Nat.blt_eq,hlt]
            cases hbq:bef (masks ops.toList []) i k
            · rfl
            · exfalso
              have hkp:k<pK:=Nat.lt_of_not_le fun hle=>by have:=aeu l hle;omega
              exact h2 (I.clos k i (hiff.2 hkp) hbq)
      rw[hd] at hstg;have hev:=lw hstg (effs l pK) (Hs P) p4 (by rw[Nat.zero_add];exact hm)
      obtain⟨g1,g2⟩:=seg Rn I.hno (P-pK) (by omega) (by rw[show pK+(P-pK)=P by omega];exact p3)
      rw[show pK+(P-pK)=P by omega] at g2
      refine⟨Hs P,hev,fun b o h=> ?_⟩
      rw[g2 b] at h;cases hk:(Hs pK).get b with
      |some o'=>rw[hk] at h;rw[dy hk];exact h
      | none=>
        rw[hk] at h;simp only at h;split at h
        · rename_i hc;rw[gj hk,if_pos (by omega)];exact h
        · cases h
    obtain⟨B,k1,k2⟩:=key;obtain⟨v,w',g1,g2,g3,g4⟩:=aen I.R (fun b o h _=>k2 b o h) S k1
    rw[hro] at g1;unfold Oper.wp;rw[g1];exact stay v w' ν (fun b c h=>⟨h,rfl⟩) (by rw[hd];exact g2) (by rw[hd];rfl) g3 (St.trans R0 I.T g4) (fun q r x b g1 g2 g3 _=>I.pend q r x b g1 g2 g3)
  | mk x b0=>
    rw[hd] at s4;obtain⟨ob,f,e1,e2,e3,e4,e5⟩:=did_mk s4;rw[if_pos (hwant e1)];left;obtain⟨w1,obj,v,ρ,g1,g2,g3,g4,g5,g6⟩:=a30 (w:=w) S e2;have hmk:mkOf C l i=some ob:=by simp[mkOf,hr,hd,e2]
    obtain⟨p1,p2⟩:=I.pend i r x b0 hr hd h2;rw[hmk] at p2;obtain⟨q1,q2⟩:=I.R.realize (b:=n0+i) (by have:=I.kn;omega) p1 p2 g2 g4
    have q3:=I.T.realize (b:=n0+i) (ρ:=(ρ,0)) (ob:=obj) (by omega) g2 g3
    rw[hro] at g1;unfold Oper.wp;rw[g1];refine stay v _ _ q2 ?_ (by rw[hd];rfl) q1 q3 (fun q r x b g1 g2 g3 g4=> ?_)
    · rw[hd,show(Did.mk x b0).val=x from rfl,e3]
      exact g6 _ _ (Nm.add_same _ _ _ _) (Nm.rm_same _ _ _ _)
    · obtain⟨z1,z2⟩:=I.pend q r x b g1 g2 g3
      exact⟨by rw[Nm.add_ne _ _ _ (by omega)];exact z1,z2⟩
  | eff x=>
    rw[hd] at s4;obtain⟨e1,e2⟩:=did_eff s4;rw[if_pos (hwant e1)];left;have hre:isEff r.d=true:=by rw[hd];rfl
    have hpi:pK≤i:=Nat.le_of_not_lt fun h=>h2 ((I.eff i r hr hre).2 h)
    have noeff:∀ q rc,pK≤q→q<i→l[q]? =some rc→isEff rc.d=false:=fun q rc q1 q2 q3=>by
      cases hqe:isEff rc.d
      · rfl
      · exfalso
        unfold pairOk at hpair;rw[hre] at hpair;simp only[cond_true] at hpair;have:=List.all_eq_true.1 hpair rc (List.mem_of_getElem? q3);obtain⟨z1,_⟩:=Rn.step q rc q3;simp only[Nat.zero_add] at z1;rw[hqe,z1,s1,show Nat.blt q i=true by simpa[Nat.blt_eq] using q2] at this
        simp only[Bool.and_self,cond_true] at this;have:=(I.eff q rc q3 hqe).1 (hb q this);omega
    obtain⟨g1,g2⟩:=seg Rn I.hno (i-pK) (by omega) (a4c (i-pK) (by omega) fun q rc q1 q2=>noeff q rc q1 (by omega))
    rw[show pK+(i-pK)=i by omega] at g1 g2
    have hsub:∀ b o,(Hs i).get b=some o→ov C l n0 (Hs pK) b=some o:=fun b o h=>by
      rw[g2 b] at h;cases hk:(Hs pK).get b with
      |some o'=>rw[hk] at h;rw[dy hk];exact h
      | none=>
        rw[hk] at h;simp only at h;split at h
        · rename_i hc;rw[gj hk,if_pos (by omega)];exact h
        · cases h
    have hkey:∀ b,(Hs i).get b=none→(Hs pK).get b=none:=fun b h=>by
      rw[g2 b] at h;cases hk:(Hs pK).get b with
      |some o'=>rw[hk] at h;cases h
      |none=>rfl
    have RB:WR C base ν (Hs i).get (Hs i).n w:=by rw[g1];exact I.R.sub hsub
    have:=aup (a:=a) hM hC RB S e2 (next:=wpAny C.P .any ops Q fuel (ls.setIfInBounds i true)) (Q:=Q) fun v w' ν' v1 v2 v3=>by
      rw[g1] at v3;obtain⟨f1,f2⟩:=effOv I.R I.kn hsub hkey v3 v2;refine go _ w' ν' (i+1) (I.next hr h2 h1 hb hds lt (v3.le (by rw[← g1];exact RB)) (by rw[hd];exact v1) (by omega) (fun q q1 q2=> ?_) (Nat.le_trans I.kn v3.num) f1 (St.trans R0 I.T f2) (fun q r' y b z1 z2 z3 z4=> ?_) (fun q r' q1 q2=> ?_))
      · refine v3.non (n0+q) (by have:=I.kn;omega) ?_
        rw[g2,I.hno q (by omega) q2]
        simp only;rw[if_neg (by omega)]
      · obtain⟨y1,y2⟩:=I.pend q r' y b z1 z2 z3
        have hlt:n0+q<(Hs pK).n:=by have:=I.kn;have:=(List.getElem?_eq_some_iff.1 z1).1;omega
        exact⟨by rw[(v3.old _ hlt).1];exact y1,by rw[f2.same _ hlt y1];exact y2⟩
      · constructor
        · rintro (rfl|h)
          · omega
          · have:=(I.eff q r' q1 q2).1 h;omega
        · intro h
          by_cases hq:q=i
          · exact .inl hq
          · right
            rw[I.eff q r' q1 q2];apply Classical.byContradiction;intro hc;have:=noeff q r' (by omega) (by omega) q1
            rw[q2] at this;cases this
    rw[hro] at this;exact this
end
