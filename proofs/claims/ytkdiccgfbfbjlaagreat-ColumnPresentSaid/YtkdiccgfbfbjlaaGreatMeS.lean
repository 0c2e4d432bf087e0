import Derived.Test.YtkdiccgfbfbjlaaGreatMeR
namespace Go.Me
open Go
variable [Gam]
set_option linter.unusedSectionVars false
set_option linter.unusedSimpArgs false
set_option linter.unusedVariables false
section
variable {C:Cfg} {base:Nat} {ν ν':Nm} {g:Gt} {n n0 N:Nat} {w w':World} {call:FuncId→List M→Hp→Option (M×Hp)} {ops:Array Oper}
theorem WR.realize (R:WR C base ν g n w) {b:Nat} {ρ:Nat×Nat} (hb:b<n) (hν:ν b=none) {o:Ob} (hg:g b=some o) {w1:World} (hw:w1.heap=w.heap) {ob:Obj} (ho:OR ν ρ o ob):WR C base (ν.add b w.heap.size ρ) g n (w1.alloc ob)∧ν.le (ν.add b w.heap.size ρ):=by
 have hle:ν.le (ν.add b w.heap.size ρ):=fun b' d h=>by
   have hne:b'≠b:=fun e=>by rw[e,hν] at h;cases h
   rw[Nm.add_ne _ _ _ hne,Nm.rm_ne _ _ _ hne];exact⟨h,rfl⟩
 have hsz:(w1.alloc ob).heap.size=w.heap.size+1:=by simp[hw]
 have hnew:(w1.alloc ob).heap[w.heap.size]? =some ob:=by simp[World.alloc,hw]
 have hold:∀ c',c'<w.heap.size→(w1.alloc ob).heap[c']? =w.heap[c']? :=fun c' h=>by
   simp only[World.alloc,hw];rw[Array.getElem?_push_lt h,Array.getElem?_eq_getElem h]
 refine⟨⟨fun b' d h=> ?_,fun b' q d h1 h2 h3=> ?_,fun b1 b2 d h1 h2 h3 h4=> ?_,fun k xs hk=> ?_,fun k xs hk=> ?_,by have:=R.big;omega,R.dom⟩,hle⟩
 · by_cases e:b'=b
   · subst e;rw[Nm.add_same] at h;cases h;exact⟨hb,R.big,by omega⟩
   · rw[Nm.add_ne _ _ _ e] at h;have:=R.lt b' d h;exact⟨this.1,this.2.1,by omega⟩
 · by_cases e:b'=b
   · subst e
     rw[Nm.add_same] at h3;cases h3;rw[hg] at h1;cases h1;rw[Nm.rm_same];exact⟨ob,hnew,ho.mono hle⟩
   · rw[Nm.add_ne _ _ _ e] at h3
     rw[Nm.rm_ne _ _ _ e];obtain⟨ob',h4,h5⟩:=R.ob b' q d h1 h2 h3;exact⟨ob',by rw[hold d (R.lt b' d h3).2.2];exact h4,h5.mono hle⟩
 · by_cases e1:b1=b<;>by_cases e2:b2=b
   · rw[e1,e2]
   · subst e1;rw[Nm.add_same] at h3;rw[Nm.add_ne _ _ _ e2] at h4;cases h3
     have:=(R.lt b2 _ h4).2.2;omega
   · subst e2;rw[Nm.add_ne _ _ _ e1] at h3;rw[Nm.add_same] at h4;cases h4
     have:=(R.lt b1 _ h3).2.2;omega
   · rw[Nm.add_ne _ _ _ e1] at h3;rw[Nm.add_ne _ _ _ e2] at h4
     exact R.inj b1 b2 d h1 h2 h3 h4
 · obtain⟨h1,vs,e,fr,h2,h3⟩:=R.gl k xs hk
   exact⟨h1,vs,e,fr,by rw[hold k (Nat.lt_of_lt_of_le h1 R.big)];exact h2,h3⟩
 · obtain⟨h1,vs,e,h2,hcv,h3⟩:=R.vg k xs hk
   exact⟨h1,vs,e,by rw[hold _ (Nat.lt_of_lt_of_le h1 R.big)];exact h2,hcv,h3⟩
theorem St.realize {ν0:Nm} {g0:Gt} {w0:World} (T:St ν0 g0 n0 w0 ν g n w) {b:Nat} {ρ:Nat×Nat} (hb:n0≤b) {w1:World} (hw:w1.heap=w.heap) (hr:w1.os=w.os∧w1.tape=w.tape∧w1.output=w.output) {ob:Obj}:St ν0 g0 n0 w0 (ν.add b w.heap.size ρ) g n (w1.alloc ob):=by
 have hsz:(w1.alloc ob).heap.size=w.heap.size+1:=by simp[hw]
 refine⟨T.num,fun b' h=> ?_,T.liv,T.has,T.same,T.non,fun b' c h1 h2=> ?_,by have:=T.size;omega,fun c h1 h2=> ?_,?_⟩
 · rw[Nm.add_ne _ _ _ (by omega),Nm.rm_ne _ _ _ (by omega)];exact T.old b' h
 · by_cases e:b'=b
   · subst e;rw[Nm.add_same] at h2;cases h2;exact .inl T.size
   · rw[Nm.add_ne _ _ _ e] at h2;exact T.new b' c h1 h2
 · rw[← T.keep c h1 h2]
   simp only[World.alloc,hw];have hlt:c<w.heap.size:=Nat.lt_of_lt_of_le h1 T.size;rw[Array.getElem?_push_lt hlt,Array.getElem?_eq_getElem hlt]
 · obtain⟨r1,r2,r3⟩:=T.rest
   obtain⟨q1,q2,q3⟩:=hr;exact⟨q1.trans r1,q2.trans r2,q3.trans r3⟩
theorem mkOf_lt {l:List Rec} {k:Nat} {o:Ob} (h:mkOf C l k=some o):k<l.length:=by
 unfold mkOf at h;split at h
 · rename_i q hq;exact(List.getElem?_eq_some_iff.1 hq).1
 · cases h
theorem effOv {l:List Rec} {K B K':Hp} (R:WR C base ν (ov C l n0 K) n w) (hn:n0+l.length≤n) (hsub:∀ b o,B.get b=some o→ov C l n0 K b=some o) (hkey:∀ b,B.get b=none→K.get b=none) (T:St ν B.get n w ν' K'.get K'.n w') (R':WR C base ν' K'.get K'.n w'):
   WR C base ν' (ov C l n0 K') K'.n w'∧St ν (ov C l n0 K) n w ν' (ov C l n0 K') K'.n w':=by
 have late:∀ b o,K'.get b=none→ov C l n0 K' b=some o→n0≤b∧mkOf C l (b-n0)=some o∧b<n:=fun b o h1 h2=>by
   rw[f7 h1] at h2;split at h2
   · rename_i hb;exact⟨hb,h2,by have:=mkOf_lt h2;omega⟩
   · cases h2
 have gone:∀ b,b<n→K'.get b=none→B.get b=none:=fun b hb h=>Classical.byContradiction fun hc=>T.has b hb hc h
 have ovK:∀ b,b<n→K'.get b=none→ov C l n0 K b=ov C l n0 K' b:=fun b hb h=>by
   rw[f7 h,f7 (hkey b (gone b hb h))]
 have liveB:∀ b,cy B.get b→cy (ov C l n0 K) b:=fun b ⟨o,h1,h2⟩=>⟨o,hsub b o h1,h2⟩
 refine⟨⟨R'.lt,fun b o c h1 h2 h3=> ?_,fun b1 b2 c h1 h2 h3 h4=> ?_,R'.gl,R'.vg,R'.big,fun b o h=> ?_⟩,⟨T.num,T.old,fun b hb h=> ?_,fun b hb h=> ?_,fun b hb h=> ?_,fun b hb h=> ?_,fun b c h1 h2=> ?_,T.size,fun c h1 h2=>T.keep c h1 fun b hb=>h2 b (liveB b hb),T.rest⟩⟩
 · cases hk:K'.get b with
   |some o'=>rw[dq hk] at h1;cases h1;exact R'.ob b o c hk h2 h3
   | none=>
     obtain⟨g1,g2,g3⟩:=late b o hk h1;obtain⟨g4,g5⟩:=T.old b g3;rw[g4] at h3;have h1':ov C l n0 K b=some o:=by rw[ovK b g3 hk];exact h1
     obtain⟨ob,g6,g7⟩:=R.ob b o c h1' h2 h3;refine⟨ob,?_,by rw[g5];exact g7.mono fun b' c' h=>by obtain⟨q1,q2⟩:=T.old b' (R.lt b' c' h).1;exact⟨q1.trans h,q2⟩⟩
     rw[T.keep c (R.lt b c h3).2.2 fun b1 hb1 hc=> ?_]
     · exact g6
     · have:=R.inj b1 b c (liveB b1 hb1) ⟨o,h1',h2⟩ hc h3
       subst this;obtain⟨o',p1,_⟩:=hb1;rw[gone b1 g3 hk] at p1;cases p1
 · obtain⟨o1,p1,p2⟩:=h1
   obtain⟨o2,p3,p4⟩:=h2;have mixed:∀ {b1 b2:Nat} {o1 o2:Ob},K'.get b1=some o1→o1.live=true→K'.get b2=none→ov C l n0 K' b2=some o2→o2.live=true→ν' b1=some c→ν' b2=some c→False:=fun {b1 b2 o1 o2} q1 q2 q3 q4 q5 q6 q7=>by
     obtain⟨g1,g2,g3⟩:=late b2 o2 q3 q4;have h2:ov C l n0 K b2=some o2:=by rw[ovK b2 g3 q3];exact q4
     have v2:ν b2=some c:=by rw[← (T.old b2 g3).1];exact q7
     have key:∀ b0,cy B.get b0→ν b0=some c→False:=fun b0 hb0 hv=>by
       have:=R.inj b0 b2 c (liveB b0 hb0) ⟨o2,h2,q5⟩ hv v2;subst this;obtain⟨o',p1,_⟩:=hb0;rw[gone b0 g3 q3] at p1;cases p1
     by_cases hb:b1<n
     · exact key b1 (T.liv b1 hb ⟨o1,q1,q2⟩) (by rw[← (T.old b1 hb).1];exact q6)
     · rcases T.new b1 c (by omega) q6 with h|⟨b0,h5,h6⟩
       · have:=(R.lt b2 c v2).2.2;omega
       · exact key b0 h5 h6
   cases k1:K'.get b1 with
   | some o1'=>
     rw[dq k1] at p1;cases p1;cases k2:K'.get b2 with
     |some o2'=>rw[dq k2] at p3;cases p3;exact R'.inj b1 b2 c ⟨o1,k1,p2⟩ ⟨o2,k2,p4⟩ h3 h4
     |none=>exact(mixed k1 p2 k2 p3 p4 h3 h4).elim
   | none=>
     cases k2:K'.get b2 with
     |some o2'=>rw[dq k2] at p3;cases p3;exact(mixed k2 p4 k1 p1 p2 h4 h3).elim
     | none=>
       obtain⟨_,_,g3⟩:=late b1 o1 k1 p1;obtain⟨_,_,g3'⟩:=late b2 o2 k2 p3;exact R.inj b1 b2 c ⟨o1,by rw[ovK b1 g3 k1];exact p1,p2⟩ ⟨o2,by rw[ovK b2 g3' k2];exact p3,p4⟩ (by rw[← (T.old b1 g3).1];exact h3) (by rw[← (T.old b2 g3').1];exact h4)
 · cases hk:K'.get b with
   |some o'=>exact R'.dom b o' hk
   |none=>have:=(late b o hk h).2.2;exact Nat.lt_of_lt_of_le this T.num
 · obtain⟨o,h1,h2⟩:=h
   cases hk:K'.get b with
   |some o'=>rw[dq hk] at h1;cases h1;exact liveB b (T.liv b hb ⟨o,hk,h2⟩)
   |none=>exact⟨o,by rw[ovK b hb hk];exact h1,h2⟩
 · cases hk:K'.get b with
   |some o'=>rw[dq hk];simp
   |none=>rw[← ovK b hb hk];exact h
 · cases hk:K'.get b with
   | some o'=>
     rw[dq hk];have:=T.same b hb h;rw[hk] at this;exact(hsub b o' this.symm).symm
   |none=>exact(ovK b hb hk).symm
 · cases hk:K'.get b with
   | some o'=>
     have hB:B.get b≠none:=fun hc=>by have:=T.non b hb hc;rw[hk] at this;cases this
     cases hB':B.get b with
     |none=>exact absurd hB' hB
     |some o=>rw[hsub b o hB'] at h;cases h
   |none=>rw[← ovK b hb hk];exact h
 · rcases T.new b c h1 h2 with h|⟨b0,h3,h4⟩
   · exact .inl h
   · exact .inr ⟨b0,liveB b0 h3,h4⟩
theorem asl {r:List Oper} {t:S} {l:List Rec} {hs:List Hp} {e:S} {Hs:Nat→Hp} {ss:Nat→Tr M} (R:Ran C call n0 N ops r 0 0 t l hs e Hs ss) {k:Nat} {x:M}:∀ (i:Nat),i≤l.length→(ss i).get k=some x→
  (∃ q rc,q<i∧l[q]? =some rc∧rc.o.dst=some k∧rc.d.val=x)∨((∀ q rc,q<i→l[q]? =some rc→rc.o.dst≠some k)∧(ss 0).get k=some x)
 |0,_,h=> .inr ⟨fun q rc h=>absurd h (by omega),h⟩
 | i+1,hi,h=>by
  obtain⟨q,hq⟩:∃ q,l[i]? =some q:=⟨_,List.getElem?_eq_getElem (by omega)⟩
  obtain⟨_,_,_,_,h5,_⟩:=R.step i q hq;have rec':(ss i).get k=some x→q.o.dst≠some k→(∃ q rc,q<i+1∧l[q]? =some rc∧rc.o.dst=some k∧rc.d.val=x)∨((∀ q rc,q<i+1→l[q]? =some rc→rc.o.dst≠some k)∧(ss 0).get k=some x):=fun h1 h2=>by
    rcases asl R i (by omega) h1 with⟨p,rc,g1,g2,g3,g4⟩|⟨g1,g2⟩
    · exact .inl ⟨p,rc,by omega,g2,g3,g4⟩
    · refine .inr ⟨fun p rc hp hrc=> ?_,g2⟩
      by_cases e:p=i
      · subst e;rw[hq] at hrc;cases hrc;exact h2
      · exact g1 p rc (by omega) hrc
  unfold putM at h5;split at h5
  · rename_i hd
    have h5:=Option.some.inj h5;rw[← h5] at h;exact rec' h (by rw[hd];simp)
  · rename_i d hd
    obtain⟨_,h6⟩:=and1 h5;have h6:=Option.some.inj h6;rw[← h6,Tr.get_put] at h;split at h
    · rename_i e
      cases h;subst e;exact .inl ⟨i,q,by omega,hq,hd,rfl⟩
    · rename_i e
      exact rec' h (by rw[hd];simp;omega)
theorem aa6:∀ {l:List Rec},ql l=true→∀ (i j:Nat) r q d,l[i]? =some r→l[j]? =some q→r.o.dst=some d→q.o.dst=some d→i=j
 | [],_,i,j,r,q,d,h,_,_,_=>by simp at h
 | p::l,h,i,j,r,q,d,hr,hq,h1,h2=>by
  simp only[ql,Bool.and_eq_true] at h;obtain⟨ha,hb⟩:=h;have first:∀ (j:Nat) q,l[j]? =some q→p.o.dst=some d→q.o.dst≠some d:=fun j q hq hp he=>by
   rw[hp] at ha;have:=List.all_eq_true.1 ha q (List.mem_of_getElem? hq);rw[he] at this;simp at this
  cases i with
  | zero=>
   cases j with
   |zero=>rfl
   |succ j=>simp at hr hq;subst hr;exact absurd h2 (first j q hq h1)
  | succ i=>
   cases j with
   |zero=>simp at hr hq;subst hq;exact absurd h1 (first i r hr h2)
   |succ j=>simp at hr hq;rw[aa6 hb i j r q d hr hq h1 h2]
end
