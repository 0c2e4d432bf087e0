import Derived.Test.YtplmdlobbfcknaaGreatDoorMeZ
namespace Go.Me
open Go Go.RowKit
variable [Gam]
set_option linter.unusedSectionVars false
set_option linter.unusedSimpArgs false
set_option linter.unusedVariables false
def azp (a b:Option M):Bool:=match a,b with
 |some x,some y=>M.beq x y
 |none,none=>true
 |_,_=>false
def trBeq:Tr M→Tr M→Bool
 | .lf,.lf=>true
 | .nd l v r,.nd l' v' r'=>trBeq l l'&&azp v v'&&trBeq r r'
 |_,_=>false
def apz:List (M×M×Nat)→List (M×M×Nat)→Bool
 | [],[]=>true
 | (a,b,c)::l,(a',b',c')::l'=>M.beq a a'&&M.beq b b'&&c==c'&&apz l l'
 |_,_=>false
def Ob.beq:Ob→Ob→Bool
 | .cells n e d t,.cells n' e' d' t'=>n==n'&&e==e'&&M.beq d d'&&trBeq t t'
 | .map es c,.map es' c'=>apz es es'&&c==c'
 | .dead,.dead=>true
 |_,_=>false
theorem azo {a b:Option M} (h:azp a b=true):a=b:=by
 unfold azp at h;split at h
 · rw[M.beq_eq h]
 · rfl
 · cases h
theorem vv:∀ {s t:Tr M},trBeq s t=true→s=t
 | .lf,.lf,_=>rfl
 | .nd l v r,.nd l' v' r',h=>by
  simp only[trBeq,Bool.and_eq_true] at h;rw[vv h.1.1,azo h.1.2,vv h.2]
 | .lf,.nd _ _ _,h=>by cases h
 | .nd _ _ _,.lf,h=>by cases h
theorem aef:∀ {l m:List (M×M×Nat)},apz l m=true→l=m
 | [],[],_=>rfl
 | (a,b,c)::l,(a',b',c')::l',h=>by
  simp only[apz,Bool.and_eq_true,beq_iff_eq] at h;obtain⟨⟨⟨h1,h2⟩,h3⟩,h4⟩:=h;rw[M.beq_eq h1,M.beq_eq h2,h3,aef h4]
 | [],_::_,h=>by cases h
 |_::_,[],h=>by cases h
theorem Ob.beq_eq {a b:Ob} (h:Ob.beq a b=true):a=b:=by
 cases a<;>cases b<;>simp only[Ob.beq,Bool.and_eq_true,beq_iff_eq,Bool.false_eq_true] at h<;>first|rfl|cases h
 · rename_i h1 h2;obtain⟨⟨rfl,rfl⟩,h1⟩:=h1;rw[M.beq_eq h1,vv h2]
 · rename_i h1 h2;rw[aef h1,h2]
def over (A K:Gt) (n:Nat):Gt:=fun b=>match K b with
 |some o=>some o
 |none=>if b<n then A b else none
theorem dq {A K:Gt} {n b:Nat} {o:Ob} (h:K b=some o):over A K n b=some o:=by simp[over,h]
theorem i6 {A K:Gt} {n b:Nat} (h:K b=none):over A K n b=if b<n then A b else none:=by simp[over,h]
section
variable {C:Cfg} {base:Nat} {ν ν':Nm} {A B K:Gt} {n n':Nat} {w w':World}
theorem frame (R:WR C base ν A n w) (hsub:∀ b o,B b=some o→A b=some o) (R':WR C base ν' K n' w') (T:St ν B n w ν' K n' w'):WR C base ν' (over A K n) n' w'∧St ν A n w ν' (over A K n) n' w':=by
 have late:∀ b o,K b=none→over A K n b=some o→b<n∧A b=some o:=fun b o h1 h2=>by
   rw[i6 h1] at h2;split at h2
   · rename_i hb;exact⟨hb,h2⟩
   · cases h2
 have gone:∀ b,b<n→K b=none→B b=none:=fun b hb h=>Classical.byContradiction fun hc=>T.has b hb hc h
 have liveB:∀ b,c9 B b→c9 A b:=fun b ⟨o,h1,h2⟩=>⟨o,hsub b o h1,h2⟩
 refine⟨⟨R'.lt,fun b o c h1 h2 h3=> ?_,fun b1 b2 c h1 h2 h3 h4=> ?_,R'.gl,R'.vg,R'.big,fun b o h=> ?_⟩,⟨T.num,T.old,fun b hb h=> ?_,fun b hb h=> ?_,fun b hb h=> ?_,fun b hb h=> ?_,fun b c h1 h2=> ?_,T.size,fun c h1 h2=>T.keep c h1 fun b hb=>h2 b (liveB b hb),T.rest⟩⟩
 · cases hk:K b with
   |some o'=>rw[dq hk] at h1;cases h1;exact R'.ob b o c hk h2 h3
   | none=>
     obtain⟨g3,h1'⟩:=late b o hk h1;obtain⟨g4,g5⟩:=T.old b g3;rw[g4] at h3;obtain⟨ob,g6,g7⟩:=R.ob b o c h1' h2 h3;refine⟨ob,?_,by rw[g5];exact g7.mono fun b' c' h=>by obtain⟨q1,q2⟩:=T.old b' (R.lt b' c' h).1;exact⟨q1.trans h,q2⟩⟩
     rw[T.keep c (R.lt b c h3).2.2 fun b1 hb1 hc=> ?_]
     · exact g6
     · have:=R.inj b1 b c (liveB b1 hb1) ⟨o,h1',h2⟩ hc h3
       subst this;obtain⟨o',p1,_⟩:=hb1;rw[gone b1 g3 hk] at p1;cases p1
 · obtain⟨o1,p1,p2⟩:=h1
   obtain⟨o2,p3,p4⟩:=h2;have mixed:∀ {b1 b2:Nat} {o1 o2:Ob},K b1=some o1→o1.live=true→K b2=none→over A K n b2=some o2→o2.live=true→ν' b1=some c→ν' b2=some c→False:=fun {b1 b2 o1 o2} q1 q2 q3 q4 q5 q6 q7=>by
     obtain⟨g3,h2⟩:=late b2 o2 q3 q4;have v2:ν b2=some c:=by rw[← (T.old b2 g3).1];exact q7
     have key:∀ b0,c9 B b0→ν b0=some c→False:=fun b0 hb0 hv=>by
       have:=R.inj b0 b2 c (liveB b0 hb0) ⟨o2,h2,q5⟩ hv v2;subst this;obtain⟨o',p1,_⟩:=hb0;rw[gone b0 g3 q3] at p1;cases p1
     by_cases hb:b1<n
     · exact key b1 (T.liv b1 hb ⟨o1,q1,q2⟩) (by rw[← (T.old b1 hb).1];exact q6)
     · rcases T.new b1 c (by omega) q6 with h|⟨b0,h5,h6⟩
       · have:=(R.lt b2 c v2).2.2;omega
       · exact key b0 h5 h6
   cases k1:K b1 with
   | some o1'=>
     rw[dq k1] at p1;cases p1;cases k2:K b2 with
     |some o2'=>rw[dq k2] at p3;cases p3;exact R'.inj b1 b2 c ⟨o1,k1,p2⟩ ⟨o2,k2,p4⟩ h3 h4
     |none=>exact(mixed k1 p2 k2 p3 p4 h3 h4).elim
   | none=>
     cases k2:K b2 with
     |some o2'=>rw[dq k2] at p3;cases p3;exact(mixed k2 p4 k1 p1 p2 h4 h3).elim
     | none=>
       obtain⟨g1,q1⟩:=late b1 o1 k1 p1;obtain⟨g2,q2⟩:=late b2 o2 k2 p3;exact R.inj b1 b2 c ⟨o1,q1,p2⟩ ⟨o2,q2,p4⟩ (by rw[← (T.old b1 g1).1];exact h3) (by rw[← (T.old b2 g2).1];exact h4)
 · cases hk:K b with
   |some o'=>exact R'.dom b o' hk
   |none=>have:=(late b o hk h).1;have:=T.num;omega
 · cases hk:K b with
   | some o'=>
     obtain⟨o,h1,h2⟩:=h;rw[dq hk] at h1;cases h1;exact liveB b (T.liv b hb ⟨o',hk,h2⟩)
   | none=>
     obtain⟨o,h1,h2⟩:=h;exact⟨o,(late b o hk h1).2,h2⟩
 · cases hk:K b with
   |some o'=>rw[dq hk];simp
   |none=>rw[i6 hk,if_pos hb];exact h
 · cases hk:K b with
   | some o'=>
     have:=T.same b hb h;rw[hk] at this;rw[dq hk,hsub b o' this.symm]
   |none=>rw[i6 hk,if_pos hb]
 · cases hk:K b with
   | some o'=>
     have:B b=none:=by
       cases hB:B b with
       |none=>rfl
       |some o=>rw[hsub b o hB] at h;cases h
     rw[T.non b hb this] at hk;cases hk
   |none=>rw[i6 hk,if_pos hb];exact h
 · rcases T.new b c h1 h2 with h|⟨b0,h3,h4⟩
   · exact .inl h
   · exact .inr ⟨b0,liveB b0 h3,h4⟩
theorem drop {g g':Gt} (R:WR C base ν' g n' w') (T:St ν A n w ν' g n' w') (hlow:∀ b,b<n→g' b=g b) (hsub:∀ b o,g' b=some o→g b=some o):WR C base ν' g' n' w'∧St ν A n w ν' g' n' w':=
 ⟨R.sub hsub,⟨T.num,T.old,fun b hb ⟨o,h1,h2⟩=>T.liv b hb ⟨o,by rw[← hlow b hb];exact h1,h2⟩,fun b hb h=>by rw[hlow b hb];exact T.has b hb h,fun b hb h=>by rw[hlow b hb];exact T.same b hb h,fun b hb h=>by rw[hlow b hb];exact T.non b hb h,T.new,T.size,T.keep,T.rest⟩⟩
end
structure Ent where
 args:List M
 n:Nat
 B:List (Nat×Ob)
 x:M
 n':Nat
 R:List (Nat×Ob)
def puts (l:List (Nat×Ob)) (t:Tr Ob):Tr Ob:=l.foldr (fun p t=>t.put p.1 p.2) t
theorem pw (t:Tr Ob) (b:Nat):∀ l:List (Nat×Ob),(puts l t).get b=(match l.find? (fun p=>p.1==b) with
  |some p=>some p.2
  |none=>t.get b)
 | []=>rfl
 | p::l=>by
  show((puts l t).put p.1 p.2).get b=_;rw[Tr.get_put,pw t b l,List.find?_cons];by_cases e:b=p.1
  · subst e;simp
  · rw[if_neg e]
    have:(p.1==b)=false:=by simpa using fun h=>e h.symm
    rw[this]
def apm (H:Hp) (l:List (Nat×Ob)):Bool:=l.all fun p=>match H.get p.1 with
 |some o=>Ob.beq o p.2
 |none=>false
theorem lz {H:Hp} {l:List (Nat×Ob)} (h:apm H l=true) {b:Nat} {p:Nat×Ob} (hp:l.find? (fun p=>p.1==b)=some p):H.get b=some p.2:=by
 have h1:=List.find?_some hp;have h2:=List.all_eq_true.1 h p (List.mem_of_find?_eq_some hp);have h1:p.1=b:=by simpa using h1
 subst h1;split at h2
 · rename_i o ho;rw[ho,Ob.beq_eq h2]
 · cases h2
def ranOk (C:Cfg) (k:Nat) (f:FuncId) (E:Ent):Bool:=match evF C k f E.args ⟨E.n,puts E.B .lf⟩ with
 |some (x,H1)=>M.beq x E.x&&H1.n==E.n'&&apm H1 E.R&&E.B.all fun p=>E.R.any fun q=>q.1==p.1
 |none=>false
def xMemo (E:Ent):List M→Hp→Option (M×Hp):=fun args H=>bif M.beqs args E.args&&H.n==E.n&&apm H E.B then some (E.x,⟨E.n',puts E.R H.t⟩) else none
theorem WR.cfg {C C':Cfg} {base:Nat} {ν:Nm} {g:Gt} {n:Nat} {w:World} (R:WR C base ν g n w) (h:C'.gobj=C.gobj) (h2:C'.vobj=C.vobj):WR C' base ν g n w:=⟨R.lt,R.ob,R.inj,by rw[h];exact R.gl,by rw[h2];exact R.vg,R.big,R.dom⟩
theorem ExtOne.cfg {C C':Cfg} {f:FuncId} {g:List M→Hp→Option (M×Hp)} (h:ExtOne C f g) (hP:C'.P=C.P) (hg:C'.gobj=C.gobj) (hw:C'.vobj=C.vobj):ExtOne C' f g:=fun args H x H' e base ν w vs R hv=>by
 rcases h args H x H' e base ν w vs (R.cfg hg.symm hw.symm) hv with⟨v,w',ν',h1,h2,h3,h4⟩|⟨h1,h2⟩
 · exact .inl ⟨v,w',ν',by rw[hP];exact h1,h2,h3.cfg hg hw,h4⟩
 · refine .inr ⟨by rw[hP];exact h1,?_⟩
   rw[hP];exact h2.mono fun e w' ⟨v,ν',e1,e2,e3,e4⟩=>⟨v,ν',e1,e2,e3.cfg hg hw,e4⟩
theorem azv {C C':Cfg} {k:Nat} {f:FuncId} {E:Ent} (hC:ni C (evF C k)) (hP:C'.P=C.P) (hg:C'.gobj=C.gobj) (h:ranOk C k f E=true) (hw:C'.vobj=C.vobj:=by rfl):ExtOne C' f (xMemo E):=by
 intro args H x H' he base ν w vs R hv;unfold xMemo at he;cases hq:(M.beqs args E.args&&H.n==E.n&&apm H E.B)
 · rw[hq] at he;cases he
 · rw[hq] at he
   cases he;simp only[Bool.and_eq_true,beq_iff_eq] at hq;obtain⟨⟨q1,q2⟩,q3⟩:=hq;unfold ranOk at h;split at h
   · rename_i x1 H1 hev
     simp only[Bool.and_eq_true,beq_iff_eq] at h;obtain⟨⟨⟨h1,h2⟩,h3⟩,h4⟩:=h;rw[← M.beq_eq h1,← h2];rw[M.beqs_eq q1] at hv;have hB:∀ b o,(Hp.get ⟨E.n,puts E.B .lf⟩ b)=some o→H.get b=some o:=fun b o ho=>by
       have ho:(puts E.B .lf).get b=some o:=ho;rw[pw] at ho;split at ho
       · rename_i p hp;cases ho;exact lz q3 hp
       · cases ho
     have RB:WR C base ν (Hp.get ⟨E.n,puts E.B .lf⟩) E.n w:=by
       have:=(R.cfg (C':=C) hg.symm hw.symm).sub hB;rw[q2] at this;exact this
     have fin:∀ {v:Value} {w':World} {ν':Nm},WR C base ν' H1.get H1.n w'→St ν (Hp.get ⟨E.n,puts E.B .lf⟩) E.n w ν' H1.get H1.n w'→
         WR C' base ν' (Hp.get ⟨H1.n,puts E.R H.t⟩) H1.n w'∧St ν H.get H.n w ν' (Hp.get ⟨H1.n,puts E.R H.t⟩) H1.n w':=fun {v w' ν'} R1 T1=>by
       obtain⟨f1,f2⟩:=frame (A:=H.get) (n:=E.n) (by have:=R.cfg (C':=C) hg.symm hw.symm;rw[q2] at this;exact this) hB R1 T1
       have look:∀ b,Hp.get ⟨H1.n,puts E.R H.t⟩ b=(match E.R.find? (fun p=>p.1==b) with
           |some p=>some p.2
           |none=>H.get b):=fun b=>pw H.t b E.R
       have noR:∀ b,E.R.find? (fun p=>p.1==b)=none→b<E.n→H1.get b=none:=fun b hb hlt=>by
         refine T1.non b hlt ?_;show(puts E.B .lf).get b=none;rw[pw];split
         · rename_i p hp
           exfalso;have e1:=List.find?_some hp;have e1:p.1=b:=by simpa using e1
           have e2:=List.all_eq_true.1 h4 p (List.mem_of_find?_eq_some hp);obtain⟨q,hq1,hq2⟩:=List.any_eq_true.1 e2;have:=List.find?_eq_none.1 hb q hq1;rw[e1] at hq2;exact this hq2
         · rfl
       obtain⟨d1,d2⟩:=drop (g':=Hp.get ⟨H1.n,puts E.R H.t⟩) f1 f2 (fun b hb=>by
         rw[look b];split
         · rename_i p hp;rw[dq (lz h3 hp)]
         · rename_i hp;rw[i6 (noR b hp hb),if_pos hb]) (fun b o ho=>by
         rw[look b] at ho;split at ho
         · rename_i p hp;cases ho;exact dq (lz h3 hp)
         · rename_i hp
           have hlt:b<E.n:=by rw[← q2];exact R.dom b o ho
           rw[i6 (noR b hp hlt),if_pos hlt];exact ho)
       rw[← q2] at d2;exact⟨d1.cfg hg hw,d2⟩
     rcases hC f E.args ⟨E.n,puts E.B .lf⟩ x1 H1 hev base ν w vs RB hv with⟨v,w',ν',g1,g2,g3,g4⟩|⟨g1,g2⟩
     · obtain⟨k1,k2⟩:=fin (v:=v) g3 g4
       exact .inl ⟨v,w',ν',by rw[hP];exact g1,g2,k1,k2⟩
     · refine .inr ⟨by rw[hP];exact g1,?_⟩
       rw[hP];refine g2.mono fun e w' ⟨v,ν',e1,e2,e3,e4⟩=> ?_
       obtain⟨k1,k2⟩:=fin (v:=v) e3 e4;exact⟨v,ν',e1,e2,k1,k2⟩
   · cases h
def m9 (ez:Nat) (d:M) (l:List M):Ob:= .cells l.length ez d (trOf 0 .lf l)
def ael (ez:Nat) (d:M) (l:List Nat):Ob:= .cells l.length ez d (trOf 0 .lf (l.map fun n=> .int .u8 (Int.ofNat n)))
