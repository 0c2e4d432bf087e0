import Derived.Test.YtkdiccgfbfbjlaaGreatMeV
namespace Go.Me
open Go Go.RowKit
variable [Gam]
set_option linter.unusedSectionVars false
set_option linter.unusedSimpArgs false
set_option linter.unusedVariables false
def FOk (F:Fence) (c:Code):Prop:=F=Fence.wide∨∃ r,F=rnd r∧roundOk c=true
theorem FOk.seq {F:Fence} {a b:Code} (h:FOk F (.seq a b)):FOk F a∧FOk F b:=by
 rcases h with h|⟨r,h,h2⟩
 · exact⟨.inl h,.inl h⟩
 · simp only[roundOk,Bool.and_eq_true] at h2
   exact⟨.inr ⟨r,h,h2.1⟩,.inr ⟨r,h,h2.2⟩⟩
theorem FOk.cond {F:Fence} {x:Operand} {a b:Code} (h:FOk F (.cond x a b)):FOk F a∧FOk F b:=by
 rcases h with h|⟨r,h,h2⟩
 · exact⟨.inl h,.inl h⟩
 · simp only[roundOk,Bool.and_eq_true] at h2
   exact⟨.inr ⟨r,h,h2.1⟩,.inr ⟨r,h,h2.2⟩⟩
theorem FOk.block {F:Fence} {id:Nat} {b:Code} (h:FOk F (.block id b)):FOk F b:=by
 rcases h with h|⟨r,h,h2⟩
 · exact .inl h
 · exact .inr ⟨r,h,by simpa only[roundOk] using h2⟩
theorem FOk.loop {F:Fence} {b:Code} (h:FOk F (.loop b)):FOk F b:=by
 rcases h with h|⟨r,h,h2⟩
 · exact .inl h
 · exact .inr ⟨r,h,by simpa only[roundOk] using h2⟩
def exitOf:Ex→Exit
 | .normal=> .normal
 | .exit id=> .exit id
 | .ret=> .ret
def codeOf:Ex→Code
 | .exit id=> .exit id
 |_=> .ret
section
variable {C:Cfg} {base N:Nat} {call:FuncId→List M→Hp→Option (M×Hp)}
theorem akg {ν:Nm}:∀ (ps:List Tmp) (xs:List M) {s s':Tr M} (vs:List Value) {a:Act},setPs N ps xs s=some s'→SR ν s a→N≤a.tmps.size→VRs ν xs vs→
  ps.length=vs.length∧SR ν s' ⟨(ps.zip vs).foldl (fun t (p,v)=>t.setIfInBounds p v) a.tmps,[]⟩∧((ps.zip vs).foldl (fun t (p,v)=>t.setIfInBounds p v) a.tmps).size=a.tmps.size
 | [],[],s,s',vs,a,h,S,hN,hv=>by
  simp only[setPs,Option.some.injEq] at h;subst h;rw[hv.inv_nil];exact⟨rfl,fun k x hk=>S k x hk,rfl⟩
 | p::ps,x::xs,s,s',vs,a,h,S,hN,hv=>by
  unfold setPs at h;split at h
  · rename_i s1 h1
    obtain⟨v,vs',rfl,h2,h3⟩:=hv.inv_cons;have S1:=S.put h2 h1 hN;obtain⟨g1,g2,g3⟩:=akg ps xs vs' (a:=a.put (some p) v) h S1 (by rw[ou];exact hN) h3
    refine⟨by simp[g1],g2,?_⟩
    rw[List.zip_cons_cons,List.foldl_cons];exact g3.trans (by rw[ou])
  · cases h
 | [],_::_,_,_,_,_,h,_,_,_=>by cases h
 |_::_,[],_,_,_,_,h,_,_,_=>by cases h
theorem zip_fold (ps:Array Tmp) (x:List Value) (t:Array Value):(ps.zip x.toArray).foldl (fun t (p,v)=>t.setIfInBounds p v) t=(ps.toList.zip x).foldl (fun t (p,v)=>t.setIfInBounds p v) t:=by
 rw[← Array.foldl_toList,Array.toList_zip]
variable (hm:C.P.follows .mixedOrders=true) (hM:MethOk C) (hC:uh C call) (hI:IterOk C)
include hm hM hC in
theorem ayi {L:Nat} {id:Nat} {ops:Array Oper} {draw:Bool} {F:Fence} (hF:FOk F (.region id ops draw)) {t t':S} {e:Ex} {ν:Nm} {a:Act} {w:World} {Q:Exit→Act→World→Prop} (hev:evC C call L N (.region id ops draw) t=some (e,t')) (R:WR C base ν t.H.get t.H.n w) (S:SR ν t.s a) (hN:N≤a.tmps.size)
   (hQ:∀ a' w' ν',WR C base ν' t'.H.get t'.H.n w'→SR ν' t'.s a'→N≤a'.tmps.size→a'.defers=a.defers→St ν t.H.get t.H.n w ν' t'.H.get t'.H.n w'→Q (exitOf e) a' w'):(Code.region id ops draw).wpIn F 0 C.P Q a w:=by
 unfold evC at hev;split at hev
 · rename_i t1 h1
   cases hev;rcases hF with rfl|⟨r,rfl,hro⟩
   · refine wpIn_wide.2 ?_
     cases draw
     · exact wp_region_list (wq hM hC _ h1 R S hN hQ)
     · exact wp_region_any hm (aer hM hC h1 R S hN hQ)
   · have hd:∀ (j:Nat) o,ops[j]? =some o→∀ c,o.op≠ .defer c:=fun j o ho c hc=>by
       have:=List.all_eq_true.1 hro o (List.mem_of_getElem? (by rw[Array.getElem?_toList];exact ho))
       rw[hc] at this;cases this
     have hno:¬ LetsOut (fun e a' w'=>e= .normal∧∃ ν',WR C base ν' t'.H.get t'.H.n w'∧SR ν' t'.s a'∧N≤a'.tmps.size∧a'.defers=a.defers∧St ν t.H.get t.H.n w ν' t'.H.get t'.H.n w'):=by
       rintro ⟨_,_,h,_⟩;cases h
     refine wpIn_mono (Q:=fun e a' w'=>e= .normal∧∃ ν',WR C base ν' t'.H.get t'.H.n w'∧SR ν' t'.s a'∧N≤a'.tmps.size∧a'.defers=a.defers∧St ν t.H.get t.H.n w ν' t'.H.get t'.H.n w') ?_ (fun e a' w' ⟨he,ν',r1,r2,r3,r4,r5⟩=>he ▸ hQ a' w' ν' r1 r2 r3 r4 r5)
     cases draw
     · have:=wq hM hC _ h1 R S hN (Q:=fun e a' w'=>e= .normal∧∃ ν',WR C base ν' t'.H.get t'.H.n w'∧SR ν' t'.s a'∧N≤a'.tmps.size∧a'.defers=a.defers∧St ν t.H.get t.H.n w ν' t'.H.get t'.H.n w') (ops:=ops) fun a' w' ν' r1 r2 r3 r4 r5=>⟨rfl,ν',r1,r2,r3,r4,r5⟩
       refine wpIn_region (ops_lift hd hno _ _ _ ?_);rw[List.range_eq_range',← Array.length_toList,wpOps_eq_wpList ops.toList 0 (by simp)]
       exact this
     · exact wpIn_region_any hm (any_lift hd hno _ _ _ _ _ (aer hM hC h1 R S hN fun a' w' ν' r1 r2 r3 r4 r5=>⟨rfl,ν',r1,r2,r3,r4,r5⟩))
 · cases hev
include hm hM hC hI in
theorem evC_ok {L:Nat}:∀ (c:Code) {F:Fence},FOk F c→∀ {k:Nat} {t t':S} {e:Ex} {ν:Nm} {a:Act} {w:World} {Q:Exit→Act→World→Prop},evC C call L N c t=some (e,t')→WR C base ν t.H.get t.H.n w→SR ν t.s a→N≤a.tmps.size→Df k ν t.H.get a w→base≤k→k≤w.heap.size→
  (∀ a' w' ν',WR C base ν' t'.H.get t'.H.n w'→SR ν' t'.s a'→N≤a'.tmps.size→Df k ν' t'.H.get a' w'→St ν t.H.get t.H.n w ν' t'.H.get t'.H.n w'→Q (exitOf e) a' w')→c.wpIn F 0 C.P Q a w:=by
 intro c
 induction c with
 | skip=>
  intro F hF k t t' e ν a w Q hev R S hN D hk hkw hQ;simp only[evC,Option.some.injEq,Prod.mk.injEq] at hev;obtain⟨rfl,rfl⟩:=hev;exact wpIn_skip (hQ a w ν R S hN D R.refl)
 | label l=>
  intro F hF k t t' e ν a w Q hev R S hN D hk hkw hQ;simp only[evC,Option.some.injEq,Prod.mk.injEq] at hev;obtain⟨rfl,rfl⟩:=hev;exact wpIn_label (hQ a w ν R S hN D R.refl)
 | region id ops draw=>
  intro F hF k t t' e ν a w Q hev R S hN D hk hkw hQ;exact ayi hm hM hC hF hev R S hN fun a' w' ν' r1 r2 r3 r4 r5=>hQ a' w' ν' r1 r2 r3 (D.step r5 r4) r5
 | seq c d ihc ihd=>
  intro F hF k t t' e ν a w Q hev R S hN D hk hkw hQ;obtain⟨hFc,hFd⟩:=hF.seq;simp only[evC] at hev;refine wpIn_seq ?_;split at hev
  · rename_i t1 h1
    exact ihc hFc h1 R S hN D hk hkw fun a1 w1 ν1 r1 r2 r3 r4 r5=>ihd hFd hev r1 r2 r3 r4 hk (Nat.le_trans hkw r5.size) fun a' w' ν' q1 q2 q3 q4 q5=>hQ a' w' ν' q1 q2 q3 q4 (r5.trans R q5)
  · rename_i r hno
    refine ihc hFc hev R S hN D hk hkw fun a1 w1 ν1 r1 r2 r3 r4 r5=> ?_
    have:=hQ a1 w1 ν1 r1 r2 r3 r4 r5;cases e with
    |normal=>exact absurd hev (fun h=>hno t' h)
    |ret=>exact this
    |exit id=>exact this
 | cond c y z ihy ihz=>
  intro F hF k t t' e ν a w Q hev R S hN D hk hkw hQ;obtain⟨hFy,hFz⟩:=hF.cond;simp only[evC] at hev;split at hev
  · rename_i hv
    have hb:a.eval c= .bool true:=by have:=ai S hv;generalize a.eval c=u at this ⊢;cases this;rfl
    exact wpIn_cond hb (ihy hFy hev R S hN D hk hkw hQ)
  · rename_i hv
    have hb:a.eval c= .bool false:=by have:=ai S hv;generalize a.eval c=u at this ⊢;cases this;rfl
    exact wpIn_cond hb (ihz hFz hev R S hN D hk hkw hQ)
  · cases hev
 | block id b ih=>
  intro F hF k t t' e ν a w Q hev R S hN D hk hkw hQ;simp only[evC] at hev;refine wpIn_block ?_;split at hev
  · rename_i id' t1 h1
    refine ih hF.block h1 R S hN D hk hkw fun a' w' ν' r1 r2 r3 r4 r5=> ?_
    simp only[exitOf,Exit.inBlock];cases hid:id'==id
    · rw[hid] at hev
      simp only[cond_false,Option.some.injEq,Prod.mk.injEq] at hev;obtain⟨rfl,rfl⟩:=hev;rw[if_neg (by simpa using hid)]
      exact hQ a' w' ν' r1 r2 r3 r4 r5
    · rw[hid] at hev
      simp only[cond_true,Option.some.injEq,Prod.mk.injEq] at hev;obtain⟨rfl,rfl⟩:=hev;rw[if_pos (by simpa using hid)]
      exact hQ a' w' ν' r1 r2 r3 r4 r5
  · rename_i r hno
    refine ih hF.block hev R S hN D hk hkw fun a' w' ν' r1 r2 r3 r4 r5=> ?_
    have:=hQ a' w' ν' r1 r2 r3 r4 r5;cases e with
    |normal=>exact this
    |ret=>exact this
    |exit id'=>exact absurd hev (fun h=>hno id' t' h)
 | loop b ih=>
  intro F hF k t t' e ν a w Q hev R S hN D hk hkw hQ;simp only[evC] at hev;refine loop_n (fun m a1 w1=>∃ t1 ν1,WR C base ν1 t1.H.get t1.H.n w1∧SR ν1 t1.s a1∧N≤a1.tmps.size∧Df k ν1 t1.H.get a1 w1∧St ν t.H.get t.H.n w ν1 t1.H.get t1.H.n w1∧iterM (evC C call L N b) m t1=some (e,t')) ?_ ?_ (m:=L) ⟨t,ν,R,S,hN,D,R.refl,hev⟩
  · rintro a1 w1 ⟨t1,ν1,_,_,_,_,_,h⟩
    simp[iterM] at h
  · rintro m a1 w1 ⟨t1,ν1,r1,r2,r3,r4,r5,h⟩
    unfold iterM at h;split at h
    · rename_i t2 h2
      exact ih hF.loop h2 r1 r2 r3 r4 hk (Nat.le_trans hkw r5.size) fun a' w' ν' q1 q2 q3 q4 q5=>⟨t2,ν',q1,q2,q3,q4,r5.trans R q5,h⟩
    · rename_i r hno
      refine ih hF.loop h r1 r2 r3 r4 hk (Nat.le_trans hkw r5.size) fun a' w' ν' q1 q2 q3 q4 q5=> ?_
      have:=hQ a' w' ν' q1 q2 q3 q4 (r5.trans R q5);cases e with
      |normal=>exact absurd h (fun h=>hno t' h)
      |ret=>exact this
      |exit id=>exact this
 | exit id=>
  intro F hF k t t' e ν a w Q hev R S hN D hk hkw hQ;simp only[evC,Option.some.injEq,Prod.mk.injEq] at hev;obtain⟨rfl,rfl⟩:=hev;exact wpIn_exit (hQ a w ν R S hN D R.refl)
 | ret=>
  intro F hF k t t' e ν a w Q hev R S hN D hk hkw hQ;simp only[evC,Option.some.injEq,Prod.mk.injEq] at hev;obtain⟨rfl,rfl⟩:=hev;exact wpIn_ret (hQ a w ν R S hN D R.refl)
 | rangeFunc g ps ca cb iha ihb=>
  intro F hF k t t' e ν a w Q hev R S hN D hk hkw hQ;have hwide:F=Fence.wide:=by
    rcases hF with h|⟨r,_,h⟩
    · exact h
    · cases h
  subst hwide;simp only[evC] at hev;split at hev
  · rename_i gf caps hg
    split at hev
    · rename_i it hit
      obtain⟨hro,hev⟩:=and1 hev;simp only[Bool.and_eq_true] at hro;obtain⟨hra,hrb⟩:=hro;split at hev
      · rename_i key l hl
        split at hev
        · rename_i e1 H1 hr
          cases hev;obtain⟨vp,vq,ef,hp,hq⟩:=(ai S hg).fn_inv;rw[hp.inv_nil] at ef;obtain⟨eg,hcon⟩:=hI gf it hit;have hT:=hcon base ν t.H w caps vq key l R hq hl;have step:∀ (m i:Nat) (H:Hp) (items:List (List M)),fw N ps.toList (it caps) key l.length (fun t=>match evC C call L N ca t with
              |some (.normal,t')=>evC C call L N cb t'
              |_=>none) t.s m i H=some (e,H1)→∃ items,it caps H=some (key,items)∧items.length=l.length:=fun m i H _ h=>by
            cases m with
            |zero=>cases h
            | succ m=>
              unfold fw at h;split at h
              · rename_i key' l' h1
                obtain⟨h2,_⟩:=and1 h;simp only[Bool.and_eq_true] at h2;rw[← M.beq_eq h2.1] at h1;exact⟨l',h1,by simpa using h2.2⟩
              · cases h
          have hl0:∀ (c:Nat),w.heap.size≤c→base≤c:=fun c hc=>by omega
          have fin:∀ (W:World) (ν1:Nm),WR C base ν1 H1.get H1.n W→St ν t.H.get t.H.n w ν1 H1.get H1.n W→Free ν1 H1.get w.heap.size→w.heap.size<W.heap.size→W.heap[w.heap.size]? =some (.deferred (some []))→Q (exitOf e) {a with defers:=markD w.heap.size::a.defers} W:=fun W ν1 R1 T1 f1 hlt hd=>by
            refine hQ _ W ν1 R1 (fun x v hx=>(S.mono (T1.le R)) x v hx) hN ?_ T1
            obtain⟨l,h1,h2,h3⟩:=D;refine⟨w.heap.size::l,by simp[h1],List.nodup_cons.2 ⟨fun hm=>by have:=(h3 _ hm).2.1;omega,h2⟩,fun E hE=> ?_⟩
            rcases List.mem_cons.1 hE with rfl|hE
            · exact⟨hkw,hlt,f1,hd⟩
            · obtain⟨k1,k2,k3,k4⟩:=h3 E hE
              exact⟨k1,Nat.lt_of_lt_of_le k2 T1.size,k3.step T1 k2,by rw[T1.keep E k2 k3];exact k4⟩
          refine wpIn_each (it:=it) (caps:=caps) (key:=key) (len:=l.length) (ν0:=ν) ef eg hT
            (fun i W=>∃ m H ν1,fw N ps.toList (it caps) key l.length (fun t=>match evC C call L N ca t with
              |some (.normal,t')=>evC C call L N cb t'
              |_=>none) t.s m i H=some (e,H1)∧WR C base ν1 H.get H.n W∧St ν t.H.get t.H.n w ν1 H.get H.n W∧Free ν1 H.get w.heap.size∧Free ν1 H.get (w.heap.size+1))
            (fun c W=>∃ ν1,c=codeOf e∧e≠ .normal∧WR C base ν1 H1.get H1.n W∧St ν t.H.get t.H.n w ν1 H1.get H1.n W∧Free ν1 H1.get w.heap.size∧Free ν1 H1.get (w.heap.size+1))
            ?_ ?_ ⟨L,t.H,ν,hr,R,R.refl,.new R (Nat.le_refl _),.new R (Nat.le_succ _)⟩ ?_ ?_ ?_
          · rintro i X Y row ⟨m,H,ν1,h1,h2,h3,h4,h5⟩ hgr hrow
            refine⟨m,H,ν1,h1,h2.grown hgr fun r e=> ?_,h3.grown hgr fun r e=> ?_,h4,h5⟩
            · rw[(hrow r e).1];exact⟨h5,hl0 _ (Nat.le_succ _)⟩
            · rw[(hrow r e).1];exact Nat.le_succ _
          · rintro c X Y row ⟨ν1,h0,h1,h2,h3,h4,h5⟩ hgr hrow
            refine⟨ν1,h0,h1,h2.grown hgr fun r e=> ?_,h3.grown hgr fun r e=> ?_,h4,h5⟩
            · rw[(hrow r e).1];exact⟨h5,hl0 _ (Nat.le_succ _)⟩
            · rw[(hrow r e).1];exact Nat.le_succ _
          · rintro r i W hle ⟨m,H,ν1,h1,R1,T1,f0,f1⟩ hlt ⟨o,ho,hno⟩
            obtain⟨m,rfl⟩:∃ m',m=m'+1:=by
              cases m with
              |zero=>cases h1
              |succ m=>exact⟨m,rfl⟩
            unfold fw at h1;split at h1
            case h_2=>cases h1
            rename_i key' items hitems;obtain⟨h2,h1⟩:=and1 h1;simp only[Bool.and_eq_true] at h2;rw[← M.beq_eq h2.1] at hitems;refine⟨ν1,H,items,R1,T1.le R,hitems,by simpa using h2.2,fun x hx vs hvs=> ?_⟩
            rw[hx] at h1;simp only at h1;split at h1
            case h_2=>cases h1
            rename_i s' hs';obtain⟨g1,g2,g3⟩:=akg ps.toList x vs hs' (S.mono (T1.le R)) hN hvs;refine⟨by rw[← g1];simp,?_⟩
            rw[zip_fold];have hbody:∃ t1 e2 t2,evC C call L N ca ⟨s',H⟩=some (.normal,t1)∧evC C call L N cb t1=some (e2,t2)∧(e2= .normal∧fw N ps.toList (it caps) key l.length (fun t=>match evC C call L N ca t with
              |some (.normal,t')=>evC C call L N cb t'
              |_=>none) t.s m (i+1) t2.H=some (e,H1)∨e2≠ .normal∧e2=e∧t2.H=H1):=by
              split at h1
              · rename_i t2 h3
                split at h3
                · rename_i t1 h4;exact⟨t1,_,t2,h4,h3,.inl ⟨rfl,h1⟩⟩
                · cases h3
              · rename_i e2 t2 hne h3
                split at h3
                · rename_i t1 h4
                  simp only[Option.some.injEq,Prod.mk.injEq] at h1;exact⟨t1,e2,t2,h4,h3,.inr ⟨fun h=>hne (by rw[h] at h3;exact h),h1.1,h1.2⟩⟩
                · cases h3
              · cases h1
            obtain⟨t1,e2,t2,ha,hb,hend⟩:=hbody;refine iha (.inr ⟨r,rfl,hra⟩) (k:=W.heap.size) ha R1 g2 (by show N≤_;rw[g3];exact hN) (.nil rfl) R1.big (Nat.le_refl _) fun a1 W1 ν2 r1 r2 r3 r4 r5=> ?_
            have f0':=f0.step r5 (by omega)
            have f1':=f1.step r5 hlt;refine⟨⟨r5.keep _ (by omega) f0,r5.keep _ hlt f1⟩,fun o'=> ?_⟩
            have hgr:=grownBy_putObj' W1 (w.heap.size+1) o';have hsz:(W1.putObj (w.heap.size+1) o').heap.size=W1.heap.size:=by simp
            have hlt1:=Nat.lt_of_lt_of_le hlt r5.size;refine ihb (.inr ⟨r,rfl,hrb⟩) (k:=W.heap.size) hb (r1.grown hgr fun r e=>by cases e;exact⟨f1',hl0 _ (Nat.le_succ _)⟩) r2 r3 ?_ R1.big (by rw[hsz];exact r5.size) fun a3 W3 ν3 q1 q2 q3 q4 q5=> ?_
            · obtain⟨l,d1,d2,d3⟩:=r4
              refine⟨l,d1,d2,fun E hE=> ?_⟩
              obtain⟨k1,k2,k3,k4⟩:=d3 E hE;exact⟨k1,by rw[hsz];exact k2,k3,by rw[World.putObj_heap_other (by omega)];exact k4⟩
            have kp:Keep2 w.heap.size (W1.putObj (w.heap.size+1) o') W3:=⟨q5.keep _ (by rw[hsz];omega) f0',q5.keep _ (by rw[hsz];omega) f1'⟩
            have TT:St ν t.H.get t.H.n w ν3 t2.H.get t2.H.n W3:=St.trans R ((T1.trans R r5).grown hgr fun r e=>by cases e;exact Nat.le_succ _) q5
            have f0'':=f0'.step q5 (by rw[hsz];omega)
            have f1'':=f1'.step q5 (by rw[hsz];omega)
            rcases hend with⟨rfl,hend⟩|⟨hne,rfl,rfl⟩
            · exact⟨kp,m,t2.H,ν3,hend,q1,TT,f0'',f1''⟩
            · cases e2 with
              |normal=>exact absurd rfl hne
              |ret=>exact⟨kp,ν3,rfl,hne,q1,TT,f0'',f1''⟩
              |exit id=>exact⟨kp,ν3,rfl,hne,q1,TT,f0'',f1''⟩
          · rintro W ⟨m,H,ν1,h1,R1,T1,f0,f1⟩ hlt hd
            cases m with
            |zero=>cases h1
            | succ m=>
              unfold fw at h1;split at h1
              case h_2=>cases h1
              rename_i key' items hitems;obtain⟨h2,h1⟩:=and1 h1;simp only[Bool.and_eq_true,beq_iff_eq] at h2;rw[List.getElem?_eq_none (by omega)] at h1
              simp only[Option.some.injEq,Prod.mk.injEq] at h1;obtain⟨rfl,rfl⟩:=h1;exact fin W ν1 R1 T1 f0 hlt hd
          · rintro c W ⟨ν1,rfl,hne,R1,T1,f0,f1⟩ hlt hd
            have:=fin W ν1 R1 T1 f0 hlt hd;cases e with
            |normal=>exact absurd rfl hne
            |ret=>exact wpIn_ret this
            |exit id=>exact wpIn_exit this
        · cases hev
      · cases hev
    · cases hev
  · cases hev
 | _=>
  intro F hF k t t' e ν a w Q hev R S hN D hk hkw hQ;simp[evC] at hev
end
