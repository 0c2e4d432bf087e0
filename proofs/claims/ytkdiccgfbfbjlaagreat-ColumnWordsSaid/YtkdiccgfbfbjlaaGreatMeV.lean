import Derived.Test.YtkdiccgfbfbjlaaGreatMeT
import Derived.OrdersIn
import Derived.RangeFuncLeaves
import Derived.RangeFuncNested
import Derived.RangeFuncSeq
import Derived.CallsIn
namespace Go.Me
open Go Go.RowKit
variable [Gam]
set_option linter.unusedSectionVars false
set_option linter.unusedSimpArgs false
set_option linter.unusedVariables false
abbrev rnd (r:Nat):Fence:=Fence.wide.inRound r
theorem stepsIn_rnd {P:Program} {r:Nat} {m m':Machine}:StepsIn (Machine.fenced P (rnd r)) P m m'↔Steps P m m':=stepsIn_wide (P:=P)
section
variable {P:Program} {ops:Array Oper} {Q:Exit→Act→World→Prop} {r n:Nat}
theorem upon_lift {o:Oper} {a:Act} {next next':Act→World→Prop} {res:Result Next} (hQ:¬ LetsOut Q) (hn:∀ a w,next a w→next' a w) (h:o.upon P a next Q res):o.uponIn (rnd r) n P a next' Q res:=by
 unfold Oper.upon at h;split at h
 · exact hn _ _ h
 · exact hn _ _ h
 · exact hn _ _ h
 · refine⟨(fun h=>by cases h),CallsIn.mono (F:=rnd r) (show CallsIn (rnd r) _ _ _ _ _ _ from callsIn_wide.2 h) fun e w' hr=> ?_⟩
   cases e with
   |returned v=>exact hn _ _ hr
   |panicked c=>exact hr
   |outgrown=>exact hr
 · refine⟨(fun h=>by cases h),fun c cs _=> ?_⟩
   obtain⟨v,w',h1,h2⟩:=h c cs;exact⟨v,w',hn _ _ h1,stepsIn_rnd.2 h2⟩
 · exact h
 · exact h.elim
theorem oper_lift {o:Oper} {a:Act} {w:World} {next next':Act→World→Prop} (hd:∀ c,o.op≠ .defer c) (hQ:¬ LetsOut Q) (hn:∀ a w,next a w→next' a w) (h:o.wp P a w next Q):o.wpIn (rnd r) n P a w next' Q:=by
 refine⟨fun _ _=>trivial,?_⟩
 rw[Oper.semAt_eq _ _ _ hd];exact upon_lift hQ hn h
theorem ops_lift (hd:∀ (j:Nat) o,ops[j]? =some o→∀ c,o.op≠ .defer c) (hQ:¬ LetsOut Q):∀ (l:List Nat) (a:Act) (w:World),wpOps P ops Q l a w→wpOpsIn (rnd r) n P ops Q l a w
 | [],_,_,h=>h
 | i::l,a,w,h=>by
  unfold wpOps at h;unfold wpOpsIn;split at h
  · rename_i e;rw[e];exact ops_lift hd hQ l a w h
  · rename_i o e
    rw[e];simp only;split at h
    · rename_i hw
      rw[if_pos hw];rcases h with h|h
      · exact oper_lift (hd i o e) hQ (fun a w h=>ops_lift hd hQ l a w h) h
      · exact absurd h.2 hQ
    · rename_i hw
      rw[if_neg hw];exact⟨fun _ _=>trivial,ops_lift hd hQ l _ w h⟩
theorem any_lift (hd:∀ (j:Nat) o,ops[j]? =some o→∀ c,o.op≠ .defer c) (hQ:¬ LetsOut Q) (md:Region.Mode):∀ (fuel:Nat) (listed:Array Bool) (a:Act) (w:World),wpAny P md ops Q fuel listed a w→wpAnyIn (rnd r) n P md ops Q fuel listed a w
 |0,_,_,_,h=>h
 | fuel+1,listed,a,w,h=>by
  refine⟨h.1,fun i hi=> ?_⟩
  have h2:=h.2 i hi;unfold wpOp at h2;unfold wpOpIn;split at h2
  · rename_i e;rw[e];exact any_lift hd hQ md fuel _ a w h2
  · rename_i o e
    rw[e];simp only;split at h2
    · rename_i hw
      rw[if_pos hw];rcases h2 with h2|h2
      · exact oper_lift (hd i o e) hQ (fun a w h=>any_lift hd hQ md fuel _ a w h) h2
      · exact absurd h2.2 hQ
    · rename_i hw
      rw[if_neg hw];exact⟨fun _ _=>trivial,any_lift hd hQ md fuel _ _ w h2⟩
theorem loop_n {F:Fence} {c:Code} (J:Nat→Act→World→Prop) (hz:∀ a w,¬ J 0 a w) (round:∀ m a w,J (m+1) a w→c.wpIn F n P (Exit.then (J m) Q) a w) {m:Nat} {a:Act} {w:World} (h:J m a w):(Code.loop c).wpIn F n P Q a w:=by
 intro b k cs hro hb hr;have key:∀ m a w,J m a w→∃ e a' w',Q e a' w'∧ArrivesIn (Machine.fenced P F) P (lone (b.atR a (.code c:: .inLoop c::k)) cs w) b k cs e a' w':=by
  intro m
  induction m with
  |zero=>intro a w h;exact absurd h (hz a w)
  | succ m ih=>
   intro a w h;obtain⟨e,a₁,w₁,hq,harr⟩:=round m a w h b (.inLoop c::k) cs hro hb hr;have out:e≠ .normal→∃ e a' w',Q e a' w'∧ArrivesIn (Machine.fenced P F) P (lone (b.atR a (.code c:: .inLoop c::k)) cs w) b k cs e a' w':=fun hne=>by
    refine⟨e,a₁,w₁,?_,.pass (x:= .inLoop c) rfl (fun _ _=> .inl hne) harr⟩
    cases e<;>first|exact absurd rfl hne|exact hq
   cases e with
   | normal=>
    obtain⟨e₂,a₂,w₂,hq₂,harr₂⟩:=ih a₁ w₁ hq;exact⟨e₂,a₂,w₂,hq₂,.of_steps (StepsIn.trans harr (.one (fenced_calm hb hr rfl) stepR_inLoop)) harr₂⟩
   |_=>exact out (by simp)
 obtain⟨e,a',w',hq,harr⟩:=key m a w h;exact⟨e,a',w',hq,.of_steps (.one (fenced_calm hb hr rfl) stepR_loop) harr⟩
end
section
variable {C:Cfg} {base N:Nat} {call:FuncId→List M→Hp→Option (M×Hp)}
theorem aer (hM:MethOk C) (hC:uh C call) {ops:Array Oper} {t t':S} {ν:Nm} {a:Act} {w:World} (h:a34 C call ops N t=some t') (R:WR C base ν t.H.get t.H.n w) (hS:SR ν t.s a) (hN:N≤a.tmps.size) {Q:Exit→Act→World→Prop}
   (hQ:∀ a' w' ν',WR C base ν' t'.H.get t'.H.n w'→SR ν' t'.s a'→N≤a'.tmps.size→a'.defers=a.defers→St ν t.H.get t.H.n w ν' t'.H.get t'.H.n w'→Q .normal a' w'):
   wpAny C.P .any ops Q ops.size (Array.replicate ops.size false) a w.drew:=by
 unfold a34 at h;split at h
 · rename_i l hs e hrun
   simp only at h;obtain⟨h1,h2⟩:=and1 h;cases h2;simp only[Bool.and_eq_true] at h1;obtain⟨⟨hback,hds⟩,hrec⟩:=h1;obtain⟨Hs,ss,Rn⟩:=pt ops.toList 0 0 _ hrun;have hno:∀ b,t.H.n≤b→t.H.get b=none:=fun b hb=>by
     cases hg:t.H.get b with
     |none=>rfl
     |some o=>have:=R.dom b o hg;omega
   have hlen:l.length=ops.size:=by rw[Rn.len];simp
   have hg0:(Hs 0).get=t.H.get:=by rw[Rn.h0];rfl
   have hn0:(Hs 0).n=t.H.n+ops.size:=by rw[Rn.h0]
   have off:∀ q,¬ isOn (Array.replicate ops.size false) q:=fun q hq=>by
     unfold isOn at hq;rw[Array.getElem?_replicate] at hq;split at hq<;>simp at hq
   have ovlow:∀ b,b<t.H.n→ov C l t.H.n (Hs 0) b=t.H.get b:=fun b hb=>by
     cases hk:(Hs 0).get b with
     |some o=>rw[dy hk,← hg0,hk]
     |none=>rw[gj hk,if_neg (by omega),← hg0,hk]
   have R1:WR C base ν (ov C l t.H.n (Hs 0)) (Hs 0).n w:=by
     rw[hn0];refine⟨fun b c hb=>⟨by have:=(R.lt b c hb).1;omega,(R.lt b c hb).2⟩,fun b o c h1 h2 h3=>R.ob b o c (by rw[← ovlow b (R.lt b c h3).1];exact h1) h2 h3,fun b b' c ⟨o,h1,h2⟩ ⟨o',h3,h4⟩ h5 h6=>R.inj b b' c ⟨o,by rw[← ovlow b (R.lt b c h5).1];exact h1,h2⟩ ⟨o',by rw[← ovlow b' (R.lt b' c h6).1];exact h3,h4⟩ h5 h6,R.gl,R.vg,R.big,fun b o h=> ?_⟩
     cases hk:(Hs 0).get b with
     | some o'=>
       rw[hg0] at hk;have:=R.dom b o' hk;omega
     | none=>
       rw[gj hk] at h;split at h
       · rename_i hc
         have:b-t.H.n<l.length:=by
          unfold mkOf at h;split at h
          · rename_i q hq;exact(List.getElem?_eq_some_iff.1 hq).1
          · cases h
         omega
       · cases h
   have T1:St ν t.H.get t.H.n w ν (ov C l t.H.n (Hs 0)) (Hs 0).n w:=by
     rw[hn0];exact⟨Nat.le_add_right _ _,fun _ _=>⟨rfl,rfl⟩,fun b hb ⟨o,h1,h2⟩=>⟨o,by rw[← ovlow b hb];exact h1,h2⟩,fun b hb h=>by rw[ovlow b hb];exact h,fun b hb _=>ovlow b hb,fun b hb h=>by rw[ovlow b hb];exact h,fun b c h1 h2=>absurd (R.lt b c h2).1 (by omega),Nat.le_refl _,fun _ _ _=>rfl,rfl,rfl,rfl⟩
   refine aww (a0:=a) (ν0:=ν) (w0:=w) hM hC R Rn hback hds (fun r hr=>List.all_eq_true.1 hrec r hr) hQ ops.size _ a w.drew ν 0 ?_ ⟨by simp,Nat.zero_le _,fun q _ hq=>by rw[hg0];exact hno _ (by omega),by rw[hn0,hlen];exact Nat.le_refl _,R1.drew,T1.drew',fun q r x b hq hd _=> ?_,fun i q hi=>absurd hi (off i),fun q r hq he=> ?_,fun q r d _ hq=>absurd hq (off q),fun k x _ hk=>hS k x (by rw[Rn.s0] at hk;exact hk),hN,rfl⟩
   · refine Nat.le_trans List.countP_le_length (by simp)
   · have hlt:=(List.getElem?_eq_some_iff.1 hq).1
     refine⟨?_,?_⟩
     · cases hν:ν (t.H.n+q) with
       |none=>rfl
       |some c=>have:=(R.lt _ c hν).1;omega
     · rw[gj (by rw[hg0];exact hno _ (by omega)),if_pos (by omega)]
       congr 1
       omega
   · exact⟨fun h=>absurd h (off q),fun h=>absurd h (by omega)⟩
 · cases h
end
end Go.Me
namespace Go.Me
open Go Go.RowKit
variable [Gam]
set_option linter.unusedSectionVars false
set_option linter.unusedSimpArgs false
set_option linter.unusedVariables false
def Tells (C:Cfg) (base:Nat) (ν0:Nm) (it:List M→Hp→Option (M×List (List M))) (caps:List M) (key:M) (len:Nat) (f:FuncId) (lb:Array Value) (w:World):Prop:=
 ∀ (l:Nat) (J:Nat→World→Prop) (Jx:World→Prop) (W:World),Below w.heap.size w W→(∀ i X Y,J i X→X.grownBy Y none→J i Y)→(∀ X Y,Jx X→X.grownBy Y none→Jx Y)→
  (∀ i X,i≤len→J i X→∃ ν H items,WR C base ν H.get H.n X∧ν0.le ν∧it caps H=some (key,items)∧items.length=len∧∀ x,items[i]? =some x→∀ vs,VRs ν x vs→
   YieldAt Fence.wide 0 C.P l vs.toArray X fun e Y=>(e= .returned (.bool true)∧J (i+1) Y)∨(e= .returned (.bool false)∧Jx Y))→
  J 0 W→CallsIn Fence.wide 0 C.P f (#[.func (.yield l) #[] #[]]++lb) W fun e Y=>(∃ v,e= .returned v)∧(J len Y∨Jx Y)
def IterOk (C:Cfg):Prop:=
 ∀ f it,C.iter f=some it→(∀ args w,(callFunc f args).run C.P w= .ok (.enter f args) w)∧∀ base ν0 H0 w0 caps lb key items,WR C base ν0 H0.get H0.n w0→VRs ν0 caps lb→it caps H0=some (key,items)→Tells C base ν0 it caps key items.length f lb.toArray w0
abbrev markD (D:Nat):Deferred:={target:= .collected D,args:= #[]}
def Keep2 (B:Nat) (W W':World):Prop:=W'.heap[B]? =W.heap[B]? ∧W'.heap[B+1]? =W.heap[B+1]?
theorem Keep2.trans {B:Nat} {X Y Z:World} (h:Keep2 B X Y) (k:Keep2 B Y Z):Keep2 B X Z:=⟨k.1.trans h.1,k.2.trans h.2⟩
def Abide (B:Nat) (I:World→Prop):Prop:=∀ X Y row,I X→X.grownBy Y row→(∀ r,row=some r→r=B+1∧∃ o:Obj,X.heap[r]? =some o∧o.isCells=false)→I Y
theorem Abide.alloc {B:Nat} {I:World→Prop} (h:Abide B I) {W:World} (o:Obj) (hs:I W):I (W.alloc o):=h W _ none hs (World.grownBy_alloc W o none) (fun r e=>by cases e)
theorem Abide.putObj {B:Nat} {I:World→Prop} (h:Abide B I) {W:World} {o:Obj} (o':Obj) (hs:I W) (hl:W.heap[B+1]? =some o) (ho:o.isCells=false):I (W.putObj (B+1) o'):=
 h W _ (some (B+1)) hs (grownBy_putObj' W (B+1) o') (fun r e=>by cases e;exact⟨rfl,o,hl,ho⟩)
def roundEnd (B:Nat) (I:World→Prop) (Ix:Code→World→Prop) (W:World):Exit→Act→World→Prop
 | .normal,_,W'=>Keep2 B W W'∧I W'
 | .ret,_,W'=>Keep2 B W W'∧Ix .ret W'
 | .exit id,_,W'=>Keep2 B W W'∧Ix (.exit id) W'
 |_,_,_=>False
section
variable {C:Cfg} {base:Nat} {ν0:Nm}
theorem wpIn_each {g:Operand} {ps:Array Tmp} {assign body:Code} {Q:Exit→Act→World→Prop} {a:Act} {w:World} {gf:Nat} {lb:Array Value} (hg:a.eval g= .func (.func gf) #[] lb)
   (eg:∀ args w,(callFunc gf args).run C.P w= .ok (.enter gf args) w) {it:List M→Hp→Option (M×List (List M))} {caps:List M} {key:M} {len:Nat} (hseq:Tells C base ν0 it caps key len gf lb w)
   (I:Nat→World→Prop) (Ix:Code→World→Prop) (hI:∀ i,Abide w.heap.size (I i)) (hIx:∀ c,Abide w.heap.size (Ix c)) (h0:I 0 w)
   (hround:∀ (l i:Nat) (W:World),i≤len→I i W→w.heap.size+1<W.heap.size→(∃ o:Obj,W.heap[w.heap.size+1]? =some o∧o.isCells=false)→
     ∃ ν H items,WR C base ν H.get H.n W∧ν0.le ν∧it caps H=some (key,items)∧items.length=len∧∀ x,items[i]? =some x→∀ vs,VRs ν x vs→vs.length=ps.size∧
       assign.wpIn (rnd l) 0 C.P (Exit.then (fun a1 W1=>Keep2 w.heap.size W W1∧∀ o',body.wpIn (rnd l) 0 C.P (roundEnd w.heap.size (I (i+1)) Ix (W1.putObj (w.heap.size+1) o')) a1 (W1.putObj (w.heap.size+1) o')) (fun _ _ _=>False))
        {tmps:=(ps.zip vs.toArray).foldl (fun t (p,v)=>t.setIfInBounds p v) a.tmps,defers:=[]} W)
   (hdone:∀ (W:World),I len W→w.heap.size<W.heap.size→W.heap[w.heap.size]? =some (.deferred (some []))→Q .normal {a with defers:=markD w.heap.size::a.defers} W)
   (hstop:∀ (c:Code) (W:World),Ix c W→w.heap.size<W.heap.size→W.heap[w.heap.size]? =some (.deferred (some []))→c.wpIn Fence.wide 0 C.P Q {a with defers:=markD w.heap.size::a.defers} W):
   (Code.rangeFunc g ps assign body).wpIn Fence.wide 0 C.P Q a w:=by
 refine wpIn_rangeFunc ?_;intro fn _;obtain⟨B,hB⟩:∃ B,B=w.heap.size:=⟨_,rfl⟩
 rw[← hB] at hI hIx hround hdone hstop;obtain⟨rec,hrec⟩:∃ rec:LoopState→Option Code→Loop,rec=fun st pe=>{state:=st,pending:=pe,fn,tmps:=a.tmps,params:=ps,assign,body,defers:=B}:=⟨_,rfl⟩
 obtain⟨W1,hW1⟩:∃ W1,(w.alloc (.deferred (some []))).alloc (.loop (rec .ready none))=W1:=⟨_,rfl⟩
 have hL1:W1.heap[B+1]? =some (.loop (rec .ready none)):=by
   rw[← hW1,hB];have:=World.alloc_heap_new (w.alloc (.deferred (some []))) (.loop (rec .ready none));rwa [World.size_alloc] at this
 have hK1:W1.heap[B]? =some (.deferred (some [])):=by
   rw[← hW1,hB];exact(Below.heap_alloc _ _ _ (by simp)).trans (World.alloc_heap_new w _)
 have hI1:I 0 W1:=by rw[← hW1];exact(hI 0).alloc _ ((hI 0).alloc _ h0)
 have hb1:Below w.heap.size w W1:=by
   rw[← hW1];exact((Below.refl _ w).alloc (Nat.le_refl _) _).alloc (by simp) _
 have hnil:∀ {X Y:World},X.grownBy Y none→Keep2 B X Y∨¬ B+1<X.heap.size:=fun {X Y} h=>by
   by_cases hlt:B+1<X.heap.size
   · exact .inl ⟨h.block B (by omega) (by simp),h.block (B+1) hlt (by simp)⟩
   · exact .inr hlt
 refine⟨B+1,[markD B],W1,{target:= .fn (.func gf) lb,args:= #[.func (.yield (B+1)) #[] #[]]},W1,gf,
   #[.func (.yield (B+1)) #[] #[]]++lb,W1,?_,?_,fun _ _=>trivial,?_,(fun h=>by cases h),?_⟩
 · rw[← hW1,hrec,hB];exact run_enterLoop_outer _ _ _ _ _
 · simp only[resolve,hg]
   simp[go_sem]
 · simp[invoke,go_sem,eg]
 · refine(hseq (B+1) (fun i W=>I i W∧W.heap[B+1]? =some (.loop (rec .ready none))∧W.heap[B]? =some (.deferred (some [])))
     (fun W=>∃ c,Ix c W∧W.heap[B+1]? =some (.loop (rec .done (some c)))∧W.heap[B]? =some (.deferred (some [])))
     W1 hb1 (fun i X Y hs hg'=> ?_) (fun X Y hs hg'=> ?_) ?_ ⟨hI1,hL1,hK1⟩).mono ?_
   · have hlt:=(Array.getElem?_eq_some_iff.1 hs.2.1).1
     obtain⟨k1,k2⟩:=(hnil hg').resolve_right (by omega)
     exact⟨hI i X Y none hs.1 hg' (fun r e=>by cases e),k2.trans hs.2.1,k1.trans hs.2.2⟩
   · obtain⟨c,h1,h2,h3⟩:=hs
     have hlt:=(Array.getElem?_eq_some_iff.1 h2).1;obtain⟨k1,k2⟩:=(hnil hg').resolve_right (by omega)
     exact⟨c,hIx c X Y none h1 hg' (fun r e=>by cases e),k2.trans h2,k1.trans h3⟩
   ·
     rintro i W hle ⟨hi,hl,hk⟩
     have hlt:B+1<W.heap.size:=(Array.getElem?_eq_some_iff.1 hl).1;obtain⟨ν,H,items,r1,r2,r3,r4,r5⟩:=hround (B+1) i W hle hi hlt ⟨_,hl,rfl⟩;refine⟨ν,H,items,r1,r2,r3,r4,fun x hx vs hvs=> ?_⟩
     obtain⟨hps,hwp⟩:=r5 x hx vs hvs;have hy:=run_yield (P:=C.P) (args:=vs.toArray) hl (by rw[hrec];simpa using hps)
     rw[hrec] at hy;refine⟨fn,_,assign,body,hy,roundIn_of_wpIn trivial (wpIn_mono hwp ?_)⟩
     rintro e a1 Wa hq
     cases e with
     | normal=>
       obtain⟨hk2,hbody⟩:=hq;have hla:Wa.heap[B+1]? =some (.loop (rec .ready none)):=hk2.2.trans hl;have hka:Wa.heap[B]? =some (.deferred (some [])):=hk2.1.trans hk;have hlta:B+1<Wa.heap.size:=(Array.getElem?_eq_some_iff.1 hla).1;refine⟨_,run_beginRound hla (by rw[hrec]),wpIn_mono (hbody _) ?_⟩
       have hl2:(Wa.putObj (B+1) (.loop {rec .ready none with state:= .busy})).heap[B+1]? =some (.loop {rec .ready none with state:= .busy}):=World.putObj_heap_same hlta;have hk2':(Wa.putObj (B+1) (.loop {rec .ready none with state:= .busy})).heap[B]? =some (.deferred (some [])):=(World.putObj_heap_other (by omega)).trans hka
       have fin:∀ (jump:Option Code) (W3:World),Keep2 B (Wa.putObj (B+1) (.loop {rec .ready none with state:= .busy})) W3→
         (Instr.endRound (B+1) jump).run C.P W3= .ok (.bool jump.isNone) (W3.putObj (B+1) (.loop (rec (if jump.isNone then .ready else .done) jump)))∧
         W3.heap[B+1]? =some (.loop {rec .ready none with state:= .busy})∧
         (W3.putObj (B+1) (.loop (rec (if jump.isNone then .ready else .done) jump))).heap[B+1]? =some (.loop (rec (if jump.isNone then .ready else .done) jump))∧
         (W3.putObj (B+1) (.loop (rec (if jump.isNone then .ready else .done) jump))).heap[B]? =some (.deferred (some [])):=fun jump W3 hk3=>by
        have hl3:=hk3.2.trans hl2;have:=run_endRound (P:=C.P) jump hl3;rw[hrec] at this ⊢;exact⟨this,by rw[hrec] at hl3;exact hl3,World.putObj_heap_same (Array.getElem?_eq_some_iff.1 hl3).1,(World.putObj_heap_other (by omega)).trans (hk3.1.trans hk2')⟩
       rintro e a3 W3 hp
       cases e with
       | normal=>
        obtain⟨hk3,hi3⟩:=hp;obtain⟨hr,hl3,hl4,hk4⟩:=fin none W3 hk3;exact⟨_,_,hr,.inl ⟨rfl,(hI _).putObj _ hi3 hl3 rfl,hl4,hk4⟩⟩
       | ret=>
        obtain⟨hk3,hi3⟩:=hp;obtain⟨hr,hl3,hl4,hk4⟩:=fin (some .ret) W3 hk3;exact⟨_,_,hr,.inr ⟨rfl,.ret,(hIx _).putObj _ hi3 hl3 rfl,hl4,hk4⟩⟩
       | exit id=>
        obtain⟨hk3,hi3⟩:=hp;obtain⟨hr,hl3,hl4,hk4⟩:=fin (some (.exit id)) W3 hk3;exact⟨_,_,hr,.inr ⟨rfl,.exit id,(hIx _).putObj _ hi3 hl3 rfl,hl4,hk4⟩⟩
       |goto t=>exact hp.elim
       |panic ch=>exact hp.elim
       |outgrown=>exact hp.elim
     |_=>exact hq.elim
   ·
     rintro e W2 ⟨⟨v,rfl⟩,(⟨hi,hl,hk⟩|⟨c,hi,hl,hk⟩)⟩
     · have hlt:B+1<W2.heap.size:=(Array.getElem?_eq_some_iff.1 hl).1
       exact⟨none,_,by have:=run_endLoop (P:=C.P) hl (by rw[hrec];simp);rw[hrec] at this;exact this,
        hdone _ ((hI _).putObj _ hi hl rfl) (by simp;omega) ((World.putObj_heap_other (by omega)).trans hk)⟩
     · have hlt:B+1<W2.heap.size:=(Array.getElem?_eq_some_iff.1 hl).1
       exact⟨some c,_,by have:=run_endLoop (P:=C.P) hl (by rw[hrec];simp);rw[hrec] at this;exact this,
        hstop c _ ((hIx _).putObj _ hi hl rfl) (by simp;omega) ((World.putObj_heap_other (by omega)).trans hk)⟩
def Free (ν:Nm) (g:Gt) (c:Nat):Prop:=∀ b,c9 g b→ν b≠some c
theorem Free.step {ν ν':Nm} {g g':Gt} {n n':Nat} {w w':World} {c:Nat} (h:Free ν g c) (T:St ν g n w ν' g' n' w') (hc:c<w.heap.size):Free ν' g' c:=fun b h1 h2=>by
 by_cases hb:b<n
 · exact h b (T.liv b hb h1) (by rw[← (T.old b hb).1];exact h2)
 · rcases T.new b c (by omega) h2 with h3|⟨b0,h3,h4⟩
   · omega
   · exact h b0 h3 h4
theorem Free.new {ν:Nm} {g:Gt} {n:Nat} {w:World} {c:Nat} (R:WR C base ν g n w) (hc:w.heap.size≤c):Free ν g c:=fun b _ h=>by have:=(R.lt b c h).2.2;omega
def Df (k:Nat) (ν:Nm) (g:Gt) (a:Act) (w:World):Prop:=∃ l:List Nat,a.defers=l.map markD∧l.Nodup∧∀ D∈l,k≤D∧D<w.heap.size∧Free ν g D∧w.heap[D]? =some (.deferred (some []))
theorem Df.nil {k:Nat} {ν:Nm} {g:Gt} {a:Act} {w:World} (h:a.defers=[]):Df k ν g a w:=⟨[],h,.nil,by simp⟩
theorem Df.step {k:Nat} {ν ν':Nm} {g g':Gt} {n n':Nat} {a a':Act} {w w':World} (h:Df k ν g a w) (T:St ν g n w ν' g' n' w') (ha:a'.defers=a.defers):Df k ν' g' a' w':=by
 obtain⟨l,h1,h2,h3⟩:=h;refine⟨l,ha.trans h1,h2,fun D hD=> ?_⟩
 obtain⟨k1,k2,k3,k4⟩:=h3 D hD;exact⟨k1,Nat.lt_of_lt_of_le k2 T.size,k3.step T k2,by rw[T.keep D k2 k3];exact k4⟩
theorem WR.grown {ν:Nm} {g:Gt} {n:Nat} {w w':World} {row:Option Nat} (R:WR C base ν g n w) (h:w.grownBy w' row) (hr:∀ r,row=some r→Free ν g r∧base≤r):WR C base ν g n w':=by
 have same:∀ c,c<w.heap.size→(∀ r,row=some r→c≠r)→w'.heap[c]? =w.heap[c]? :=fun c hc hn=>h.block c hc (fun e=>hn c e.symm rfl)
 refine⟨fun b c hb=>⟨(R.lt b c hb).1,(R.lt b c hb).2.1,Nat.lt_of_lt_of_le (R.lt b c hb).2.2 h.size⟩,fun b o c h1 h2 h3=> ?_,R.inj,fun k xs hk=> ?_,fun k xs hk=> ?_,Nat.le_trans R.big h.size,R.dom⟩
 · rw[same c (R.lt b c h3).2.2 fun r e hc=>(hr r e).1 b ⟨o,h1,h2⟩ (by rw[h3,hc])]
   exact R.ob b o c h1 h2 h3
 · obtain⟨h1,vs,e,fr,h2,h3⟩:=R.gl k xs hk
   exact⟨h1,vs,e,fr,by rw[same k (Nat.lt_of_lt_of_le h1 R.big) fun r e hc=>by have:=(hr r e).2;omega];exact h2,h3⟩
 · obtain⟨h1,vs,e,h2,hcv,h3⟩:=R.vg k xs hk
   exact⟨h1,vs,e,by rw[same _ (Nat.lt_of_lt_of_le h1 R.big) fun r e hcv=>by have:=(hr r e).2;omega];exact h2,hcv,h3⟩
theorem St.grown {ν0 ν:Nm} {g0 g:Gt} {n0 n:Nat} {w0 w w':World} {row:Option Nat} (T:St ν0 g0 n0 w0 ν g n w) (h:w.grownBy w' row) (hr:∀ r,row=some r→w0.heap.size≤r):St ν0 g0 n0 w0 ν g n w':=
 ⟨T.num,T.old,T.liv,T.has,T.same,T.non,T.new,Nat.le_trans T.size h.size,fun c hc hf=>by rw[h.block c (Nat.lt_of_lt_of_le hc T.size) (fun e=>by have:=hr c e.symm;omega)];exact T.keep c hc hf,h.os.trans T.rest.1,h.tape.trans T.rest.2.1,h.output.trans T.rest.2.2⟩
end
