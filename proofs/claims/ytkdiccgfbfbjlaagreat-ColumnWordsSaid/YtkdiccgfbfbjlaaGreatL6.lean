import Derived.Test.YtkdiccgfbfbjlaaGreatL5
import Derived.RangeFuncNested
namespace Go.Ev
open Go Go.RowKit
variable {P:Program}
def Keep2 (B:Nat) (W W':World):Prop:=W'.heap[B]? =W.heap[B]? ∧W'.heap[B+1]? =W.heap[B+1]?
theorem Keep2.trans {B:Nat} {X Y Z:World} (h:Keep2 B X Y) (k:Keep2 B Y Z):Keep2 B X Z:=⟨k.1.trans h.1,k.2.trans h.2⟩
def Abide (B:Nat) (I:World→Prop):Prop:=∀ X Y row,I X→X.grownBy Y row→(∀ r,row=some r→r=B+1∧∃ o:Obj,X.heap[r]? =some o∧o.isCells=false)→I Y
theorem Abide.alloc {B:Nat} {I:World→Prop} (h:Abide B I) {W:World} (o:Obj) (hs:I W):I (W.alloc o):=h W _ none hs (World.grownBy_alloc W o none) (fun r e=>by cases e)
theorem Abide.putObj {B:Nat} {I:World→Prop} (h:Abide B I) {W:World} {o:Obj} (o':Obj) (hs:I W) (hl:W.heap[B+1]? =some o) (ho:o.isCells=false):I (W.putObj (B+1) o'):=
 h W _ (some (B+1)) hs (grownBy_putObj' W (B+1) o') (fun r e=>by cases e;exact⟨rfl,o,hl,ho⟩)
def roundEnd (B:Nat) (Kp:World→World→Prop) (I:World→Prop) (Ix:Code→World→Prop) (W:World):Exit→Act→World→Prop
 | .normal,_,W'=>Keep2 B W W'∧Kp W W'∧I W'
 | .ret,_,W'=>Keep2 B W W'∧Ix .ret W'
 | .exit id,_,W'=>Keep2 B W W'∧Ix (.exit id) W'
 |_,_,_=>False
theorem wpIn_each {g:Operand} {ps:Array Tmp} {assign body:Code} {Q:Exit→Act→World→Prop} {a:Act} {w:World} {gf:Nat} {lb:Array Value} (hg:a.eval g= .func (.func gf) #[] lb)
   (eg:∀ args w,(callFunc gf args).run P w= .ok (.enter gf args) w) {xs:List (Array Value)} {Kp:World→World→Prop} (hseq:Tells P gf lb xs Kp w)
   (hKt:∀ {A B C:World},Kp A B→Kp B C→Kp A C) (hKb:∀ (W:World) (l:Nat) (o':Obj),w.heap.size≤l→Kp W (W.putObj l o'))
   (I:Nat→World→Prop) (Ix:Code→World→Prop) (hI:∀ i,Abide w.heap.size (I i)) (hIx:∀ c,Abide w.heap.size (Ix c)) (h0:I 0 w)
   (hps:∀ (i:Nat) (x:Array Value) (W:World),xs[i]? =some x→I i W→x.size=ps.size)
   (hround:∀ (l i:Nat) (x:Array Value) (W:World),xs[i]? =some x→I i W→w.heap.size+1<W.heap.size→(∃ o:Obj,W.heap[w.heap.size+1]? =some o∧o.isCells=false)→
     assign.wpIn (rnd l) 0 P (Exit.then (fun a1 W1=>Keep2 w.heap.size W W1∧Kp W W1∧∀ o',body.wpIn (rnd l) 0 P (roundEnd w.heap.size Kp (I (i+1)) Ix (W1.putObj (w.heap.size+1) o')) a1 (W1.putObj (w.heap.size+1) o')) (fun _ _ _=>False))
       {tmps:=(ps.zip x).foldl (fun t (p,v)=>t.setIfInBounds p v) a.tmps,defers:=[]} W)
   (hdone:∀ (W:World),I xs.length W→w.heap.size<W.heap.size→W.heap[w.heap.size]? =some (.deferred (some []))→Q .normal {a with defers:=markD w.heap.size::a.defers} W)
   (hstop:∀ (c:Code) (W:World),Ix c W→w.heap.size<W.heap.size→W.heap[w.heap.size]? =some (.deferred (some []))→c.wpIn Fence.wide 0 P Q {a with defers:=markD w.heap.size::a.defers} W):
   (Code.rangeFunc g ps assign body).wpIn Fence.wide 0 P Q a w:=by
 refine wpIn_rangeFunc ?_;intro fn _;obtain⟨B,hB⟩:∃ B,B=w.heap.size:=⟨_,rfl⟩
 rw[← hB] at hKb hI hIx hround hdone hstop;obtain⟨rec,hrec⟩:∃ rec:LoopState→Option Code→Loop,rec=fun st pe=>{state:=st,pending:=pe,fn,tmps:=a.tmps,params:=ps,assign,body,defers:=B}:=⟨_,rfl⟩
 obtain⟨W1,hW1⟩:∃ W1,(w.alloc (.deferred (some []))).alloc (.loop (rec .ready none))=W1:=⟨_,rfl⟩
 have hL1:W1.heap[B+1]? =some (.loop (rec .ready none)):=by
   rw[← hW1,hB];have:=World.alloc_heap_new (w.alloc (.deferred (some []))) (.loop (rec .ready none));rwa [World.size_alloc] at this
 have hK1:W1.heap[B]? =some (.deferred (some [])):=by
   rw[← hW1,hB];exact(Below.heap_alloc _ _ _ yt).trans (World.alloc_heap_new w _)
 have hI1:I 0 W1:=by rw[← hW1];exact(hI 0).alloc _ ((hI 0).alloc _ h0)
 have hb1:Below w.heap.size w W1:=by
   rw[← hW1];exact((Below.refl _ w).alloc (y7 _) _).alloc yt _
 have hnil:∀ {X Y:World},X.grownBy Y none→Keep2 B X Y∨¬ B+1<X.heap.size:=fun {X Y} h=>by
   by_cases hlt:B+1<X.heap.size
   · exact .inl ⟨h.block B yp yt,h.block (B+1) hlt yt⟩
   · exact .inr hlt
 refine⟨B+1,[markD B],W1,{target:= .fn (.func gf) lb,args:= #[.func (.yield (B+1)) #[] #[]]},W1,gf,
   #[.func (.yield (B+1)) #[] #[]]++lb,W1,?_,?_,fun _ _=>trivial,?_,(fun h=>by cases h),?_⟩
 · rw[← hW1,hrec,hB];exact run_enterLoop_outer _ _ _ _ _
 · simp only[resolve,hg]
   simp[go_sem]
 · simp[invoke,go_sem,eg]
 · refine(hseq (B+1) (fun i W=>I i W∧W.heap[B+1]? =some (.loop (rec .ready none))∧W.heap[B]? =some (.deferred (some [])))
     (fun W=>∃ c,Ix c W∧W.heap[B+1]? =some (.loop (rec .done (some c)))∧W.heap[B]? =some (.deferred (some [])))
     W1 hb1 (fun i X Y hs hg'=> ?_) (fun X Y hs hg'=> ?_) ?_ ⟨hI1,hL1,hK1⟩).mono ?_
   · have hlt:=(zj.1 hs.2.1).1
     obtain⟨k1,k2⟩:=(hnil hg').resolve_right yp;exact⟨hI i X Y none hs.1 hg' (fun r e=>by cases e),k2.trans hs.2.1,k1.trans hs.2.2⟩
   · obtain⟨c,h1,h2,h3⟩:=hs
     have hlt:=(zj.1 h2).1;obtain⟨k1,k2⟩:=(hnil hg').resolve_right yp;exact⟨c,hIx c X Y none h1 hg' (fun r e=>by cases e),k2.trans h2,k1.trans h3⟩
   ·
     rintro i x W hx ⟨hi,hl,hk⟩
     have hlt:B+1<W.heap.size:=(zj.1 hl).1;have hy:=run_yield (P:=P) (args:=x) hl (by rw[hrec];exact hps i x W hx hi)
     rw[hrec] at hy;refine⟨fn,_,assign,body,hy,roundIn_of_wpIn trivial (wpIn_mono (hround (B+1) i x W hx hi hlt ⟨_,hl,rfl⟩) ?_)⟩
     rintro e a1 Wa hq
     cases e with
     | normal=>
       obtain⟨hk2,hkp,hbody⟩:=hq;have hla:Wa.heap[B+1]? =some (.loop (rec .ready none)):=hk2.2.trans hl;have hka:Wa.heap[B]? =some (.deferred (some [])):=hk2.1.trans hk;have hlta:B+1<Wa.heap.size:=(zj.1 hla).1;refine⟨_,run_beginRound hla (by rw[hrec]),wpIn_mono (hbody _) ?_⟩
       have hl2:(Wa.putObj (B+1) (.loop {rec .ready none with state:= .busy})).heap[B+1]? =some (.loop {rec .ready none with state:= .busy}):=World.putObj_heap_same hlta;have hk2':(Wa.putObj (B+1) (.loop {rec .ready none with state:= .busy})).heap[B]? =some (.deferred (some [])):=(World.putObj_heap_other yp).trans hka;have hw2:Kp Wa (Wa.putObj (B+1) (.loop {rec .ready none with state:= .busy})):=hKb _ _ _ yp;have fin:∀ (jump:Option Code) (W3:World),Keep2 B (Wa.putObj (B+1) (.loop {rec .ready none with state:= .busy})) W3→
         (Instr.endRound (B+1) jump).run P W3= .ok (.bool jump.isNone) (W3.putObj (B+1) (.loop (rec (if jump.isNone then .ready else .done) jump)))∧
         W3.heap[B+1]? =some (.loop {rec .ready none with state:= .busy})∧
         (W3.putObj (B+1) (.loop (rec (if jump.isNone then .ready else .done) jump))).heap[B+1]? =some (.loop (rec (if jump.isNone then .ready else .done) jump))∧
         (W3.putObj (B+1) (.loop (rec (if jump.isNone then .ready else .done) jump))).heap[B]? =some (.deferred (some [])):=fun jump W3 hk3=>by
        have hl3:=hk3.2.trans hl2;have:=run_endRound (P:=P) jump hl3;rw[hrec] at this ⊢;exact⟨this,by rw[hrec] at hl3;exact hl3,World.putObj_heap_same (zj.1 hl3).1,(World.putObj_heap_other yp).trans (hk3.1.trans hk2')⟩
       rintro e a3 W3 hp
       cases e with
       | normal=>
        obtain⟨hk3,hkp3,hi3⟩:=hp;obtain⟨hr,hl3,hl4,hk4⟩:=fin none W3 hk3;exact⟨_,_,hr,.inl ⟨rfl,⟨(hI _).putObj _ hi3 hl3 rfl,hl4,hk4⟩,hKt (hKt hkp hw2) (hKt hkp3 (hKb _ _ _ yp))⟩⟩
       | ret=>
        obtain⟨hk3,hi3⟩:=hp;obtain⟨hr,hl3,hl4,hk4⟩:=fin (some .ret) W3 hk3;exact⟨_,_,hr,.inr ⟨rfl,.ret,(hIx _).putObj _ hi3 hl3 rfl,hl4,hk4⟩⟩
       | exit id=>
        obtain⟨hk3,hi3⟩:=hp;obtain⟨hr,hl3,hl4,hk4⟩:=fin (some (.exit id)) W3 hk3;exact⟨_,_,hr,.inr ⟨rfl,.exit id,(hIx _).putObj _ hi3 hl3 rfl,hl4,hk4⟩⟩
       |goto t=>exact hp.elim
       |panic ch=>exact hp.elim
       |outgrown=>exact hp.elim
     |_=>exact hq.elim
   ·
     rintro e W2 ⟨⟨v,rfl⟩,(⟨hi,hl,hk⟩|⟨c,hi,hl,hk⟩)⟩
     · have hlt:B+1<W2.heap.size:=(zj.1 hl).1
       exact⟨none,_,by have:=run_endLoop (P:=P) hl (by rw[hrec];simp);rw[hrec] at this;exact this,
        hdone _ ((hI _).putObj _ hi hl rfl) (by simp;omega) ((World.putObj_heap_other yp).trans hk)⟩
     · have hlt:B+1<W2.heap.size:=(zj.1 hl).1
       exact⟨some c,_,by have:=run_endLoop (P:=P) hl (by rw[hrec];simp);rw[hrec] at this;exact this,
        hstop c _ ((hIx _).putObj _ hi hl rfl) (by simp;omega) ((World.putObj_heap_other yp).trans hk)⟩
end Go.Ev
namespace Go.Ev
open Go
def dq (orc:Orc):Prop:=∀ f dep vs m r m',orc f dep vs m=some (r,m')→∀ c:Cel,c.d<dep→(lk m c).isSome→(lk m' c).isSome
def Keeps (dep:Nat) (st st':St):Prop:=∀ c:Cel,c.d<dep→(st.get (.cell c)).isSome→(st'.get (.cell c)).isSome
theorem Keeps.refl (dep:Nat) (st:St):Keeps dep st st:=fun _ _ h=>h
theorem Keeps.trans {dep:Nat} {s t u:St} (h:Keeps dep s t) (k:Keeps dep t u):Keeps dep s u:=fun c hc hs=>k c hc (h c hc hs)
theorem xp:∀ (u:List (Loc×V)) (s:Get) (l:Loc),(s l).isSome→(updG s u l).isSome
 | [],_,_,h=>h
 | (l0,v)::r,s,l,h=>by
  refine xp r _ l ?_;show(if l=l0 then some v else s l).isSome
  split
  · rfl
  · exact h
theorem Keeps.upd (dep:Nat) (st:St) (u:List (Loc×V)):Keeps dep st (st.upd u):=fun c _ h=>by
 rw[d7];exact xp u _ _ h
section
variable {cfg:Cfg} {orc:Orc} {dep:Nat}
theorem air (hA:dq orc) {st st':St} {dst:Option Nat} {own:Bool} {f:FuncId} {vs:List V} (h:callM orc dep st dst own f vs=some st'):Keeps dep st st':=by
 unfold callM at h;split at h
 · split at h
   · rename_i r m hor
     split at h
     · have hk:Keeps dep st ⟨dropBor dep st.env,cutMem dep m⟩:=fun c hc hs=>by
         show(lk (cutMem dep m) c).isSome;rw[ji,if_pos yp];exact hA f (dep+1) vs st.mem r m hor c yp hs
       split at h
       · cases h
         exact hk.trans (.upd _ _ _)
       · split at h
         · cases h
           exact hk.trans (.upd _ _ _)
         · cases h
     · cases h
   · cases h
 · cases h
theorem av6 (hA:dq orc) {st st':St} {io:IOper} (h:evStep cfg orc dep st io=some st'):Keeps dep st st':=by
 unfold evStep at h;split at h
 · cases h
   exact .upd _ _ _
 · unfold stepM at h
   split at h
   · split at h
     · split at h
       · exact air hA h
       · cases h
     · cases h
   · cases h
theorem ad7 (hA:dq orc):∀ (l:List IOper) {st st':St},evOps cfg orc dep l st=some st'→Keeps dep st st'
 | [],_,_,h=>by cases h;exact .refl _ _
 | io::l,st,st',h=>by
  unfold evOps at h;split at h
  · rename_i s1 h1
    exact(av6 hA h1).trans (ad7 hA l h)
  · cases h
theorem tg {e0:List (Nat×V)}:∀ (l:List IOper) {pre:Bool} {st st':St} {r},evOpsU cfg orc dep e0 pre l st=some (r,st')→Keeps dep st st'
 | [],_,_,_,_,h=>by cases h;exact .refl _ _
 | io::l,pre,st,st',r,h=>by
  unfold evOpsU at h;split at h
  · split at h
    · rename_i r' s2 h2
      cases h;exact(Keeps.upd _ _ _).trans (tg l h2)
    · cases h
  · cases h
theorem ad6 (hA:dq orc) {l:List IOper} {un:List (Nat×Nat)} {st st':St} (h:evRegion cfg orc dep l un st=some st'):Keeps dep st st':=by
 unfold evRegion at h;split at h
 · exact ad7 hA l h
 · split at h
   · rename_i r s2 h2
     split at h
     · cases h
       exact tg l h2
     · cases h
   · cases h
theorem ad5 (keep:List Nat) (st:St):Keeps dep st (settle dep keep st):=fun c _ h=>by
 show(lk (settleM dep st.mem) c).isSome;rw[j9,Option.isSome_map];exact h
theorem th {f:St→Option (Ex×St)} (hf:∀ st e st',f st=some (e,st')→Keeps dep st st'):∀ (m:Nat) {st st':St} {e:Ex},evLoop f m st=some (e,st')→Keeps dep st st'
 |0,_,_,_,h=>by cases h
 | m+1,st,st',e,h=>by
  unfold evLoop at h;split at h
  · rename_i s1 h1
    exact(hf _ _ _ h1).trans (th hf m h)
  · exact hf _ _ _ h
theorem gx (dep:Nat) (c:Cel):∀ m:List (Cel×V),lk (leaveM dep m) c=if c.d<dep then(lk m c).map (V.homeN dep) else none
 | []=>by simp[leaveM,lk]
 | (c0,v)::r=>by
  have ih:=gx dep c r;unfold leaveM;split
  · rename_i h
    simp only[lk];by_cases e:c0=c
    · subst e;simp[h]
    · simp[e,ih]
  · rename_i h
    rw[ih];simp only[lk];by_cases e:c0=c
    · subst e;simp[h]
    · simp[e]
theorem aiq (dep:Nat) (e e':List (Nat×V)) (m:List (Cel×V)):Keeps (dep+1) ⟨e,m⟩ ⟨e',leaveM (dep+1) m⟩:=fun c hc h=>by
 show(lk (leaveM (dep+1) m) c).isSome;rw[gx,if_pos hc,Option.isSome_map];exact h
theorem Keeps.less {dep dep':Nat} {s t:St} (h:Keeps dep' s t) (hle:dep≤dep'):Keeps dep s t:=fun c hc=>h c (zp hc hle)
theorem ti {f:List D→List (Cel×V)→Option (Ex×List (Cel×V))} (hf:∀ x m e m',f x m=some (e,m')→∀ E E',Keeps dep ⟨E,m⟩ ⟨E',m'⟩):∀ (l:List (List D)) {m m':List (Cel×V)} {e:Ex},evEach f l m=some (e,m')→∀ E E',Keeps dep ⟨E,m⟩ ⟨E',m'⟩
 | [],m,m',e,h=>by cases h;exact fun E E' c _ h=>h
 | x::l,m,m',e,h=>by
  unfold evEach at h;split at h
  · rename_i m1 h1
    exact fun E E'=>(hf _ _ _ _ h1 E E).trans (ti hf l h E E')
  · exact hf _ _ _ _ h
theorem ql {ca cb:St→Option (Ex×St)} (ha:∀ st e st',ca st=some (e,st')→Keeps (dep+1) st st') (hb:∀ st e st',cb st=some (e,st')→Keeps (dep+1) st st') {ps:List Nat} {e0:List (Nat×V)} {x:List D} {m m':List (Cel×V)} {e:Ex}
   (h:evRound ca cb dep ps e0 x m=some (e,m')) (E E':List (Nat×V)):Keeps (dep+1) ⟨E,m⟩ ⟨E',m'⟩:=by
 unfold evRound at h;split at h
 · rename_i e1 _
   split at h
   · rename_i s1 h1
     split at h
     · rename_i r s2 h2
       cases h;obtain⟨E2,m2⟩:=s2;exact fun c hc h=>(((ha _ _ _ h1).trans (hb _ _ _ h2)).trans (aiq dep E2 E' m2)) c hc h
     · cases h
   · cases h
 · cases h
theorem m7 (hA:dq orc) {n:Nat} (ic:ICode):∀ {dep:Nat} {st st':St} {e:Ex},evCode cfg orc dep n ic st=some (e,st')→Keeps dep st st':=by
 induction ic with
 |skip=>intro dep st st' e h;simp only[evCode] at h;cases h;exact .refl _ _
 | region ops un keep=>
  intro dep st st' e h;simp only[evCode] at h;split at h
  · rename_i s1 h1
    cases h;exact(ad6 hA h1).trans (ad5 _ _)
  · cases h
 | seq a b iha ihb=>
  intro dep st st' e h;simp only[evCode] at h;split at h
  · rename_i s1 h1
    exact(iha h1).trans (ihb h)
  · exact iha h
 | cond x a b iha ihb=>
  intro dep st st' e h;simp only[evCode] at h;split at h
  · split at h
    · exact iha h
    · exact ihb h
  · exact iha (dj h).1
  · cases h
 | block id b ih=>
  intro dep st st' e h;simp only[evCode] at h;split at h
  · rename_i id' s1 h1
    split at h<;>cases h<;>exact ih h1
  · exact ih h
 | loop b ih=>
  intro dep st st' e h;simp only[evCode] at h;exact th (fun st e st' h=>ih h) n h
 | each x ps a b iha ihb=>
  intro dep st st' e h;simp only[evCode] at h;split at h
  · split at h
    · rename_i e' m' h2
      cases h;obtain⟨E,m⟩:=st;exact(ti (dep:=dep+1) (fun x m e m' h E E'=>ql (fun _ _ _ h=>iha h) (fun _ _ _ h=>ihb h) h E E') _ h2 E _).less (Nat.le_succ _)
    · cases h
  · cases h
 |exit id=>intro dep st st' e h;simp only[evCode] at h;cases h;exact .refl _ _
 |ret=>intro dep st st' e h;simp only[evCode] at h;cases h;exact .refl _ _
 |demote ls=>intro dep st st' e h;simp only[evCode] at h;cases h;exact fun c _ h=>h
 | give ls=>
  intro dep st st' e h;simp only[evCode] at h;cases h;unfold givesB
  induction ls generalizing st with
  |nil=>exact .refl _ _
  |cons k ls ih=>exact(Keeps.upd dep st _).trans (ih (st:=st.upd (givenB st.get k)))
 | free k=>
  intro dep st st' e h;simp only[evCode] at h;cases h;intro c hc hs;show(lk (freeM dep k st.mem) c).isSome;rw[oy,if_neg yp,Option.isSome_map];exact hs
 |bad=>intro dep st st' e h;simp[evCode] at h
theorem qk {dep:Nat} {v v':V} {m m':List (Cel×V)} (h:leaveR dep v m=some (v',m')):v'=v∧m'=leaveM dep m∧v.upTo dep=true:=by
 unfold leaveR at h;split at h
 · rename_i hu
   cases h;exact⟨rfl,rfl,hu⟩
 · cases h
theorem xe (cfg:Cfg):∀ n,dq (evFn cfg n)
 |0=>fun _ _ _ _ _ _ h=>by cases h
 | n+1=>fun f dep vs m r m' h c hc hs=>by
  unfold evFn at h;split at h
  · simp only[yw] at h
    obtain⟨v,_,he⟩:=h;cases he;exact hs
  · split at h
    · rename_i fn _
      unfold evBody at h;split at h
      · have key:∀ {e st v},evCode cfg (evFn cfg n) dep n fn.body ⟨entry 0 vs,m⟩=some (e,st)→leaveR dep v st.mem=some (r,m')→(lk m' c).isSome:=fun h1 h2=>by
          obtain⟨_,e2,_⟩:=qk h2;rw[e2,gx,if_pos hc,Option.isSome_map];exact m7 (xe cfg n) fn.body h1 c hc hs
        split at h
        · rename_i st h1
          obtain⟨v,_,he⟩:=y8.1 h;exact key h1 he
        · rename_i st h1
          obtain⟨v,_,he⟩:=y8.1 h;exact key h1 he
        · cases h
      · cases h
    · cases h
end
end Go.Ev
namespace Go.Ev
open Go Go.RowKit
def goneL (dep:Nat):Loc→Bool
 | .slot _=>true
 | .cell c=>decide (dep≤c.d)
def Cx.leave (x:Cx) (dep:Nat) (res:Option Loc):Cx:={x with ow:=fun b=>match x.ow b with
 |some (.at l)=>if goneL dep l then(if res=some l then some .res else none) else some (.at l)
 |o=>o}
theorem dg {x:Cx} {dep:Nat} {res:Option Loc} {b:Nat} (h:x.ow b=none):(x.leave dep res).ow b=none:=by simp[Cx.leave,h]
theorem av4 {x:Cx} {dep:Nat} {res:Option Loc} {b:Nat} {l:Loc} (h:x.ow b=some (.at l)) (hl:goneL dep l=false):(x.leave dep res).ow b=some (.at l):=by simp[Cx.leave,h,hl]
theorem av5 {x:Cx} {dep:Nat} {b:Nat} {l:Loc} (h:x.ow b=some (.at l)) (hl:goneL dep l=true):(x.leave dep none).ow b=none:=by simp[Cx.leave,h,hl]
theorem a28 {x:Cx} {dep:Nat} {b:Nat} {l:Loc} (h:x.ow b=some (.at l)) (hl:goneL dep l=true):(x.leave dep (some l)).ow b=some .res:=by simp[Cx.leave,h,hl]
section
variable {P:Program} {cfg:Cfg} {x:Cx} {N dep:Nat} {a:Act} {w:World}
theorem RdV.homeN {x x':Cx} {s s':Get} {cv cv':Loc→Option Value} {l:Loc} {u:Value} {v:V} (n:Nat) (h:RdV x s cv w (some l) u v)
  (hc:∀ b o u,x.ow b=none→w.cell? (ad3 b o)=some u→x'.ow b=none∧w.cell? (ad3 b o)=some u)
  (hB:∀ d k,d<n→(s (.cell ⟨d,k,0⟩)).isSome→(s' (.cell ⟨d,k,0⟩)).isSome∧x'.ad d k=x.ad d k)
  (hO:∀ b,x.ow b=some (.at l)→x'.ow b=some (.at l)):RdV x' s' cv' w (some l) u (v.homeN n):=by
 have go:(if v.upTo n then v else .junk)=v.homeN n→RdV x' s' cv' w (some l) u (v.homeN n):=fun e=>by
  rw[← e];split
  · rename_i hup
    exact h.move n hc (.refl _) hB (fun l0 e b hb=>by cases e;exact⟨hO b hb,fun o u h=>h⟩) hup
  · exact .junk _ _
 cases v with
 | own nw z es=>
  cases h with
  |own _ b o len cap _ _ _ how hlen hcap A=>exact .own _ _ _ _ _ _ _ _ (hO b how) hlen hcap (A.mono (fun b o u h1 h2=>hc b o u h1 h2) (fun _ _ h=>h) (fun _ _ _ h=>h))
 |_=>exact go rfl
theorem Rel.leave {st:St} (R:Rel cfg x N st.get a w) (dep:Nat) (res:Option Loc):Rel cfg (x.leave dep res) 0 (get0 (leaveM dep st.mem)) act0 w:=by
 have hc:∀ b o u,x.ow b=none→w.cell? (ad3 b o)=some u→(x.leave dep res).ow b=none∧w.cell? (ad3 b o)=some u:=fun b o u h1 h2=>⟨dg h1,h2⟩
 have hcell:∀ c v',get0 (leaveM dep st.mem) (.cell c)=some v'→c.d<dep∧∃ v,st.get (.cell c)=some v∧v'=v.homeN dep:=fun c v' h=>by
   have h':lk (leaveM dep st.mem) c=some v':=h;rw[gx] at h';split at h'
   · rename_i hd
     rw[yw] at h';obtain⟨v,h1,h2⟩:=h';exact⟨hd,v,h1,h2.symm⟩
   · cases h'
 have hal:∀ d k,d<dep→(st.get (.cell ⟨d,k,0⟩)).isSome→(get0 (leaveM dep st.mem) (.cell ⟨d,k,0⟩)).isSome:=fun d k hd h=>by
   show(lk (leaveM dep st.mem) _).isSome;rw[gx,if_pos hd,Option.isSome_map];exact h
 refine⟨rfl,.nil rfl,fun b hb=>R.bound b fun e=>hb (dg e),fun l v' h=> ?_,(fun k v h=>by cases h),fun c v' h=> ?_,fun n e hg=>(R.globs n e hg).mono hc,fun b h=>R.nofz b ?_,fun n ob hg=>⟨dg (R.gobj n ob hg).1,(R.gobj n ob hg).2⟩⟩
 rotate_left 2
 · simp only[Cx.leave] at h
   split at h
   · rename_i l e;exact .inr ⟨l,e⟩
   · exact h
 · cases l with
   |slot k=>cases h
   | cell c=>
     obtain⟨hd,v,h1,rfl⟩:=hcell c v' h;obtain⟨u,hu,hr⟩:=R.locs (.cell c) v h1;exact⟨u,hu,hr.homeN dep hc (fun d k hd h=>⟨hal d k hd h,rfl⟩) (fun b hb=>av4 hb (by simp[goneL];omega))⟩
 · obtain⟨hd,v,h1,rfl⟩:=hcell c v' h
   obtain⟨g1,g2,g3⟩:=R.box c v h1;exact⟨by simp[Cx.leave,g1],hal _ _ hd g2,g3⟩
theorem Fr.leave (dep':Nat) (dep:Nat) (res:Option Loc):Fr dep' x (x.leave dep res) w w:=
 ⟨y7 _,fun b _ h=>⟨rfl,by rcases h with h|h<;>simp[Cx.leave,h]⟩,fun _ _ _=>rfl,.refl _,.refl _,rfl⟩
end
section
variable {P:Program} {cfg:Cfg} {x:Cx} {N dep:Nat} {a:Act} {w:World}
theorem ep (dep:Nat):∀ m:List (Cel×V),cutMem dep (leaveM (dep+1) m)=leaveM (dep+1) m
 | []=>rfl
 | (c,v)::r=>by
  unfold leaveM;split
  · rename_i h
    simp only[cutMem,ep dep r];rw[if_pos yp]
  · exact ep dep r
theorem avb (n:Nat) (v:V):(v.homeN n).upTo n=true:=by
 unfold V.homeN;split
 · rfl
 · split
   · assumption
   · rfl
theorem lg (n:Nat):∀ m:List (Cel×V),(leaveM n m).all (fun p=>p.2.upTo n)=true
 | []=>rfl
 | (c,v)::r=>by
  unfold leaveM;split
  · simp only[List.all_cons,avb,lg n r,Bool.and_self]
  · exact lg n r
theorem avc (dep:Nat) (v:V):(v.unbor dep).unbor dep=v.unbor dep:=by
 have h:∀ u:V,u.unbor dep=u∨u.unbor dep= .junk:=fun u=>by
   unfold V.unbor;split
   · exact .inl rfl
   · exact .inl rfl
   · split
     · exact .inl rfl
     · exact .inr rfl
 rcases h v with e|e
 · rw[e,e]
 · rw[e];rfl
theorem n8 (dep:Nat):∀ e:List (Nat×V),dropBor dep (dropBor dep e)=dropBor dep e
 | []=>rfl
 | (k,v)::r=>by simp only[dropBor,avc,n8 dep r]
theorem l7 (k:Nat):∀ e:List (Nat×V),lk (roundE e) k=(lk e k).map V.roundV
 | []=>rfl
 | (k',v)::r=>by
  simp only[roundE,lk];split
  · rfl
  · exact l7 k r
theorem Rel.dropBor {e:List (Nat×V)} {m:List (Cel×V)} (R:Rel cfg x N (St.get ⟨e,m⟩) a w) (dep:Nat):Rel cfg x N (St.get ⟨dropBor dep e,m⟩) a w:=by
 refine R.same (fun l v' h=> ?_) (fun c v h=>(R.box c v h).2.1)
 have mv:∀ v l u,RdV x (St.get ⟨e,m⟩) (conc x a w) w (some l) u v→RdV x (St.get ⟨Go.Ev.dropBor dep e,m⟩) (conc x a w) w (some l) u v:=fun v l u hr=>by
  refine hr.mono (fun b o u h1 h2=>⟨h1,h2⟩) (fun b o u h1 h2=>⟨⟨u,h1⟩,h2⟩) (fun l' z es hs=> ?_) (fun d k h=>⟨h,rfl⟩) (fun l0 _ b hb=>⟨hb,fun o u h=>h⟩)
  cases l' with
  |cell c=>exact⟨es,hs,rfl,fun b o L C h=>⟨L,C,h⟩⟩
  | slot k=>
    have h2:lk (Go.Ev.dropBor dep e) k=some (.own false z es):=hs;rw[df,yw] at h2;obtain⟨v1,h3,h4⟩:=h2;refine⟨es,?_,rfl,fun b o L C h=>⟨L,C,h⟩⟩
    show lk e k=_;rw[h3];unfold V.unbor at h4;split at h4
    · cases h4
    · cases h4
    · split at h4
      · rw[h4]
      · cases h4
 cases l with
 |cell c=>exact⟨v',h,fun u hr=>mv _ _ _ hr⟩
 | slot k=>
  have h':lk (Go.Ev.dropBor dep e) k=some v':=h;rw[df,yw] at h';obtain⟨v,h1,rfl⟩:=h';refine⟨v,h1,fun u hr=> ?_⟩
  unfold V.unbor;split
  · exact mv _ _ _ hr
  · exact mv _ _ _ hr
  · split
    · exact mv _ _ _ hr
    · exact .junk _ _
theorem Rel.grownK {s:Get} (R:Rel cfg x N s a w) {w':World} {K:Nat} (hK:K<w.heap.size→(x.ow K=none∨x.ow K=some .outer∧a.defers=[])∧∀ c t fr,w.heap[K]? ≠some (.cells c t fr)) (hz:w.heap.size≤w'.heap.size)
   (hh:∀ b,b<w.heap.size→b≠K→w'.heap[b]? =w.heap[b]?) (hio:SameIO w w') (dep:Nat):Rel cfg x N s a w'∧FrK K dep x x w w':=by
 have hlt:∀ b o u,w.cell? (ad3 b o)=some u→b<w.heap.size:=fun b o u h=>by simpa using World.block_lt_of_cell? _ _ h
 have hcK:∀ b o u,w.cell? (ad3 b o)=some u→b≠K:=fun b o u h e=>by
   subst e;have:=(hK (hlt _ _ _ h)).2;unfold World.cell? at h;split at h
   · rename_i c t fr e;exact this _ _ _ e
   · cases h
 have hcell:∀ b o u,w.cell? (ad3 b o)=some u→w'.cell? (ad3 b o)=some u:=fun b o u h=>by rw[cell_of_heap (hh b (hlt b o u h) (hcK b o u h))];exact h
 have hroom:Room w w':=fun b o u h1 h2=>⟨⟨u,hcell b o u h1⟩,by rw[bl (hh b (hlt b o u h1) (hcK b o u h1))];exact h2⟩
 have hKn:∀ b o,x.ow b=some o→o≠ .outer→b≠K:=fun b o h ho e=>by
   subst e;rcases(hK (R.bound _ (by rw[h];simp))).1 with h1|⟨h1,_⟩
   · rw[h] at h1;cases h1
   · rw[h] at h1;cases h1;exact ho rfl
 have hcv:∀ l u,conc x a w l=some u→conc x a w' l=some u:=fun l u h=>by
   cases l with
   |slot k=>exact h
   |cell c=>exact hcell _ _ _ h
 have hdf:DefsOk x a w':=by
   by_cases hn:a.defers=[]
   · exact .nil hn
   · refine R.defs.mono R.bound rfl rfl (fun b h hb=>⟨rfl,hh b hb (fun e=> ?_)⟩)
     subst e;rcases(hK hb).1 with h1|⟨_,h1⟩
     · rw[h] at h1;cases h1
     · exact hn h1
 refine⟨⟨R.size,hdf,fun b hb=>zp (R.bound b hb) hz,fun l v h=> ?_,R.slotN,fun c v h=> ?_,fun n e hg=>(R.globs n e hg).mono (fun b o u h1 h2=>⟨h1,hcell b o u h2⟩),fun b h=> ?_,fun n ob hg=> ?_⟩,
   hz,fun b hb _=>⟨hh b hb,rfl⟩,fun _ _ _=>rfl,hio,hroom,rfl⟩
 · obtain⟨u,hu,hr⟩:=R.locs l v h
   exact⟨u,hcv l u hu,hr.mono (fun b o u h1 h2=>⟨h1,hcell b o u h2⟩) hroom (fun l' z es hs=>⟨es,hs,rfl,fun b o L C h=>⟨L,C,hcv _ _ h⟩⟩) (fun d k h=>⟨h,rfl⟩) (fun l0 _ b hb=>⟨hb,fun o u h=>hcell b o u h⟩)⟩
 · obtain⟨h1,h2,h3⟩:=R.box c v h
   have hb:=R.bound _ (by rw[h1];simp)
   exact⟨h1,h2,by rw[bl (hh _ hb (hKn _ _ h1 yt))];exact h3⟩
 · have:∃ o,x.ow b=some o∧o≠ .outer:=by rcases h with h|⟨_,h⟩<;>exact⟨_,h,by simp⟩
   obtain⟨o,ho,hne⟩:=this;exact(R.nofz b h).heap (hh b (R.bound b (by rw[ho];simp)) (hKn b o ho hne))
 · obtain⟨g1,t,fr,g2⟩:=R.gobj n ob hg
   have hlt':=(zj.1 g2).1;exact⟨g1,HoldsG.heap ⟨t,fr,g2⟩ (hh n hlt' (fun e=>by subst e;exact(hK hlt').2 _ _ _ g2))⟩
theorem Rel.enterR {e:List (Nat×V)} {m:List (Cel×V)} (R:Rel cfg x N (St.get ⟨e,m⟩) a w):Rel cfg x.hide N (St.get ⟨roundE e,m⟩) ⟨a.tmps,[]⟩ w:=by
 have hc:∀ b o u,x.ow b=none→w.cell? (ad3 b o)=some u→x.hide.ow b=none∧w.cell? (ad3 b o)=some u:=fun b o u h1 h2=>⟨aq h1,h2⟩
 have mv:∀ l u v,v.isOwn=false∨(∃ c,l=some (.cell c))→RdV x (St.get ⟨e,m⟩) (conc x a w) w l u v→RdV x.hide (St.get ⟨roundE e,m⟩) (conc x.hide ⟨a.tmps,[]⟩ w) w l u v:=fun l u v hno hr=>by
   have hr':=hr;have go:∀ l0,(∀ l1,l0=some l1→∃ c,l1= .cell c)→RdV x (St.get ⟨e,m⟩) (conc x a w) w l0 u v→RdV x.hide (St.get ⟨roundE e,m⟩) (conc x.hide ⟨a.tmps,[]⟩ w) w l0 u v:=fun l0 hl0 hr=>by
     refine hr.mono hc (fun b o u h1 h2=>⟨⟨u,h1⟩,h2⟩) (fun l' z es hs=> ?_) (fun d k h=>⟨h,rfl⟩) (fun l1 e1 b hb=> ?_)
     · cases l' with
       |cell c'=>exact⟨es,hs,rfl,fun b o L C h=>⟨L,C,h⟩⟩
       | slot k=>
        have h2:lk (roundE e) k=some (.own false z es):=hs;rw[l7,yw] at h2;obtain⟨v1,_,h4⟩:=h2;cases v1<;>cases h4
     · obtain⟨c,rfl⟩:=hl0 l1 e1
       exact⟨by simp[Cx.hide,hb],fun o u h=>h⟩
   rcases hno with hno|⟨c,rfl⟩
   · exact(go none (fun l1 e=>by cases e) (hr.reloc hno)).reloc hno
   · exact go _ (fun l1 e=>by cases e;exact⟨c,rfl⟩) hr
 refine⟨R.size,.nil rfl,fun b hb=>R.bound b (fun e=>hb (aq e)),fun l v h=> ?_,fun k v h=> ?_,fun c v h=> ?_,fun n e hg=>(R.globs n e hg).mono hc,fun b h=>R.nofz b ?_,fun n ob hg=>⟨aq (R.gobj n ob hg).1,(R.gobj n ob hg).2⟩⟩
 · cases l with
   | cell c=>
     obtain⟨u,hu,hr⟩:=R.locs (.cell c) v h;exact⟨u,hu,mv _ _ _ (.inr ⟨c,rfl⟩) hr⟩
   | slot k=>
     have h2:lk (roundE e) k=some v:=h;rw[l7,yw] at h2;obtain⟨v1,h3,rfl⟩:=h2;obtain⟨u,hu,hr⟩:=R.locs (.slot k) v1 h3;refine⟨u,hu,?_⟩;cases v1 with
     |own=>exact .junk _ _
     |bor=>exact .junk _ _
     |bref=>exact .junk _ _
     |rcd=>exact .junk _ _
     |_=>exact mv _ _ _ (.inl rfl) hr
 · have h2:lk (roundE e) k=some v:=h
   rw[l7,yw] at h2;obtain⟨v1,h3,_⟩:=h2;exact R.slotN k v1 h3
 · obtain⟨h1,h2,h3⟩:=R.box c v h
   exact⟨by simp[Cx.hide,h1],h2,h3⟩
 · simp only[Cx.hide] at h
   split at h
   · rcases h with h|⟨_,h⟩<;>cases h
   · rcases h with h|⟨_,h⟩<;>cases h
   · exact h
theorem Rel.putAll (ps:List Nat):∀ (vs:List Value) (ds:List D) (e e1:List (Nat×V)) (m:List (Cel×V)) (a:Act),putPs ps ds e=some e1→Rel cfg x N (St.get ⟨e,m⟩) a w→(∀ p∈ps,p<N)→vs.length=ds.length→
  (∀ (j:Nat) v d,vs[j]? =some v→ds[j]? =some d→Rd (freeB x) w v d)→Rel cfg x N (St.get ⟨e1,m⟩) {a with tmps:=(ps.zip vs).foldl (fun t (p,v)=>t.setIfInBounds p v) a.tmps} w:=by
 induction ps with
 | nil=>
  intro vs ds e e1 m a h R _ _ _;cases ds with
  |nil=>cases h;exact R
  |cons d ds=>cases h
 | cons p ps ih=>
  intro vs ds e e1 m a h R hp hl hv;cases ds with
  |nil=>cases h
  | cons d ds=>
   cases vs with
   |nil=>simp at hl
   | cons v vs=>
    have R1:=R.put (k:=p) (hp p yt) (v:=v) (y:= .d d) rfl (l:=none) (.d _ _ _ (hv 0 v d rfl rfl));have hs:updG (St.get ⟨e,m⟩) [(.slot p,.d d)]=St.get ⟨st e p (.d d),m⟩:=by
     have:=d7 [(Loc.slot p,V.d d)] ⟨e,m⟩;rw[← this];rfl
    rw[hs] at R1;exact ih vs ds _ e1 m _ h R1 (fun q hq=>hp q (by simp[hq])) (by simpa using hl) (fun j v d h1 h2=>hv (j+1) v d (by simpa using h1) (by simpa using h2))
theorem Rel.mark {s:Get} (R:Rel cfg x N s a w) {B:Nat} (hb:x.base≤B) (hB:x.ow B=none) (hd:w.heap[B]? =some (.deferred (some []))):Rel cfg (x.give B (some .outer)) N s {a with defers:=markD B::a.defers} w:=by
 have hno:∀ b o u,w.cell? (ad3 b o)=some u→b≠B:=fun b o u h e=>by
   subst e;simp[World.cell?,hd] at h
 have hc:∀ b o u,x.ow b=none→w.cell? (ad3 b o)=some u→(x.give B (some .outer)).ow b=none∧w.cell? (ad3 b o)=some u:=fun b o u h1 h2=>⟨by rw[Cx.give_ne _ _ (hno b o u h2)];exact h1,h2⟩
 have hne:∀ b o,x.ow b=some o→b≠B:=fun b o h e=>by subst e;rw[hB] at h;cases h
 refine⟨R.size,?_,fun b hb=> ?_,fun l v h=> ?_,R.slotN,fun c v h=> ?_,fun n e hg=>(R.globs n e hg).mono hc,fun b h=> ?_,fun n ob hg=> ?_⟩
 · obtain⟨l,h1,h2,h3⟩:=R.defs
   refine⟨B::l,by simp[h1],List.nodup_cons.2 ⟨fun hm=>hne B _ (h3 B hm).2.1 rfl,h2⟩,fun D hD=> ?_⟩
   rcases zr.1 hD with rfl|hD
   · exact⟨hb,by simp,hd⟩
   · obtain⟨g0,g1,g2⟩:=h3 D hD
     exact⟨g0,by rw[Cx.give_ne _ _ (hne D _ g1)];exact g1,g2⟩
 · by_cases e:b=B
   · subst e;exact(zj.1 hd).1
   · rw[Cx.give_ne _ _ e] at hb;exact R.bound b hb
 · obtain⟨u,hu,hr⟩:=R.locs l v h
   refine⟨u,by cases l<;>exact hu,hr.mono hc (fun b o u h1 h2=>⟨⟨u,h1⟩,h2⟩) (fun l' z es hs=>⟨es,hs,rfl,fun b o L C h=>⟨L,C,by cases l'<;>exact h⟩⟩) (fun d k h=>⟨h,rfl⟩) (fun l0 _ b hb=>⟨by rw[Cx.give_ne _ _ (hne b _ hb)];exact hb,fun o u h=>h⟩)⟩
 · obtain⟨h1,h2,h3⟩:=R.box c v h
   exact⟨by rw[Cx.give_ad,Cx.give_ne _ _ (hne _ _ h1)];exact h1,h2,h3⟩
 · by_cases e:b=B
   · subst e;simp only[Cx.give_same] at h;rcases h with h|⟨_,h⟩<;>cases h
   · rw[Cx.give_ne _ _ e] at h;exact R.nofz b h
 · obtain⟨g1,g2⟩:=R.gobj n ob hg
   refine⟨?_,g2⟩;rw[Cx.give_ne _ _ (fun e=> ?_)]
   · exact g1
   · subst e
     obtain⟨t,fr,g2⟩:=g2;rw[hd] at g2;cases g2
theorem zip_fold (ps:Array Nat) (xs:Array Value) (t:Array Value):(ps.zip xs).foldl (fun t (p,v)=>t.setIfInBounds p v) t=(ps.toList.zip xs.toList).foldl (fun t (p,v)=>t.setIfInBounds p v) t:=by
 rw[← Array.foldl_toList,Array.toList_zip]
def codeOf:Ex→Code
 | .normal=> .skip
 | .ret=> .ret
 | .exit id=> .exit id
theorem qt {f:List D→List (Cel×V)→Option (Ex×List (Cel×V))} {it:List D} {r:List (List D)} {m m':List (Cel×V)} {e:Ex} (h:evEach f (it::r) m=some (e,m')):
   ∃ e1 m1,f it m=some (e1,m1)∧((e1= .normal∧evEach f r m1=some (e,m'))∨(e1≠ .normal∧e1=e∧m1=m')):=by
 unfold evEach at h;split at h
 · rename_i m1 h1
   exact⟨_,_,h1,.inl ⟨rfl,h⟩⟩
 · rename_i hno
   exact⟨_,_,h,.inr ⟨fun e0=>hno m' (by rw[h,e0]),rfl,rfl⟩⟩
theorem f9 {ca cb:St→Option (Ex×St)} {ps:List Nat} {e0:List (Nat×V)} {it:List D} {m m':List (Cel×V)} {e:Ex} (h:evRound ca cb dep ps e0 it m=some (e,m')):
   ∃ e1 s1 s2,putPs ps it (roundE e0)=some e1∧ca ⟨e1,m⟩=some (.normal,s1)∧cb s1=some (e,s2)∧m'=leaveM (dep+1) s2.mem:=by
 unfold evRound at h;split at h
 · rename_i e1 h1
   split at h
   · rename_i s1 h2
     split at h
     · rename_i r s2 h3
       cases h;exact⟨e1,s1,s2,h1,h2,h3,rfl⟩
     · cases h
   · cases h
 · cases h
theorem adp:∀ {ps:List Nat} {ds:List D} {e e1:List (Nat×V)},putPs ps ds e=some e1→ds.length=ps.length
 | [],[],_,_,_=>rfl
 | p::ps,d::ds,e,e1,h=>by
  have h':putPs ps ds (st e p (.d d))=some e1:=h;simp[adp h']
 | [],_::_,_,_,h=>by cases h
 |_::_,[],_,_,h=>by cases h
def Cx.from (x:Cx) (k:Nat):Cx:={x with base:=k}
theorem RdV.from {s:Get} {cv:Loc→Option Value} {l:Option Loc} {u:Value} {v:V} (h:RdV x s cv w l u v) (k:Nat):RdV (x.from k) s cv w l u v:=
 h.mono (fun b o u h1 h2=>⟨h1,h2⟩) (fun b o u h1 h2=>⟨⟨u,h1⟩,h2⟩) (fun l' z es hs=>⟨es,hs,rfl,fun b o L C h=>⟨L,C,h⟩⟩) (fun d k h=>⟨h,rfl⟩) (fun l0 _ b hb=>⟨hb,fun o u h=>h⟩)
theorem qy (k:Nat):conc (x.from k) a w=conc x a w:=by funext l;cases l<;>rfl
theorem Rel.from {s:Get} (R:Rel cfg x N s a w) (hd:a.defers=[]) (k:Nat):Rel cfg (x.from k) N s a w:=
 ⟨R.size,.nil hd,R.bound,fun l v h=>let⟨u,hu,hr⟩:=R.locs l v h;⟨u,by rw[qy];exact hu,by rw[qy];exact hr.from k⟩,R.slotN,R.box,R.globs,R.nofz,R.gobj⟩
theorem Fr.from {x':Cx} {w':World} {k:Nat} (h:Fr dep (x.from k) x' w w'):Fr dep x (x'.from x.base) w w':=⟨h.size,h.same,h.ad,h.io,h.room,rfl⟩
theorem ResOk.from {s:Get} {cv:Loc→Option Value} {v:Value} {r:V} (h:ResOk x s cv w v r) (k:Nat):ResOk (x.from k) s cv w v r:=by
 cases r with
 |own nw z es=>exact h
 |_=>exact RdV.from h k
theorem Rel.undefer {s:Get} (R:Rel cfg x N s a w):Rel cfg x N s ⟨a.tmps,[]⟩ w:=by
 have e:conc x ⟨a.tmps,[]⟩ w=conc x a w:=by funext l;cases l<;>rfl
 exact⟨R.size,.nil rfl,R.bound,fun l v h=>let⟨u,hu,hr⟩:=R.locs l v h;⟨u,by rw[e];exact hu,by rw[e];exact hr⟩,R.slotN,R.box,R.globs,R.nofz,R.gobj⟩
theorem Rel.shut {s:Get} {tmps:Array Value} {fn:Func} {T:Ending→World→Prop}:∀ (l:List Nat) (w:World),Rel cfg x N s ⟨tmps,[]⟩ w→l.Nodup→(∀ D∈l,x.base≤D∧x.ow D=some .outer∧w.heap[D]? =some (.deferred (some [])))→
  ∃ w',Rel cfg x N s ⟨tmps,[]⟩ w'∧w.heap.size≤w'.heap.size∧(∀ b,b<x.base→w'.heap[b]? =w.heap[b]?)∧SameIO w w'∧Room w w'∧
   (LeavesIn Fence.wide 0 P fn tmps T [] .returning w'→LeavesInM Fence.wide 0 P fn tmps T (l.map markD) .returning w)
 | [],w,R,_,_=>⟨w,R,y7 _,fun _ _=>rfl,.refl _,.refl _,fun h=>h⟩
 | D::l,w,R,hn,hD=>by
  obtain⟨h1,h2,h3⟩:=hD D yt;obtain⟨hno,hn'⟩:=List.nodup_cons.1 hn;obtain⟨R1,F1⟩:=R.grownK (K:=D) (w':=w.putObj D (.deferred none)) (fun _=>⟨.inr ⟨h2,rfl⟩,fun c t fr h=>by rw[h3] at h;cases h⟩) yt (fun b _ hne=>World.putObj_heap_other hne) ⟨rfl,rfl,rfl⟩ 0
  obtain⟨w',R',g1,g2,g3,g4,g5⟩:=Rel.shut l _ R1 hn' (fun D' hD'=>by
   obtain⟨k1,k2,k3⟩:=hD D' (by simp[hD'])
   refine⟨k1,k2,?_⟩;rw[World.putObj_heap_other (by rintro rfl;exact hno hD')];exact k3)
  refine⟨w',R',aaa F1.size g1,fun b hb=> ?_,F1.io.trans g3,F1.room.trans g4,fun h=>⟨by simp,.inl ⟨D,_,rfl,run_takeDeferred h3,g5 h⟩⟩⟩
  rw[g2 b hb,World.putObj_heap_other yp]
end
end Go.Ev
namespace Go.Ev
open Go
section
variable {P:Program} {cfg:Cfg} {N dep:Nat}
theorem auh {orc:Orc} {n:Nat} {a:Act} {w:World} {x:Cx} {e:Ex} {st':St}:∀ (fs:List Nat) (r:ICode) (st:St),Rel cfg x N st.get a w→evCode cfg orc dep n (fs.foldl (fun c k=> .seq (.free k) c) r) st=some (e,st')→
  ∃ st1,Rel cfg x N st1.get a w∧evCode cfg orc dep n r st1=some (e,st')
 | [],r,st,R,h=>⟨st,R,h⟩
 | k::fs,r,st,R,h=>by
  obtain⟨st1,R1,h1⟩:=auh fs (.seq (.free k) r) st R h;simp only[evCode] at h1;exact⟨_,R1.free k,h1⟩
def FOk (F:Fence) (c:Code):Prop:=F=Fence.wide∨∃ r,F=rnd r∧roundOk c=true
theorem FOk.seq {F:Fence} {a b:Code} (h:FOk F (.seq a b)):FOk F a∧FOk F b:=by
 rcases h with h|⟨r,h,h2⟩
 · exact⟨.inl h,.inl h⟩
 · simp only[roundOk,ze] at h2
   exact⟨.inr ⟨r,h,h2.1⟩,.inr ⟨r,h,h2.2⟩⟩
theorem FOk.cond {F:Fence} {x:Operand} {a b:Code} (h:FOk F (.cond x a b)):FOk F a∧FOk F b:=by
 rcases h with h|⟨r,h,h2⟩
 · exact⟨.inl h,.inl h⟩
 · simp only[roundOk,ze] at h2
   exact⟨.inr ⟨r,h,h2.1⟩,.inr ⟨r,h,h2.2⟩⟩
theorem FOk.block {F:Fence} {id:Nat} {b:Code} (h:FOk F (.block id b)):FOk F b:=by
 rcases h with h|⟨r,h,h2⟩
 · exact .inl h
 · exact .inr ⟨r,h,by simpa only[roundOk] using h2⟩
theorem FOk.loop {F:Fence} {b:Code} (h:FOk F (.loop b)):FOk F b:=by
 rcases h with h|⟨r,h,h2⟩
 · exact .inl h
 · exact .inr ⟨r,h,by simpa only[roundOk] using h2⟩
theorem aea {v:V} {l:List (List D)} (h:itemsOf cfg v=some l):∃ f g ds,v= .clo f [] (ds.map .d)∧cfg.iter f=some g∧g ds=some l:=by
 unfold itemsOf at h;split at h
 · rename_i f caps
   split at h
   · rename_i g ds h1 h2
     have:=ml h2;subst this;exact⟨f,g,ds,rfl,h1,h⟩
   · cases h
 · cases h
theorem a4h {orc:Orc} (hm:P.follows .mixedOrders=true) (hC:CfgOk P cfg) (hO:OrcOk P cfg orc) (hA:dq orc) {ad:Advice} {n:Nat}:∀ (c:Code) (ic:ICode),cCode P ad N c=some ic→∀ {F:Fence},FOk F c→∀ {dep:Nat} {st st':St} {e:Ex} {x:Cx} {a:Act} {w:World} {Q:Exit→Act→World→Prop},
  evCode cfg orc dep n ic st=some (e,st')→Rel cfg x N st.get a w→x.base≤w.heap.size→(∀ a' w' x',Rel cfg x' N st'.get a' w'→Fr dep x x' w w'→Q (exitOf e) a' w')→c.wpIn F 0 P Q a w:=by
 intro c
 induction c with
 | skip=>
  intro ic hic F hF dep st st' e x a w Q hev R hbs hQ;cases hic;simp only[evCode] at hev;cases hev;exact wpIn_skip (hQ a w x R (.refl _ _ _))
 | region id ops draw=>
  intro ic hic F hF dep st st' e x a w Q hev R hbs hQ;simp only[cCode] at hic;split at hic
  · rename_i l hl
    split at hic
    · cases hic
      simp[evCode] at hev
    · rename_i hbk
      cases hic;obtain⟨st1,R1,h1⟩:=auh _ _ st R hev;have hreg:∀ (st2:St) (x2:Cx),Rel cfg x2 N st2.get a w→Fr dep x x2 w w→evCode cfg orc dep n (.region l (if draw then au (az [] (ops.toList.map ak)) else[]) (look ad.keep id)) st2=some (e,st')→(Code.region id ops draw).wpIn F 0 P Q a w:=by
        intro st2 x2 R2 F2 h2;simp only[evCode] at h2;split at h2
        · rename_i st3 h3
          cases h2;rcases hF with rfl|⟨r,rfl,hro⟩
          · exact wpIn_wide.2 (ayh hm hC hO hl (fun hd=>by rw[hd] at hbk;simpa using hbk) R2 h3 (fun a' w' x' R' F'=>hQ a' w' x' (R'.settle _) (F2.trans F')))
          · refine avt hm hC hO hl (fun hd=>by rw[hd] at hbk;simpa using hbk) (fun j o ho c hc=> ?_) R2 h3 (fun a' w' x' R' F'=>hQ a' w' x' (R'.settle _) (F2.trans F'))
            have:=aac.1 hro o (List.mem_of_getElem? (by rw[Array.getElem?_toList];exact ho))
            rw[hc] at this;cases this
        · cases h2
      have hcool:∀ (st2:St) (x2:Cx),Rel cfg x2 N st2.get a w→Fr dep x x2 w w→evCode cfg orc dep n (if(look ad.cool id).isEmpty then .region l (if draw then au (az [] (ops.toList.map ak)) else[]) (look ad.keep id) else .seq (.give (look ad.cool id)) (.region l (if draw then au (az [] (ops.toList.map ak)) else[]) (look ad.keep id))) st2=some (e,st')→(Code.region id ops draw).wpIn F 0 P Q a w:=by
        intro st2 x2 R2 F2 h2;split at h2
        · exact hreg st2 x2 R2 F2 h2
        · simp only[evCode] at h2
          obtain⟨x3,R3,F3⟩:=Rel.givesB (dep:=dep) (look ad.cool id) R2;exact hreg _ x3 R3 (F2.trans F3) (by simpa only[evCode] using h2)
      split at h1
      · exact hcool st1 x R1 (.refl _ _ _) h1
      · simp only[evCode] at h1
        obtain⟨x2,R2,F2⟩:=Rel.demotes (dep:=dep) (look ad.demote id) R1;exact hcool _ x2 R2 F2 (by split at h1<;>(rename_i hq;simp only[hq,if_true,if_false,zf];first|exact h1| (simp only[evCode] at h1 ⊢;exact h1)))
  · cases hic
 | seq c d ihc ihd=>
  intro ic hic F hF dep st st' e x a w Q hev R hbs hQ;obtain⟨hFc,hFd⟩:=hF.seq;simp only[cCode] at hic;split at hic
  · rename_i ic1 ic2 h1 h2
    cases hic;simp only[evCode] at hev;refine wpIn_seq ?_;split at hev
    · rename_i st1 hst1
      exact ihc ic1 h1 hFc hst1 R hbs (fun a' w' x' R' F=>ihd ic2 h2 hFd hev R' (by rw[F.base];exact aaa hbs F.size) (fun a'' w'' x'' R'' F'=>hQ a'' w'' x'' R'' (F.trans F')))
    · rename_i r hno
      refine ihc ic1 h1 hFc hev R hbs (fun a' w' x' R' F=> ?_)
      have:=hQ a' w' x' R' F;cases e with
      |normal=>exact absurd hev (fun h=>hno st' h)
      |ret=>exact this
      |exit id=>exact this
  · cases hic
 | cond c y z ihy ihz=>
  intro ic hic F hF dep st st' e x a w Q hev R hbs hQ;obtain⟨hFy,hFz⟩:=hF.cond;simp only[cCode] at hic;split at hic
  · rename_i ix i1 i2 hx h1 h2
    cases hic;simp only[evCode] at hev;split at hev
    · rename_i t hv
      have hb:=(val_d R hx hv).bool_inv;refine wpIn_cond hb ?_;cases t
      · exact ihz i2 h2 hFz (by simpa using hev) R hbs hQ
      · exact ihy i1 h1 hFy (by simpa using hev) R hbs hQ
    · rename_i hv
      obtain⟨t,hb⟩:=(val_d R hx hv).unkB_inv;obtain⟨g1,g2⟩:=dj hev;refine wpIn_cond hb ?_;cases t
      · exact ihz i2 h2 hFz g2 R hbs hQ
      · exact ihy i1 h1 hFy g1 R hbs hQ
    · cases hev
  · cases hic
 | block id b ih=>
  intro ic hic F hF dep st st' e x a w Q hev R hbs hQ;simp only[cCode,yw] at hic;obtain⟨ib,hib,rfl⟩:=hic;simp only[evCode] at hev;refine wpIn_block ?_;split at hev
  · rename_i id' st1 hst1
    refine ih ib hib hF.block hst1 R hbs (fun a' w' x' R' F=> ?_)
    simp only[exitOf,Exit.inBlock];split at hev
    · rename_i hid
      cases hev;rw[if_pos hid];exact hQ a' w' x' R' F
    · rename_i hid
      cases hev;rw[if_neg hid];exact hQ a' w' x' R' F
  · rename_i r hno
    refine ih ib hib hF.block hev R hbs (fun a' w' x' R' F=> ?_)
    have:=hQ a' w' x' R' F;cases e with
    |normal=>exact this
    |ret=>exact this
    |exit id'=>exact absurd hev (fun h=>hno id' st' h)
 | loop b ih=>
  intro ic hic F hF dep st st' e x a w Q hev R hbs hQ;simp only[cCode,yw] at hic;obtain⟨ib,hib,rfl⟩:=hic;simp only[evCode] at hev;refine loop_n (fun m a1 w1=>∃ st1 x1,Rel cfg x1 N st1.get a1 w1∧Fr dep x x1 w w1∧evLoop (evCode cfg orc dep n ib) m st1=some (e,st')) ?_ ?_ (m:=n) ⟨st,x,R,.refl _ _ _,hev⟩
  · rintro a1 w1 ⟨st1,x1,_,_,h⟩
    simp[evLoop] at h
  · rintro m a1 w1 ⟨st1,x1,R1,F1,h⟩
    unfold evLoop at h;split at h
    · rename_i st2 h2
      exact ih ib hib hF.loop h2 R1 (by rw[F1.base];exact aaa hbs F1.size) (fun a' w' x' R' F=>⟨st2,x',R',F1.trans F,h⟩)
    · rename_i r hno
      refine ih ib hib hF.loop h R1 (by rw[F1.base];exact aaa hbs F1.size) (fun a' w' x' R' F=> ?_)
      have:=hQ a' w' x' R' (F1.trans F);cases e with
      |normal=>exact absurd h (fun h=>hno st' h)
      |ret=>exact this
      |exit id=>exact this
 | exit id=>
  intro ic hic F hF dep st st' e x a w Q hev R hbs hQ;cases hic;simp only[evCode] at hev;cases hev;exact wpIn_exit (hQ a w x R (.refl _ _ _))
 | ret=>
  intro ic hic F hF dep st st' e x a w Q hev R hbs hQ;cases hic;simp only[evCode] at hev;cases hev;exact wpIn_ret (hQ a w x R (.refl _ _ _))
 | rangeFunc g ps ca cb iha ihb=>
  intro ic hic F hF dep st st' e x a w Q hev R hbs hQ;have hwide:F=Fence.wide:=by
    rcases hF with h|⟨r,_,h⟩
    · exact h
    · cases h
  subst hwide;simp only[cCode] at hic;split at hic
  · rename_i hok
    simp only[ze] at hok;obtain⟨⟨hra,hrb⟩,hps⟩:=hok;split at hic
    · rename_i ix ia ib hg hia hib
      cases hic;simp only[evCode] at hev;split at hev
      · rename_i l hl
        split at hev
        · rename_i e' m' hev1
          cases hev;obtain⟨v,hv,hit⟩:=y8.1 hl;obtain⟨f,gi,ds,rfl,hcf,hgi⟩:=aea hit;obtain⟨lo,hr,_⟩:=a6 R hg hv;generalize hge:a.eval g=ge at hr;cases hr with
          |clo _ _ va vb _ _ hl1 hl2 h1 h2=>
          have hva:va=[]:=by simpa using hl1
          subst hva;obtain⟨eg,hcon⟩:=hC.iter f gi hcf;have hlb:vb.toArray.size=ds.length:=by simpa using hl2
          obtain⟨xs,hxl,hxr,htell⟩:=hcon ds l hgi (freeB x) vb.toArray w hlb (fun i v d e1 e2=>by
            have:=h2 i v (.d d) (by simpa using e1) (by rw[zg,e2];rfl)
            exact RdV.d_inv this)
          obtain⟨E,m⟩:=st;have nw:∀ b,w.heap.size≤b→x.ow b=none:=fun b hb=>by
            by_cases e:x.ow b=none
            · exact e
            · have:=R.bound b e;omega
          have item:∀ {i:Nat} {y:Array Value},xs[i]? =some y→∃ it,l[i]? =some it∧l.drop i=it::l.drop (i+1):=fun {i y} hi=>by
            have hlt:i<l.length:=hxl ▸ (y4.1 hi).1;exact⟨l[i],yy hlt,aa5 hlt⟩
          have fin:∀ (W:World) (xi:Cx),Rel cfg xi N (St.get ⟨dropBor dep E,m'⟩) a W→Fr dep x xi w W→xi.ow w.heap.size=none→W.heap[w.heap.size]? =some (.deferred (some []))→Q (exitOf e) {a with defers:=markD w.heap.size::a.defers} W:=fun W xi Ri Fi hBi hd=>by
            refine hQ _ W (xi.give w.heap.size (some .outer)) (Ri.mark (by rw[Fi.base];exact hbs) hBi hd) ⟨Fi.size,fun b hb ho=>⟨(Fi.same b hb ho).1,?_⟩,Fi.ad,Fi.io,Fi.room,Fi.base⟩
            rw[Cx.give_ne _ _ yp];exact(Fi.same b hb ho).2
          have stays:∀ (mi:List (Cel×V)) (X Y:World) (row:Option Nat) (xi:Cx),Rel cfg xi N (St.get ⟨dropBor dep E,mi⟩) a X→Fr dep x xi w X→xi.ow (w.heap.size+1)=none→X.grownBy Y row→(∀ r,row=some r→r=w.heap.size+1∧∃ o:Obj,X.heap[r]? =some o∧o.isCells=false)→
              Rel cfg xi N (St.get ⟨dropBor dep E,mi⟩) a Y∧Fr dep x xi w Y:=fun mi X Y row xi Ri Fi h1 hgr hrow=>by
            obtain⟨K,hK1,hK2⟩:∃ K,(K<X.heap.size→(xi.ow K=none∨xi.ow K=some .outer∧a.defers=[])∧∀ c t fr,X.heap[K]? ≠some (.cells c t fr))∧(∀ b,b<X.heap.size→b≠K→some b≠row)∧w.heap.size≤K:=by
              cases row with
              |none=>exact⟨X.heap.size,fun h=>absurd h (Nat.lt_irrefl _),fun b _ _=>by simp,Fi.size⟩
              | some r=>
               obtain⟨rfl,o,ho,hno⟩:=hrow r rfl;exact⟨_,fun _=>⟨.inl h1,fun c t fr h=>by rw[ho] at h;cases h;cases hno⟩,fun b _ hne he=>hne (by cases he;rfl),by omega⟩
            obtain⟨Ri',Fi'⟩:=Ri.grownK hK1 hgr.size (fun b hb hne=>hgr.block b hb (hK2.1 b hb hne)) ⟨hgr.os,hgr.tape,hgr.output⟩ dep
            exact⟨Ri',((Fi.toK K).trans Fi').toFr hK2.2⟩
          refine wpIn_each (xs:=xs) hge eg htell ?_ ?_
            (fun i W=>∃ mi xi,evEach (evRound (evCode cfg orc (dep+1) n ia) (evCode cfg orc (dep+1) n ib) dep ps.toList (dropBor dep E)) (l.drop i) mi=some (e,m')∧Rel cfg xi N (St.get ⟨dropBor dep E,mi⟩) a W∧Fr dep x xi w W∧xi.ow w.heap.size=none∧xi.ow (w.heap.size+1)=none)
            (fun c W=>∃ xi,c=codeOf e∧e≠ .normal∧Rel cfg xi N (St.get ⟨dropBor dep E,m'⟩) a W∧Fr dep x xi w W∧xi.ow w.heap.size=none∧xi.ow (w.heap.size+1)=none)
            ?_ ?_ ⟨m,x,hev1,R.dropBor dep,.refl _ _ _,nw _ (y7 _),nw _ (Nat.le_succ _)⟩ ?_ ?_ ?_ ?_
          · exact fun h k b hb hlt=>(k b hb hlt).trans (h b hb hlt)
          · exact fun W k o' hk b hb hlt=>World.putObj_heap_other yp
          · rintro i X Y row ⟨mi,xi,h1,Ri,Fi,h2,h3⟩ hgr hrow
            obtain⟨g1,g2⟩:=stays mi X Y row xi Ri Fi h3 hgr hrow;exact⟨mi,xi,h1,g1,g2,h2,h3⟩
          · rintro c X Y row ⟨xi,h0,h1,Ri,Fi,h2,h3⟩ hgr hrow
            obtain⟨g1,g2⟩:=stays m' X Y row xi Ri Fi h3 hgr hrow;exact⟨xi,h0,h1,g1,g2,h2,h3⟩
          · rintro i y W hy ⟨mi,xi,h1,_⟩
            obtain⟨it,hit,hdr⟩:=item hy;rw[hdr] at h1;obtain⟨e1,m1,h4,_⟩:=qt h1;obtain⟨e2,s1,s2,h5,_⟩:=f9 h4;have:=(hxr i y it hy hit).1;rw[this,adp h5,Array.length_toList]
          · rintro r i y W hy ⟨mi,xi,h1,Ri,Fi,hB0,hB1⟩ hlt ⟨o,ho,hno⟩
            obtain⟨it,hit,hdr⟩:=item hy;rw[hdr] at h1;obtain⟨e1,m1,h4,h5⟩:=qt h1;obtain⟨e2,s1,s2,hp,ha,hb,rfl⟩:=f9 h4;obtain⟨hsz,hrd⟩:=hxr i y it hy hit;have hfree:∀ b,x.ow b=none→b<w.heap.size→xi.ow b=none∧W.heap[b]? =w.heap[b]? :=fun b h hlt=>by
              obtain⟨g1,g2⟩:=Fi.same b hlt (.inl h);exact⟨g2.trans h,g1⟩
            have R1:=Rel.putAll (x:=xi.hide) ps.toList y.toList it _ e2 mi ⟨a.tmps,[]⟩ hp Ri.enterR (fun p hp=>by simpa using aac.1 hps p hp) (by simpa using hsz) (fun j v d e1 e2=>by
              refine(hrd j v d (by simpa using e1) e2).mono fun b o u h1 h2=> ?_
              have hbl:b<w.heap.size:=by simpa using World.block_lt_of_cell? _ _ h2
              obtain⟨g1,g2⟩:=hfree b h1 hbl;exact⟨aq g1,by rw[cell_of_heap g2];exact h2⟩)
            rw[zip_fold];refine iha ia hia (.inr ⟨r,rfl,hra⟩) ha R1 (by show xi.base≤_;rw[Fi.base];exact aaa hbs Fi.size) fun a1 W1 x1 R1' F1=> ?_
            have h1B:x1.ow w.heap.size=none:=((F1.same _ yp (.inl (aq hB0))).2).trans (aq hB0);have h1B1:x1.ow (w.heap.size+1)=none:=((F1.same _ hlt (.inl (aq hB1))).2).trans (aq hB1);have ho1:W1.heap[w.heap.size+1]? =some o:=((F1.same _ hlt (.inl (aq hB1))).1).trans ho;have hlt1:=zp hlt F1.size;have hf1:∀ b,x.ow b=none→b<w.heap.size→x1.ow b=none∧W1.heap[b]? =W.heap[b]? :=fun b h hl=>by
              obtain⟨g1,_⟩:=hfree b h hl;obtain⟨g3,g4⟩:=F1.same b yp (.inl (aq g1));exact⟨g4.trans (aq g1),g3⟩
            refine⟨⟨(F1.same _ yp (.inl (aq hB0))).1,ho1.trans ho.symm⟩,fun b hb hl=>(hf1 b hb hl).2,fun o'=> ?_⟩
            obtain⟨R2,F2⟩:=R1'.grownK (K:=w.heap.size+1) (w':=W1.putObj (w.heap.size+1) o') (fun _=>⟨.inl h1B1,fun c t fr h=>by rw[ho1] at h;cases h;cases hno⟩) yt (fun b _ hne=>World.putObj_heap_other hne) ⟨rfl,rfl,rfl⟩ (dep+1)
            refine ihb ib hib (.inr ⟨r,rfl,hrb⟩) hb R2 (by rw[F1.base];show xi.base≤_;rw[Fi.base];exact aaa (aaa hbs Fi.size) (aaa F1.size F2.size)) fun a3 W3 x3 R3 F3=> ?_
            have hlt2:w.heap.size+1<(W1.putObj (w.heap.size+1) o').heap.size:=by simp;omega
            have hk2:Keep2 w.heap.size (W1.putObj (w.heap.size+1) o') W3:=⟨(F3.same _ yp (.inl h1B)).1,(F3.same _ hlt2 (.inl h1B1)).1⟩;have hkp:KpOf (freeB x) w (W1.putObj (w.heap.size+1) o') W3:=fun b hb hl=>(F3.same b yp (.inl (hf1 b hb hl).1)).1
            have FT:=((F1.toK (w.heap.size+1)).trans F2).trans ((F3.trans (.leave (dep+1) (dep+1) none)).toK (w.heap.size+1));have hkeep:Keeps (dep+1) ⟨E,mi⟩ ⟨E,leaveM (dep+1) s2.mem⟩:=ql (fun _ _ _ h=>m7 hA ia h) (fun _ _ _ h=>m7 hA ib h) h4 E E
            obtain⟨R4,F4⟩:=Ri.backK (K:=w.heap.size+1) (dep:=dep) (fun _=>⟨hB1,fun c t fr h=>by rw[ho] at h;cases h;cases hno⟩) (R3.leave (dep+1) none) FT hkeep (by rw[ep];exact lg _ _) none (fun k h=>by cases h)
            rw[n8,ep] at R4;have F5:Fr dep x _ w W3:=((Fi.toK (w.heap.size+1)).trans F4).toFr yp;have h4B:=((F4.same w.heap.size yp (.inl hB0)).2).trans hB0;have h4B1:=((F4.same (w.heap.size+1) hlt (.inl hB1)).2).trans hB1;rcases h5 with⟨rfl,h5⟩|⟨hne,rfl,rfl⟩
            · exact⟨hk2,hkp,_,_,h5,R4,F5,h4B,h4B1⟩
            · cases e1 with
              |normal=>exact absurd rfl hne
              |ret=>exact⟨hk2,_,rfl,hne,R4,F5,h4B,h4B1⟩
              |exit id=>exact⟨hk2,_,rfl,hne,R4,F5,h4B,h4B1⟩
          · rintro W ⟨mi,xi,h1,Ri,Fi,hB0,hB1⟩ _ hd
            rw[hxl,List.drop_length] at h1;cases h1;exact fin W xi Ri Fi hB0 hd
          · rintro c W ⟨xi,rfl,hne,Ri,Fi,hB0,hB1⟩ _ hd
            have:=fin W xi Ri Fi hB0 hd;cases e with
            |normal=>exact absurd rfl hne
            |ret=>exact wpIn_ret this
            |exit id=>exact wpIn_exit this
        · cases hev
      · cases hev
    · cases hic
  · cases hic
    simp[evCode] at hev
 | _=>
  intro ic hic F hF dep st st' e x a w Q hev R hbs hQ;simp only[cCode] at hic;cases hic;simp[evCode] at hev
theorem na {orc:Orc} (hm:P.follows .mixedOrders=true) (hC:CfgOk P cfg) (hO:OrcOk P cfg orc) (hA:dq orc) {ad:Advice} {n:Nat} (c:Code) (ic:ICode) (hic:cCode P ad N c=some ic) {st st':St} {e:Ex} {x:Cx} {a:Act} {w:World} {Q:Exit→Act→World→Prop}
  (hev:evCode cfg orc dep n ic st=some (e,st')) (R:Rel cfg x N st.get a w) (hbs:x.base≤w.heap.size) (hQ:∀ a' w' x',Rel cfg x' N st'.get a' w'→Fr dep x x' w w'→Q (exitOf e) a' w'):c.wp P Q a w:=
 wpIn_wide.1 (a4h hm hC hO hA c ic hic (.inl rfl) hev R hbs hQ)
theorem awv {orc:Orc} {ad:Advice} {n:Nat}:∀ (c:Code) (ic:ICode),cCode P ad N c=some ic→wv c=true→∀ {st st':St} {e:Ex},evCode cfg orc dep n ic st=some (e,st')→e≠ .normal:=by
 intro c
 induction c with
 | ret=>
  intro ic hic _ st st' e hev he;cases hic;simp only[evCode] at hev;cases hev;cases he
 | seq c d _ ihd=>
  intro ic hic hr st st' e hev he;simp only[cCode] at hic;split at hic
  · rename_i ic1 ic2 h1 h2
    cases hic;simp only[evCode] at hev;split at hev
    · exact ihd ic2 h2 hr hev he
    · rename_i r hno
      subst he;exact hno _ hev
  · cases hic
 |_=>intro ic hic hr;simp[wv] at hr
theorem akl {orc:Orc} (hm:P.follows .mixedOrders=true) (hC:CfgOk P cfg) (hO:OrcOk P cfg orc) (hAl:dq orc) {ad:Advice} {n:Nat} (c:Code) (ic:ICode) (hic:cRot P ad N c=some ic) {st st':St} {e:Ex} {x:Cx} {a:Act} {w:World} {Q:Exit→Act→World→Prop}
   (hev:evCode cfg orc dep n ic st=some (e,st')) (R:Rel cfg x N st.get a w) (hbs:x.base≤w.heap.size) (hQ:∀ a' w' x',Rel cfg x' N st'.get a' w'→Fr dep x x' w w'→Q (exitOf e) a' w'):c.wp P Q a w:=by
 have seqGo:∀ (c d:Code) (i1 i2:ICode),cCode P ad N c=some i1→(∀ {st st':St} {e:Ex} {x:Cx} {a:Act} {w:World} {Q:Exit→Act→World→Prop},evCode cfg orc dep n i2 st=some (e,st')→Rel cfg x N st.get a w→x.base≤w.heap.size→(∀ a' w' x',Rel cfg x' N st'.get a' w'→Fr dep x x' w w'→Q (exitOf e) a' w')→d.wp P Q a w)→
     ∀ {st st':St} {e:Ex} {x:Cx} {a:Act} {w:World} {Q:Exit→Act→World→Prop},evCode cfg orc dep n (.seq i1 i2) st=some (e,st')→Rel cfg x N st.get a w→x.base≤w.heap.size→(∀ a' w' x',Rel cfg x' N st'.get a' w'→Fr dep x x' w w'→Q (exitOf e) a' w')→(Code.seq c d).wp P Q a w:=by
   intro c d i1 i2 h1 hd st st' e x a w Q hev R hbs hQ;simp only[evCode] at hev;refine wp_seq ?_;split at hev
   · rename_i st1 hst1
     exact na hm hC hO hAl c i1 h1 hst1 R hbs (fun a' w' x' R' F=>hd hev R' (by rw[F.base];exact aaa hbs F.size) (fun a'' w'' x'' R'' F'=>hQ a'' w'' x'' R'' (F.trans F')))
   · rename_i r hno
     refine na hm hC hO hAl c i1 h1 hev R hbs (fun a' w' x' R' F=> ?_)
     have:=hQ a' w' x' R' F;cases e with
     |normal=>exact absurd hev (fun h=>hno st' h)
     |ret=>exact this
     |exit id=>exact this
 revert hic;unfold cRot;split
 · rename_i A X p B
   split
   · rename_i hr
     intro hic;split at hic
     · rename_i a' x' p' b' hA hX hp hB
       cases hic;simp only[evCode] at hev;refine wp_seq (wp_seq ?_);split at hev
       · rename_i st1 hst1
         refine na hm hC hO hAl A a' hA hst1 R hbs (fun a1 w1 x1 R1 F1=> ?_)
         have way:∀ t:Bool,a1.eval X= .bool t→(t=true→evCode cfg orc dep n p' st1=some (e,st'))→(t=false→evCode cfg orc dep n b' st1=some (e,st'))→(Code.cond X p .skip).wp P (Exit.then (B.wp P Q) Q) a1 w1:=by
           intro t ht h1 h2;refine wp_cond ht ?_;cases t
           · refine wp_skip ?_
             exact akl hm hC hO hAl B b' hB (h2 rfl) R1 (by rw[F1.base];exact aaa hbs F1.size) (fun a2 w2 x2 R2 F2=>hQ a2 w2 x2 R2 (F1.trans F2))
           · have hne:=awv p p' hp hr (h1 rfl)
             refine na hm hC hO hAl p p' hp (h1 rfl) R1 (by rw[F1.base];exact aaa hbs F1.size) (fun a2 w2 x2 R2 F2=> ?_)
             have:=hQ a2 w2 x2 R2 (F1.trans F2);cases e with
             |normal=>exact absurd rfl hne
             |ret=>exact this
             |exit id=>exact this
         split at hev
         · rename_i t hv
           refine way t (val_d R1 hX hv).bool_inv (fun ht=> ?_) (fun ht=> ?_)
           · rw[ht] at hev;simpa using hev
           · rw[ht] at hev;simpa using hev
         · rename_i hv
           obtain⟨t,hb⟩:=(val_d R1 hX hv).unkB_inv;obtain⟨g1,g2⟩:=dj hev;exact way t hb (fun _=>g1) (fun _=>g2)
         · cases hev
       · rename_i r hno
         refine na hm hC hO hAl A a' hA hev R hbs (fun a1 w1 x1 R1 F1=> ?_)
         have:=hQ a1 w1 x1 R1 F1;cases e with
         |normal=>exact absurd hev (fun h=>hno st' h)
         |ret=>exact this
         |exit id=>exact this
     · cases hic
   · intro hic
     split at hic
     · rename_i i1 i2 h1 h2
       cases hic;exact seqGo _ B i1 i2 h1 (fun hev R hbs hQ=>akl hm hC hO hAl B i2 h2 hev R hbs hQ) hev R hbs hQ
     · cases hic
 · rename_i A B _
   intro hic;split at hic
   · rename_i i1 i2 h1 h2
     cases hic;exact seqGo A B i1 i2 h1 (fun hev R hbs hQ=>akl hm hC hO hAl B i2 h2 hev R hbs hQ) hev R hbs hQ
   · cases hic
 · intro hic
   exact na hm hC hO hAl c ic hic hev R hbs hQ
termination_by SizeOf.sizeOf c
end
end Go.Ev
namespace Go.Ev
open Go
section
variable {P:Program} {cfg:Cfg} {x:Cx} {N dep:Nat} {a:Act} {w:World}
def resRun (tmps:Array Value):ResultVar→Sem Value
 | .tmp t=>pure (tmps.getD t undef)
 | .cell a t=>do loadVar t (← asAddr (tmps.getD a undef))
theorem auc {P:Program} {w:World} {f:ResultVar→Sem Value}:∀ {l:List ResultVar} {vs:List Value},l.length=vs.length→(∀ (i:Nat) r v,l[i]? =some r→vs[i]? =some v→(f r).run P w= .ok v w)→
  (l.mapM f).run P w= .ok vs w
 | [],[],_,_=>rfl
 | r::l,v::vs,hl,h=>by
  rw[List.mapM_cons];simp only[Sem.run_bind,h 0 r v rfl rfl,Result.andThen_ok];rw[auc (l:=l) (vs:=vs) (by simpa using hl) (fun i r v h1 h2=>h (i+1) r v (by simpa using h1) (by simpa using h2))]
  rfl
 | [],_::_,h,_=>by cases h
 |_::_,[],h,_=>by cases h
def tupled:List Value→Value
 | [v]=>v
 |vs=> .tuple vs.toArray
theorem run_results {P:Program} {w:World} {fn:Func} {tmps:Array Value} {vs:List Value} (hl:fn.results.toList.length=vs.length)
  (h:∀ (i:Nat) r v,fn.results.toList[i]? =some r→vs[i]? =some v→(resRun tmps r).run P w= .ok v w):
  (results fn tmps).run P w= .ok (tupled vs) w:=by
 have e:∀ g:ResultVar→Sem Value,(∀ r,g r=resRun tmps r)→(fn.results.mapM g).run P w= .ok vs.toArray w:=fun g hg=>by
  have:g=resRun tmps:=funext hg;subst this;rw[Array.mapM_eq_mapM_toList,map_eq_pure_bind];simp only[Sem.run_bind,auc hl h,Result.andThen_ok,Sem.run_pure]
 unfold results;rw[Sem.run_bind,e _ (fun r=>by cases r<;>rfl),Result.andThen_ok]
 match vs with
 | []=>rfl
 | [v]=>rfl
 |_::_::_=>simp[tupled]
def ResIs (x:Cx) (s:Get) (cv:Loc→Option Value) (w:World) (dep:Nat) (v:Value):V→Prop
 | .own _ z es=>∃ l b o cap,v= .slice (some (ad3 b o)) es.length cap∧x.ow b=some (.at l)∧goneL dep l=true∧es.length≤cap∧Arr (freeB x) w b o cap z es
 | .d y=>Rd (freeB (x.leave dep none)) w v y
 |r=>RdV x s cv w none v r
def xf (P:Program):ResultVar→IRes→Prop
 | .tmp t,.t k=>k=t
 | .cell a t,.cell k z=>k=a∧zOpt P t=some z
 |_,_=>False
theorem q8:∀ {l:List ResultVar} {is:List IRes},cRes P l=some is→l.length=is.length∧∀ (i:Nat) rv ir,l[i]? =some rv→is[i]? =some ir→xf P rv ir
 | [],is,h=>by cases h;simp
 | .tmp t::r,is,h=>by
  simp only[cRes,yw] at h;obtain⟨l,h1,rfl⟩:=h;obtain⟨g1,g2⟩:=q8 h1;refine⟨by simp[g1],fun i rv ir e1 e2=> ?_⟩
  cases i with
  |zero=>simp at e1 e2;subst e1;subst e2;rfl
  |succ i=>exact g2 i rv ir (by simpa using e1) (by simpa using e2)
 | .cell a t::r,is,h=>by
  simp only[cRes] at h;split at h
  · rename_i z l hz h1
    cases h;obtain⟨g1,g2⟩:=q8 h1;refine⟨by simp[g1],fun i rv ir e1 e2=> ?_⟩
    cases i with
    |zero=>simp at e1 e2;subst e1;subst e2;exact⟨rfl,hz⟩
    |succ i=>exact g2 i rv ir (by simpa using e1) (by simpa using e2)
  · cases h
theorem avx {v:V} (h:v.plainV=true):v.isOwn=false:=by cases v<;>first|rfl|simp[V.plainV] at h
theorem l4 {s:Get} {cv:Loc→Option Value} {l:Option Loc} {v:Value} {r:V} (h:RdV x s cv w l v r) (hp:r.plainV=true) (dep:Nat):ResIs x s cv w dep v r:=by
 cases r with
 |d y=>exact(RdV.d_inv h).mono fun b o u h1 h2=>⟨dg h1,h2⟩
 |own nw z es=>simp[V.plainV] at hp
 |bor=>simp[V.plainV] at hp
 |bref=>simp[V.plainV] at hp
 |vec=>simp[V.plainV] at hp
 |rcd=>simp[V.plainV] at hp
 |vref=>simp[V.plainV] at hp
 |junk=>simp[V.plainV] at hp
 |iptr e off=>exact h.reloc rfl
 |ref d k off=>exact h.reloc rfl
 |clo f a b=>exact h.reloc rfl
 |ifc t v=>exact h.reloc rfl
theorem afs {s:Get} {cv:Loc→Option Value} {l:Loc} {v:Value} {nw nw':Bool} {z:Nat} {es:List D} (h:RdV x s cv w (some l) v (.own nw z es)) (hl:goneL dep l=true):ResIs x s cv w dep v (.own nw' z es):=by
 cases h with
 | own _ b o len cap _ _ _ how hlen hcap A=>
  subst hlen;exact⟨l,b,o,cap,rfl,how,hl,hcap,A⟩
theorem j6 {s:Get} {cv:Loc→Option Value} {v:Value} {r:V} {y:D} (h:ResIs x s cv w dep v r) (hr:resCell r=some y):Rd (freeB (x.leave dep none)) w v y:=by
 unfold resCell at hr;split at hr
 · cases hr;exact Rd.canon h
 · cases hr
   obtain⟨l,b,o,cap,rfl,how,hl,hcap,A⟩:=h;exact(A.mono (fun b o u h1 h2=>⟨dg h1,h2⟩) (fun _ _ h=>h) (fun _ _ _ h=>h)).rd (av5 how hl) rfl hcap
 · cases hr
   have h':RdV x s cv w none v _:=h;exact h'.iptr_rd.mono fun b o u h1 h2=>⟨dg h1,h2⟩
 · cases hr
theorem tr {s:Get} (R:Rel cfg x N s a w) {d k:Nat} (hd:dep≤d):∀ (n off:Nat) {cs:List D},gatherR s d k off n=some cs→cs.length=n∧(∀ c∈cs,c.isCell=true)∧
  ∀ (j:Nat) c,cs[j]? =some c→∃ v,w.cell? (ad3 (x.ad d k) (off+j))=some v∧Rd (freeB (x.leave dep none)) w v c
 |0,off,cs,h=>by cases h;simp
 | n+1,off,cs,h=>by
  unfold gatherR at h;split at h
  · rename_i y r h1 h2
    split at h
    · rename_i hcell
      cases h;obtain⟨g0,g1,g2⟩:=tr R hd n (off+1) h2;refine⟨by simp[g0],?_,fun j c hj=> ?_⟩
      · intro c hc
        rcases zr.1 hc with rfl|hc
        · exact hcell
        · exact g1 c hc
      · cases j with
        | zero=>
          simp at hj;subst hj;obtain⟨v0,h3,h4⟩:=y8.1 h1;obtain⟨u,hu,hr⟩:=R.locs (.cell ⟨d,k,off⟩) v0 h3;refine⟨u,hu,?_⟩;cases v0 with
          |own nw z es=>exact j6 (afs (nw':=nw) hr (dep:=dep) (by simp[goneL];exact hd)) h4
          |d y=>exact j6 (l4 hr rfl dep) h4
          |iptr e o=>exact j6 (l4 hr rfl dep) h4
          |_=>cases h4
        | succ j=>
          obtain⟨v,h5,h6⟩:=g2 j c (by simpa using hj)
          exact⟨v,by rw[← h5];congr 2;omega,h6⟩
    · cases h
  · cases h
theorem aye {s:Get} (R:Rel cfg x N s a w) {rv:ResultVar} {ir:IRes} (hm:xf P rv ir) {r:V} (h:resV dep s ir=some r):
  ∃ v,(resRun a.tmps rv).run P w= .ok v w∧ResIs x s (conc x a w) w dep v r:=by
 cases rv with
 | tmp t=>
  cases ir with
  |cell k z=>exact hm.elim
  | t k=>
   have hm':k=t:=hm;subst hm';have hloc:∀ v0,s (.slot k)=some v0→RdV x s (conc x a w) w (some (.slot k)) (a.tmps.getD k undef) v0:=fun v0 h0=>by
     obtain⟨u,hu,hr⟩:=R.locs (.slot k) v0 h0;simp only[conc,Option.some.injEq] at hu;rw[hu];exact hr
   refine⟨a.tmps.getD k undef,rfl,?_⟩;simp only[resV] at h;split at h
   · rename_i nw z es h0
     cases h;exact afs (hloc _ h0) rfl
   · rename_i v0 h0
     split at h
     · rename_i hp
       cases h;exact l4 (hloc _ ‹_›) hp dep
     · cases h
   · cases h
 | cell b t=>
  cases ir with
  |t k=>exact hm.elim
  | cell k z=>
   obtain⟨rfl,hz⟩:=hm;simp only[resV] at h;split at h
   · rename_i d j off h0
     split at h
     · rename_i hd
       obtain⟨u,hu,hr⟩:=R.locs (.slot k) _ h0;simp only[conc,Option.some.injEq] at hu;cases hr with
       |ref _ _ _ _ hal=>
       have hrun:∀ v,(loadVar t (ad3 (x.ad d j) off)).run P w= .ok v w→(resRun a.tmps (.cell k t)).run P w= .ok v w:=fun v h1=>by
        simp only[resRun,Sem.run_bind,hu,asAddr,Sem.run_pure,Result.andThen_ok,h1]
       cases z with
       | none=>
        have hld:∀ u,w.cell? (ad3 (x.ad d j) off)=some u→(loadVar t (ad3 (x.ad d j) off)).run P w= .ok u w:=fun u hu=>by
          simp only[loadVar,Sem.run_bind,(fb hz).1,Result.andThen_ok,zf,if_false,run_load,hu]
        simp only at h;split at h
        · rename_i nw z es h1
          cases h;obtain⟨u,hu,hr⟩:=R.locs (.cell ⟨d,j,off⟩) _ h1;exact⟨u,hrun u (hld u hu),afs hr (by simp[goneL];exact hd)⟩
        · split at h
          · rename_i hp
            cases h;obtain⟨u,hu,hr⟩:=R.locs (.cell ⟨d,j,off⟩) _ ‹_›;exact⟨u,hrun u (hld u hu),l4 hr hp dep⟩
          · cases h
        · cases h
       | some n=>
        simp only[yw] at h;obtain⟨cs,h1,rfl⟩:=h;obtain⟨g0,g1,g2⟩:=tr R hd n off h1;obtain⟨v,h2,h3⟩:=dl (P:=P) (b:=x.ad d j) (o:=off) (off:=0) (e:= .agg cs) (r:= .agg cs) hz ⟨g1,g2⟩ (by simp[ldD,D.cells,g0];subst g0;exact List.take_length)
        exact⟨v,hrun v h2,h3⟩
     · cases h
   · cases h
theorem ayf {s:Get} (R:Rel cfg x N s a w):∀ {rvs:List ResultVar} {irs:List IRes},rvs.length=irs.length→(∀ (i:Nat) rv ir,rvs[i]? =some rv→irs[i]? =some ir→xf P rv ir)→∀ {ds:List D},resD dep s irs=some ds→
  ∃ vs:List Value,vs.length=ds.length∧rvs.length=vs.length∧(∀ (i:Nat) r v,rvs[i]? =some r→vs[i]? =some v→(resRun a.tmps r).run P w= .ok v w)∧∀ (i:Nat) v d,vs[i]? =some v→ds[i]? =some d→Rd (freeB (x.leave dep none)) w v d
 | [],[],_,_,ds,h=>by cases h;exact⟨[],by simp⟩
 | rv::rvs,ir::irs,hl,hm,ds,h=>by
  unfold resD at h;split at h
  · rename_i d ds' h1 h2
    cases h;obtain⟨r,h3,h4⟩:=y8.1 h1;obtain⟨v,h5,h6⟩:=aye R (hm 0 rv ir rfl rfl) h3;obtain⟨vs,g1,g2,g3,g4⟩:=ayf R (rvs:=rvs) (irs:=irs) (by simpa using hl) (fun i rv ir e1 e2=>hm (i+1) rv ir (by simpa using e1) (by simpa using e2)) h2
    refine⟨v::vs,by simp[g1],by simp[g2],fun i r v' e1 e2=> ?_,fun i v' d' e1 e2=> ?_⟩
    · cases i with
      |zero=>simp at e1 e2;subst e1;subst e2;exact h5
      |succ i=>exact g3 i r v' (by simpa using e1) (by simpa using e2)
    · cases i with
      |zero=>simp at e1 e2;subst e1;subst e2;exact j6 h6 h4
      |succ i=>exact g4 i v' d' (by simpa using e1) (by simpa using e2)
  · cases h
 | [],_::_,h,_,_,_=>by cases h
 |_::_,[],h,_,_,_=>by cases h
theorem avs {st:St} (R:Rel cfg x N st.get a w) {fn:Func} {irs:List IRes} (hc:cRes P fn.results.toList=some irs) {r r':V} {m':List (Cel×V)} (h:resAll dep st.get irs=some r) (hl:leaveR dep r st.mem=some (r',m')):
  ∃ v x',(results fn a.tmps).run P w= .ok v w∧Rel cfg x' 0 (get0 m') act0 w∧ResOk x' (get0 m') (conc x' act0 w) w v r'∧Fr dep x x' w w:=by
 obtain⟨rfl,rfl,hup⟩:=qk hl;obtain⟨g1,g2⟩:=q8 hc;have hal:∀ d k,d<dep→(st.get (.cell ⟨d,k,0⟩)).isSome→(get0 (leaveM dep st.mem) (.cell ⟨d,k,0⟩)).isSome:=fun d k hd h=>by
  show(lk (leaveM dep st.mem) _).isSome;rw[gx,if_pos hd,Option.isSome_map];exact h
 have hc0:∀ res b o u,x.ow b=none→w.cell? (ad3 b o)=some u→(x.leave dep res).ow b=none∧w.cell? (ad3 b o)=some u:=fun res b o u h1 h2=>⟨dg h1,h2⟩
 have hmany:∀ ds,resD dep st.get irs=some ds→irs.length≠1→r'= .d (.tup ds)→∃ v x',(results fn a.tmps).run P w= .ok v w∧Rel cfg x' 0 (get0 (leaveM dep st.mem)) act0 w∧ResOk x' (get0 (leaveM dep st.mem)) (conc x' act0 w) w v r'∧Fr dep x x' w w:=by
  rintro ds hds hne rfl
  obtain⟨vs,e1,e2,e3,e4⟩:=ayf R g1 g2 hds;refine⟨_,x.leave dep none,run_results e2 e3,R.leave dep none,?_,.leave _ _ _⟩;have:tupled vs= .tuple vs.toArray:=by
   match vs,e2 with
   | [],_=>rfl
   | [v],e2=>exact absurd (g1.symm.trans e2) hne
   |_::_::_,_=>rfl
  rw[this];exact .d _ _ _ (.tup vs ds e1 e4)
 match irs,h,g1,g2,hmany with
 | [],h,g1,g2,hmany=>
  simp only[resAll,yw] at h;obtain⟨ds,h1,h2⟩:=h;exact hmany ds h1 yt h2.symm
 | _::_::_,h,g1,g2,hmany=>
  simp only[resAll,yw] at h;obtain⟨ds,h1,h2⟩:=h;exact hmany ds h1 yt h2.symm
 | [ir],h,g1,g2,_=>
  have h:resV dep st.get ir=some r':=h;obtain⟨rv,hrv⟩:∃ rv,fn.results.toList=[rv]:=List.length_eq_one_iff.1 g1
  obtain⟨v,h5,h6⟩:=aye R (g2 0 rv ir (by rw[hrv];rfl) rfl) h
  have hrun:(results fn a.tmps).run P w= .ok v w:=run_results (vs:=[v]) (by rw[hrv];rfl) (fun i r v' e1 e2=>by
   rw[hrv] at e1;cases i with
   |zero=>simp at e1 e2;subst e1;subst e2;exact h5
   |succ i=>simp at e1)
  cases r' with
  | own nw z es=>
   obtain⟨l,b,o,cap,rfl,how,hgl,hcap,A⟩:=h6;refine⟨_,x.leave dep (some l),hrun,R.leave dep _,⟨b,o,cap,rfl,a28 how hgl,hcap,?_⟩,.leave _ _ _⟩;exact A.mono (fun b o u h1 h2=>hc0 _ b o u h1 h2) (fun _ _ h=>h) (fun _ _ _ h=>h)
  |d y=>exact⟨v,x.leave dep none,hrun,R.leave dep _,.d _ _ _ h6,.leave _ _ _⟩
  |bor l off n=>simp[V.upTo] at hup
  |bref l off n=>simp[V.upTo] at hup
  |rcd ys=>simp[V.upTo] at hup
  |junk=>exact⟨v,x.leave dep none,hrun,R.leave dep _,.junk _ _,.leave _ _ _⟩
  |iptr e off=>exact⟨v,x.leave dep none,hrun,R.leave dep _,RdV.move dep h6 (hc0 _) (.refl _) (fun d k hd h=>⟨hal d k hd h,rfl⟩) (fun l0 e=>by cases e) hup,.leave _ _ _⟩
  |ref d k off=>exact⟨v,x.leave dep none,hrun,R.leave dep _,RdV.move dep h6 (hc0 _) (.refl _) (fun d k hd h=>⟨hal d k hd h,rfl⟩) (fun l0 e=>by cases e) hup,.leave _ _ _⟩
  |clo f p q=>exact⟨v,x.leave dep none,hrun,R.leave dep _,RdV.move dep h6 (hc0 _) (.refl _) (fun d k hd h=>⟨hal d k hd h,rfl⟩) (fun l0 e=>by cases e) hup,.leave _ _ _⟩
  |vec ys=>exact⟨v,x.leave dep none,hrun,R.leave dep _,RdV.move dep h6 (hc0 _) (.refl _) (fun d k hd h=>⟨hal d k hd h,rfl⟩) (fun l0 e=>by cases e) hup,.leave _ _ _⟩
  |vref y=>exact⟨v,x.leave dep none,hrun,R.leave dep _,RdV.move dep h6 (hc0 _) (.refl _) (fun d k hd h=>⟨hal d k hd h,rfl⟩) (fun l0 e=>by cases e) hup,.leave _ _ _⟩
  |ifc t y=>exact⟨v,x.leave dep none,hrun,R.leave dep _,RdV.move dep h6 (hc0 _) (.refl _) (fun d k hd h=>⟨hal d k hd h,rfl⟩) (fun l0 e=>by cases e) hup,.leave _ _ _⟩
theorem wb:∀ (vs:List V) (i k:Nat),lk (entry i vs) k=if i≤k then vs[k-i]? else none
 | [],i,k=>by simp[entry,lk]
 | v::vs,i,k=>by
  simp only[entry,lk];split
  · rename_i e;subst e;simp
  · rename_i e
    rw[wb vs (i+1) k];by_cases h:i≤k
    · rw[if_pos h,if_pos yp]
      have:k-i=(k-(i+1))+1:=yp;rw[this];rfl
    · rw[if_neg h,if_neg yp]
theorem Rel.enter {vs:List V} {m:List (Cel×V)} {args:Array Value} (E:Enters cfg x vs m args w) (hpl:∀ (k:Nat) (v:V),vs[k]? =some v→v.isOwn=false) {n:Nat} (hn:vs.length≤n):
   Rel cfg x n (St.get ⟨entry 0 vs,m⟩) ⟨args++Array.replicate (n-args.size) undef,[]⟩ w:=by
 have hslot:∀ k v,St.get ⟨entry 0 vs,m⟩ (.slot k)=some v→vs[k]? =some v:=fun k v h=>by
   have h':lk (entry 0 vs) k=some v:=h;rw[wb,if_pos (aad _)] at h';exact h'
 have hmono:∀ l v y,RdV x (get0 m) (conc x act0 w) w l v y→RdV x (St.get ⟨entry 0 vs,m⟩) (conc x ⟨args++Array.replicate (n-args.size) undef,[]⟩ w) w l v y:=fun l v y h=>by
   refine h.mono (fun b o u h1 h2=>⟨h1,h2⟩) (fun b o u h1 h2=>⟨⟨u,h1⟩,h2⟩) (fun l' z es hs=> ?_) (fun d k h=>⟨h,rfl⟩) (fun l0 _ b hb=>⟨hb,fun o u h=>h⟩)
   cases l' with
   |slot k=>have:=hpl k _ (hslot k _ hs);simp[V.isOwn] at this
   |cell c=>exact⟨es,hs,rfl,fun b o L C h=>⟨L,C,h⟩⟩
 have hsz:=E.size;refine⟨by simp;omega,.nil rfl,E.rel.bound,fun l v h=> ?_,fun k v h=> ?_,fun c v h=>E.rel.box c v h,E.rel.globs,E.rel.nofz,E.rel.gobj⟩
 · cases l with
   | slot k=>
    have h1:=hslot k v h;have hk:k<vs.length:=(y4.1 h1).1;refine⟨args[k]'(by omega),?_,((hmono _ _ _ ((E.args k _ v (zm yp) h1).rd (hpl k v h1))).reloc (hpl k v h1))⟩
    simp only[conc,Option.some.injEq];rw[Array.getD_eq_getD_getElem?,aah yp,zm yp];rfl
   | cell c=>
    obtain⟨u,hu,hr⟩:=E.rel.locs (.cell c) v h;exact⟨u,hu,hmono _ _ _ hr⟩
 · have h1:=hslot k v h
   have hk:k<vs.length:=(y4.1 h1).1;omega
theorem qg:∀ {vs:List V},oneOwn vs=true→∃ i z es,vs[i]? =some (.own false z es)∧∀ (j:Nat) v,vs[j]? =some v→j≠i→∃ d,v= .d d
 | [],h=>by simp[oneOwn] at h
 | v::vs,h=>by
  unfold oneOwn at h;split at h
  · rename_i z es r e
    cases e;refine⟨0,z,es,rfl,fun j v hj hne=> ?_⟩
    cases j with
    |zero=>exact absurd rfl hne
    | succ j=>
     have:=aac.1 h v (List.mem_of_getElem? hj);cases v<;>first|exact⟨_,rfl⟩|simp[V.isD] at this
  · rename_i d r e
    cases e;obtain⟨i,z,es,h1,h2⟩:=qg h;refine⟨i+1,z,es,h1,fun j v hj hne=> ?_⟩
    cases j with
    |zero=>cases hj;exact⟨_,rfl⟩
    |succ j=>exact h2 j v hj yp
  · cases h
theorem Rel.enterG {vs:List V} {m:List (Cel×V)} {args:Array Value} (E:Enters cfg x vs m args w) (hp:argsOk vs m=true) {n:Nat} (hn:vs.length≤n):
   ∃ x',Rel cfg x' n (St.get ⟨entry 0 vs,m⟩) ⟨args++Array.replicate (n-args.size) undef,[]⟩ w∧Fr dep x x' w w:=by
 unfold argsOk at hp;rw[aa3] at hp;rcases hp with hp|hp
 · exact⟨x,Rel.enter E (fun k v h=>avx (aac.1 hp _ (List.mem_of_getElem? h))) hn,.refl _ _ _⟩
 · rw[ze,List.isEmpty_iff] at hp
   obtain⟨rfl,hp⟩:=hp;obtain⟨i,z,es,hi,hd⟩:=qg hp;have hsz:=E.size;have hlt:i<vs.length:=(y4.1 hi).1;obtain⟨b,o,cap,hv,how,hcap,hA⟩:∃ b o cap,args[i]'(by omega)= .slice (some (ad3 b o)) es.length cap∧x.ow b=some .res∧es.length≤cap∧Arr (freeB x) w b o cap z es:=E.args i _ _ (zm yp) hi
   have hbn:∀ b',x.ow b'≠x.ow b→b'≠b:=fun b' h e=>h (e ▸ rfl)
   have hmono:∀ b' o' u,freeB x b'→w.cell? (ad3 b' o')=some u→freeB (x.give b (some (.at (.slot i)))) b'∧w.cell? (ad3 b' o')=some u:=fun b' o' u h1 h2=>by
     refine⟨?_,h2⟩;show(x.give b _).ow b'=none;rw[Cx.give_ne _ _ (hbn b' (by rw[how,show x.ow b'=none from h1];simp))]
     exact h1
   have hslot:∀ k v,St.get ⟨entry 0 vs,[]⟩ (.slot k)=some v→vs[k]? =some v:=fun k v h=>by
     have h':lk (entry 0 vs) k=some v:=h;rw[wb,if_pos (aad _)] at h';exact h'
   refine⟨x.give b (some (.at (.slot i))),⟨by simp;omega,.nil rfl,fun b' hb'=> ?_,fun l v h=> ?_,fun k v h=> ?_,(fun c v h=>by cases h),fun n e hg=>(E.rel.globs n e hg).mono hmono,E.rel.nofz_give (fun _=> .inl how),fun n ob hg=> ?_⟩,Fr.giveRes how _⟩
   · by_cases e:b'=b
     · subst e;exact E.rel.bound _ (by rw[how];simp)
     · rw[Cx.give_ne _ _ e] at hb';exact E.rel.bound _ hb'
   · cases l with
     |cell c=>cases h
     | slot k=>
       have h1:=hslot k v h;have hk:k<vs.length:=(y4.1 h1).1;refine⟨args[k]'(by omega),?_,?_⟩
       · simp only[conc,Option.some.injEq]
         rw[Array.getD_eq_getD_getElem?,aah yp,zm yp];rfl
       · by_cases e:k=i
         · subst e
           rw[hi] at h1;cases h1;rw[hv];exact .own _ b o _ cap z false es yt rfl hcap (hA.mono hmono (fun _ _ h=>h) (fun _ _ _ h=>h))
         · obtain⟨d,rfl⟩:=hd k v h1 e
           have:=RdV.d_inv (E.args k _ _ (zm yp) h1);exact .d _ _ _ (this.mono hmono)
   · have h1:=hslot k v h
     have hk:k<vs.length:=(y4.1 h1).1;omega
   · obtain⟨g1,g2⟩:=E.rel.gobj n ob hg
     exact⟨by rw[Cx.give_ne _ _ (hbn n (by rw[g1,how];simp))];exact g1,g2⟩
theorem run_enter {f:FuncId} {fn:Func} {c:Code} (hf:P.funcs[f]? =some fn) (hname:(fn.name=="runtime.NumGoroutine")=false) (hb:fn.body=some c) (args:Array Value) (w:World):
  (callFunc f args).run P w= .ok (.enter f args) w:=by
 have h1:fn.name≠"runtime.NumGoroutine":= by simpa using hname
 simp[callFunc,hf,h1,hb]
def rl (P:Program) (cfg:Cfg):Prop:=
 ∀ f fn,cfg.funcs f=some fn→∃ F ad c,P.funcs[f]? =some F∧(F.name=="runtime.NumGoroutine")=false∧F.body=some c∧cFunc P ad F=some fn
def ExtOk (P:Program) (cfg:Cfg):Prop:=
 ∀ f g,cfg.ext f=some g→∀ ds r,g ds=some r→∀ (F:Nat→Prop) (args:Array Value) (w:World),args.size=ds.length→(∀ (i:Nat) v d,args[i]? =some v→ds[i]? =some d→Rd F w v d)→(∀ n e,cfg.glob n=some e→PtrAt F w n 0 e)→(∀ n ob,cfg.gobj n=some ob→HoldsG w n ob)→
  Does P f args w fun v w'=>w.heap.size≤w'.heap.size∧(∀ b,b<w.heap.size→w'.heap[b]? =w.heap[b]?)∧SameIO w w'∧
   match r with
   | .own _ z es=>∃ b o cap,v= .slice (some (ad3 b o)) es.length cap∧w.heap.size≤b∧b<w'.heap.size∧es.length≤cap∧NoFz w' b∧Arr (fun b'=>(F b'∧b'<w.heap.size)∨(w.heap.size≤b'∧b'≠b)) w' b o cap z es
   | .d y=>Rd (fun b'=>F b'∨w.heap.size≤b') w' v y
   | .clo g [] ys=>∃ (vb:List Value) (es:List D),ys=es.map .d∧v= .func (.func g) #[] vb.toArray∧vb.length=es.length∧∀ (i:Nat) u e,vb[i]? =some u→es[i]? =some e→Rd (fun b'=>F b'∨w.heap.size≤b') w' u e
   |_=>False
theorem Rel.older {s:Get} (R:Rel cfg x N s a w) {w':World} (hz:w.heap.size≤w'.heap.size) (hh:∀ b,b<w.heap.size→w'.heap[b]? =w.heap[b]?) (hio:SameIO w w')
   {x':Cx} (hx:∀ b,b<w.heap.size→x'.ow b=x.ow b) (hx':∀ b,x'.ow b≠none→b<w'.heap.size) (had:x'.ad=x.ad) (hbs:x'.base=x.base) (hZ:∀ b,w.heap.size≤b→Held (x'.ow b)→NoFz w' b):Rel cfg x' N s a w'∧Fr dep x x' w w':=by
 have hlt:∀ b o u,w.cell? (ad3 b o)=some u→b<w.heap.size:=fun b o u h=>by simpa using World.block_lt_of_cell? _ _ h
 have hcell:∀ b o u,w.cell? (ad3 b o)=some u→w'.cell? (ad3 b o)=some u:=fun b o u h=>by rw[cell_of_heap (hh b (hlt b o u h))];exact h
 have hroom:Room w w':=fun b o u h1 h2=>⟨⟨u,hcell b o u h1⟩,by rw[bl (hh b (hlt b o u h1))];exact h2⟩
 refine⟨R.step [] R.size rfl hbs hx' (fun l _ v hv=>⟨hv,fun u hu=> ?_⟩) (fun l hl=>by simp at hl) (fun k hk=>by simp at hk) (fun b o u h1 h2=>⟨by rw[hx b (hlt b o u h2)];exact h1,hcell b o u h2⟩) hroom (fun l hl=>by simp at hl)
   (fun d k h=>⟨h,by rw[had]⟩) (fun l0 _ b hb=>⟨by rw[hx b (R.bound b (by rw[hb];simp))];exact hb,fun o u h=>hcell b o u h⟩) (fun c v hc=> ?_) (fun b h=> ?_) (fun b _ hb=>⟨hx b hb,hh b hb⟩),hz,fun b hb _=>⟨hh b hb,hx b hb⟩,fun _ _ _=>by rw[had],hio,hroom,hbs⟩
 · cases l with
   |slot k=>exact hu
   |cell c=>show w'.cell? (ad3 (x'.ad _ _) _)=_;rw[had];exact hcell _ _ _ hu
 · obtain⟨h1,h2,h3⟩:=R.box c v hc
   have hb:=R.bound _ (by rw[h1];simp)
   exact⟨by rw[had,hx _ hb];exact h1,h2,by rw[had,bl (hh _ hb)];exact h3⟩
 · by_cases hb:b<w.heap.size
   · rw[hx b hb] at h
     exact(R.nofz b h).heap (hh b hb)
   · exact hZ b yp h
end
end Go.Ev
namespace Go.Ev
open Go
section
variable {P:Program} {cfg:Cfg}
theorem ext_ok (hX:ExtOk P cfg) {f:FuncId} {g:List D→Option V} (hf:cfg.ext f=some g) {dep:Nat} {vs:List V} {m:List (Cel×V)} {r:V} (h:(allD vs).bind g=some r) {x:Cx} {w:World} {args:Array Value}
   (E:Enters cfg x vs m args w):Does P f args w fun v w'=>∃ x',Leaves cfg x x' dep m m r v w w':=by
 obtain⟨ds,h1,h2⟩:=y8.1 h;have hvs:=ml h1;subst hvs;have hfree:∀ b,w.heap.size≤b→x.ow b=none:=fun b hb=>by
   by_cases e:x.ow b=none
   · exact e
   · have:=E.rel.bound b e;omega
 refine(hX f g hf ds r h2 (freeB x) args w (by simpa using E.size) (fun i v d e1 e2=> ?_) ?_ (fun n ob h=>(E.rel.gobj n ob h).2)).mono ?_
 · exact RdV.d_inv (E.args i v (.d d) e1 (by rw[zg,e2];rfl))
 · exact E.rel.globs
 · rintro v w' ⟨hz,hh,hio,hr⟩
   cases r with
   | d y=>
     obtain⟨R',F'⟩:=E.rel.older (dep:=dep) (x':=x) hz hh hio (fun _ _=>rfl) (fun b hb=>zp (E.rel.bound b hb) hz) rfl rfl (fun b hb h=>by rw[hfree b hb] at h;rcases h with h|⟨_,h⟩<;>cases h)
     refine⟨x,R',.d _ _ _ (Rd.mono hr fun b o u h1 h2=>⟨?_,h2⟩),F',fun c _ h=>h⟩
     rcases h1 with h1|h1
     · exact h1
     · exact hfree b h1
   | own nw z es=>
     obtain⟨b,o,cap,rfl,hb,hb',hcap,hnf,A⟩:=hr;obtain⟨R',F'⟩:=E.rel.older (dep:=dep) (x':=x.give b (some .res)) hz hh hio (fun b' hlt=>Cx.give_ne _ _ yp) (fun b' hne=>by
       by_cases e:b'=b
       · omega
       · rw[Cx.give_ne _ _ e] at hne
         exact zp (E.rel.bound b' hne) hz) rfl rfl (fun b' hb' h=>by
       by_cases e:b'=b
       · subst e;exact hnf
       · rw[Cx.give_ne _ _ e,hfree b' hb'] at h;rcases h with h|⟨_,h⟩<;>cases h)
     refine⟨_,R',⟨b,o,cap,rfl,by simp[Cx.give],hcap,A.mono (fun b' o' u h1 h2=>⟨?_,h2⟩) (fun _ _ h=>h) (fun _ _ _ h=>h)⟩,F',fun c _ h=>h⟩
     rcases h1 with⟨h1,h3⟩|⟨h1,h3⟩
     · show(x.give b _).ow b'=none
       rw[Cx.give_ne _ _ yp];exact h1
     · show(x.give b _).ow b'=none
       rw[Cx.give_ne _ _ h3];exact hfree b' h1
   | clo g xs ys=>
     cases xs with
     |cons _ _=>exact hr.elim
     |nil=>
     obtain⟨vb,es,rfl,rfl,hl,hv⟩:=hr;obtain⟨R',F'⟩:=E.rel.older (dep:=dep) (x':=x) hz hh hio (fun _ _=>rfl) (fun b hb=>zp (E.rel.bound b hb) hz) rfl rfl (fun b hb h=>by rw[hfree b hb] at h;rcases h with h|⟨_,h⟩<;>cases h)
     refine⟨x,R',RdV.clo none g [] vb [] (es.map .d) rfl (by simpa using hl) (fun i v y h=>by simp at h) (fun i u y h1 h2=> ?_),F',fun c _ h=>h⟩
     rw[zg,yw] at h2;obtain⟨e,h3,rfl⟩:=h2;refine .d _ _ _ (Rd.mono (hv i u e h1 h3) fun b o u h1 h2=>⟨?_,h2⟩)
     rcases h1 with h1|h1
     · exact h1
     · exact hfree b h1
   |_=>exact hr.elim
theorem aw1 {ad:Advice} {F:Func} {fn:IFunc} (h:cFunc P ad F=some fn) {c:Code} (hb:F.body=some c):
   cRot P ad F.ntmps c=some fn.body∧cRes P F.results.toList=some fn.results∧fn.arity≤F.ntmps:=by
 unfold cFunc at h;rw[hb] at h;simp only at h;split at h
 · rename_i b rs h1 h2
   split at h
   · rename_i hle
     cases h;exact⟨h1,h2,hle⟩
   · cases h
 · cases h
theorem body_ok (hm:P.follows .mixedOrders=true) (hC:CfgOk P cfg) {orc:Orc} (hO:OrcOk P cfg orc) (hA:dq orc) {n:Nat} {f:FuncId} {F:Func} {ad:Advice} {c:Code} {fn:IFunc} (hf:P.funcs[f]? =some F) (hname:(F.name=="runtime.NumGoroutine")=false)
   (hb:F.body=some c) (hc:cFunc P ad F=some fn) {dep:Nat} {vs:List V} {m m':List (Cel×V)} {r:V} (h:evBody cfg orc n fn dep vs m=some (r,m')) (halive:∀ c:Cel,c.d<dep→(lk m c).isSome→(lk m' c).isSome) {x:Cx} {w:World} {args:Array Value}
   (E:Enters cfg x vs m args w):Does P f args w fun v w'=>∃ x',Leaves cfg x x' dep m m' r v w w':=by
 obtain⟨hcode,hres,har⟩:=aw1 hc hb;unfold evBody at h;split at h
 · rename_i hv
   obtain⟨x0,R0,F0⟩:=Rel.enterG (dep:=dep) E hv.2 (n:=F.ntmps) yp;have key:∀ {e st v},exitOf e= .normal∨exitOf e= .ret→evCode cfg orc dep n fn.body ⟨entry 0 vs,m⟩=some (e,st)→resAll dep st.get fn.results=some v→leaveR dep v st.mem=some (r,m')→Does P f args w fun v w'=>∃ x',Leaves cfg x x' dep m m' r v w w':=by
     intro e st v he hev h1 h2;refine .inr ⟨run_enter hf hname hb args w,callsIn_wide.1 (CallsIn.mono (n:=0) (R:=fun e w'=>∃ v,e= .returned v∧∃ x',Leaves cfg x x' dep m m' r v w w') (callsIn_of_wp_marks hf hb trivial (wpIn_wide.2 ?_)) (fun e w' h=>by obtain⟨v,rfl,h⟩:=h;exact h))⟩
     refine akl hm hC hO hA c fn.body hcode hev (R0.from rfl w.heap.size) (y7 _) (fun a' w' x' R' F'=> ?_)
     obtain⟨l,hl,hnd,hD⟩:=R'.defs;obtain⟨w2,R2,k1,k2,k3,k4,k5⟩:=Rel.shut (P:=P) (fn:=F) (T:=fun e w'=>∃ v,e= .returned v∧∃ x',Leaves cfg x x' dep m m' r v w w') l w' R'.undefer hnd hD
     obtain⟨u,x'',g1,g2,g3,g4⟩:=avs R2 hres h1 h2;have hb':x'.base=w.heap.size:=F'.base;have FT:Fr dep (x0.from w.heap.size) x'' w w2:=⟨aaa F'.size k1,fun b hb ho=>by
      obtain⟨q1,q2⟩:=F'.same b hb ho;have q3:=(g4.same b (zp hb (aaa F'.size k1)) (by rw[q2];exact ho)).2
      exact⟨(k2 b (by rw[hb'];exact hb)).trans q1,q3.trans q2⟩,fun d k hd=>(g4.ad d k hd).trans (F'.ad d k hd),F'.io.trans k3,F'.room.trans k4,g4.base.trans F'.base⟩
     have hp:LeavesInM Fence.wide 0 P F a'.tmps (fun e w'=>∃ v,e= .returned v∧∃ x',Leaves cfg x x' dep m m' r v w w') a'.defers .returning w':=by
      rw[hl];refine k5 ⟨u,g1,u,rfl,x''.from x.base,⟨g2.from rfl _,?_,F0.trans (by have:=FT.from;rwa [F0.base] at this),halive⟩⟩
      rw[qy];exact g3.from _
     rcases he with he|he<;>rw[he]<;>exact hp
   split at h
   · rename_i st hev
     obtain⟨v,h1,h2⟩:=y8.1 h;exact key (.inl rfl) hev h1 h2
   · rename_i st hev
     obtain⟨v,h1,h2⟩:=y8.1 h;exact key (.inr rfl) hev h1 h2
   · cases h
 · cases h
theorem fn_ok (hm:P.follows .mixedOrders=true) (hC:CfgOk P cfg) (hF:rl P cfg) (hX:ExtOk P cfg):∀ n,OrcOk P cfg (evFn cfg n)
 |0=>fun _ _ _ _ _ _ h=>by cases h
 | n+1=>fun f dep vs m r m' h x w args E=>by
  have halive:=xe cfg (n+1) f dep vs m r m' h;unfold evFn at h;split at h
  · rename_i g hg
    simp only[yw] at h;obtain⟨v,h1,he⟩:=h;cases he;exact ext_ok hX hg h1 E
  · split at h
    · rename_i fn hfn
      obtain⟨F,ad,c,h1,h2,h3,h4⟩:=hF f fn hfn;exact body_ok hm hC (fn_ok hm hC hF hX n) (xe cfg n) h1 h2 h3 h4 h halive E
    · cases h
end
