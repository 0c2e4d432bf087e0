import Derived.Test.YtkdiccgfbfbjlaaGreatL5
import Derived.RangeFuncNested
namespace Go.Ev
open Go Go.RowKit
variable {P:Program}
def ES (B:Nat) (W W':World):Prop:=W'.heap[B]? =W.heap[B]? ∧W'.heap[B+1]? =W.heap[B+1]?
theorem ES.trans {B:Nat} {X Y Z:World} (h:ES B X Y) (k:ES B Y Z):ES B X Z:=⟨k.1.trans h.1,k.2.trans h.2⟩
def Gt (B:Nat) (I:World→Prop):Prop:=∀ X Y row,I X→X.grownBy Y row→(∀ r,row=some r→r=B+1∧∃ o:Obj,X.heap[r]? =some o∧o.isCells=false)→I Y
theorem Gt.alloc {B:Nat} {I:World→Prop} (h:Gt B I) {W:World} (o:Obj) (hs:I W):I (W.alloc o):=h W _ none hs (World.grownBy_alloc W o none) (fun r e=>by cases e)
theorem Gt.putObj {B:Nat} {I:World→Prop} (h:Gt B I) {W:World} {o:Obj} (o':Obj) (hs:I W) (hl:W.heap[B+1]? =some o) (ho:o.isCells=false):I (W.putObj (B+1) o'):=
 h W _ (some (B+1)) hs (grownBy_putObj' W (B+1) o') (fun r e=>by cases e;exact⟨rfl,o,hl,ho⟩)
def S8 (B:Nat) (Kp:World→World→Prop) (I:World→Prop) (Ix:Code→World→Prop) (W:World):Exit→Act→World→Prop
 | .normal,_,W'=>ES B W W'∧Kp W W'∧I W'
 | .ret,_,W'=>ES B W W'∧Ix .ret W'
 | .exit id,_,W'=>ES B W W'∧Ix (.exit id) W'
 |_,_,_=>False
theorem bch {g:Operand} {ps:Array Tmp} {assign body:Code} {Q:Exit→Act→World→Prop} {a:Act} {w:World} {gf:Nat} {lb:Array Value} (hg:a.eval g= .func (.func gf) #[] lb)
   (eg:∀ args w,(callFunc gf args).run P w= .ok (.enter gf args) w) {xs:List (Array Value)} {Kp:World→World→Prop} (hseq:Qn P gf lb xs Kp w)
   (hKt:∀ {A B C:World},Kp A B→Kp B C→Kp A C) (hKb:∀ (W:World) (l:Nat) (o':Obj),w.heap.size≤l→Kp W (W.putObj l o'))
   (I:Nat→World→Prop) (Ix:Code→World→Prop) (hI:∀ i,Gt w.heap.size (I i)) (hIx:∀ c,Gt w.heap.size (Ix c)) (h0:I 0 w)
   (hps:∀ (i:Nat) (x:Array Value) (W:World),xs[i]? =some x→I i W→x.size=ps.size)
   (hround:∀ (l i:Nat) (x:Array Value) (W:World),xs[i]? =some x→I i W→w.heap.size+1<W.heap.size→(∃ o:Obj,W.heap[w.heap.size+1]? =some o∧o.isCells=false)→
     assign.wpIn (rnd l) 0 P (Exit.then (fun a1 W1=>ES w.heap.size W W1∧Kp W W1∧∀ o',body.wpIn (rnd l) 0 P (S8 w.heap.size Kp (I (i+1)) Ix (W1.putObj (w.heap.size+1) o')) a1 (W1.putObj (w.heap.size+1) o')) (fun _ _ _=>False))
       {tmps:=(ps.zip x).foldl (fun t (p,v)=>t.setIfInBounds p v) a.tmps,defers:=[]} W)
   (hdone:∀ (W:World),I xs.length W→w.heap.size<W.heap.size→W.heap[w.heap.size]? =some (.deferred (some []))→Q .normal {a with defers:=GI w.heap.size::a.defers} W)
   (hstop:∀ (c:Code) (W:World),Ix c W→w.heap.size<W.heap.size→W.heap[w.heap.size]? =some (.deferred (some []))→c.wpIn Fence.wide 0 P Q {a with defers:=GI w.heap.size::a.defers} W):
   (Code.rangeFunc g ps assign body).wpIn Fence.wide 0 P Q a w:=by
 refine wpIn_rangeFunc ?_;intro fn _;obtain⟨B,hB⟩:∃ B,B=w.heap.size:=⟨_,rfl⟩
 rw[← hB] at hKb hI hIx hround hdone hstop;obtain⟨rec,hrec⟩:∃ rec:LoopState→Option Code→Loop,rec=fun st pe=>{state:=st,pending:=pe,fn,tmps:=a.tmps,params:=ps,assign,body,defers:=B}:=⟨_,rfl⟩
 obtain⟨W1,hW1⟩:∃ W1,(w.alloc (.deferred (some []))).alloc (.loop (rec .ready none))=W1:=⟨_,rfl⟩
 have hL1:W1.heap[B+1]? =some (.loop (rec .ready none)):=by
   rw[← hW1,hB];have:=World.alloc_heap_new (w.alloc (.deferred (some []))) (.loop (rec .ready none));rwa [World.size_alloc] at this
 have hK1:W1.heap[B]? =some (.deferred (some [])):=by
   rw[← hW1,hB];exact(Below.heap_alloc _ _ _ abw).trans (World.alloc_heap_new w _)
 have hI1:I 0 W1:=by rw[← hW1];exact(hI 0).alloc _ ((hI 0).alloc _ h0)
 have hb1:Below w.heap.size w W1:=by
   rw[← hW1];exact((Below.refl _ w).alloc (ab5 _) _).alloc abw _
 have hnil:∀ {X Y:World},X.grownBy Y none→ES B X Y∨¬ B+1<X.heap.size:=fun {X Y} h=>by
   by_cases hlt:B+1<X.heap.size
   · exact .inl ⟨h.block B abu abw,h.block (B+1) hlt abw⟩
   · exact .inr hlt
 refine⟨B+1,[GI B],W1,{target:= .fn (.func gf) lb,args:= #[.func (.yield (B+1)) #[] #[]]},W1,gf,
   #[.func (.yield (B+1)) #[] #[]]++lb,W1,?_,?_,fun _ _=>trivial,?_,(fun h=>by cases h),?_⟩
 · rw[← hW1,hrec,hB];exact run_enterLoop_outer _ _ _ _ _
 · simp only[resolve,hg]
   simp[go_sem]
 · simp[invoke,go_sem,eg]
 · refine(hseq (B+1) (fun i W=>I i W∧W.heap[B+1]? =some (.loop (rec .ready none))∧W.heap[B]? =some (.deferred (some [])))
     (fun W=>∃ c,Ix c W∧W.heap[B+1]? =some (.loop (rec .done (some c)))∧W.heap[B]? =some (.deferred (some [])))
     W1 hb1 (fun i X Y hs hg'=> ?_) (fun X Y hs hg'=> ?_) ?_ ⟨hI1,hL1,hK1⟩).mono ?_
   · have hlt:=(act.1 hs.2.1).1
     obtain⟨k1,k2⟩:=(hnil hg').resolve_right abu;exact⟨hI i X Y none hs.1 hg' (fun r e=>by cases e),k2.trans hs.2.1,k1.trans hs.2.2⟩
   · obtain⟨c,h1,h2,h3⟩:=hs
     have hlt:=(act.1 h2).1;obtain⟨k1,k2⟩:=(hnil hg').resolve_right abu;exact⟨c,hIx c X Y none h1 hg' (fun r e=>by cases e),k2.trans h2,k1.trans h3⟩
   ·
     rintro i x W hx ⟨hi,hl,hk⟩
     have hlt:B+1<W.heap.size:=(act.1 hl).1;have hy:=run_yield (P:=P) (args:=x) hl (by rw[hrec];exact hps i x W hx hi)
     rw[hrec] at hy;refine⟨fn,_,assign,body,hy,roundIn_of_wpIn trivial (wpIn_mono (hround (B+1) i x W hx hi hlt ⟨_,hl,rfl⟩) ?_)⟩
     rintro e a1 Wa hq
     cases e with
     | normal=>
       obtain⟨hk2,hkp,hbody⟩:=hq;have hla:Wa.heap[B+1]? =some (.loop (rec .ready none)):=hk2.2.trans hl;have hka:Wa.heap[B]? =some (.deferred (some [])):=hk2.1.trans hk;have hlta:B+1<Wa.heap.size:=(act.1 hla).1;refine⟨_,run_beginRound hla (by rw[hrec]),wpIn_mono (hbody _) ?_⟩
       have hl2:(Wa.putObj (B+1) (.loop {rec .ready none with state:= .busy})).heap[B+1]? =some (.loop {rec .ready none with state:= .busy}):=World.putObj_heap_same hlta;have hk2':(Wa.putObj (B+1) (.loop {rec .ready none with state:= .busy})).heap[B]? =some (.deferred (some [])):=(World.putObj_heap_other abu).trans hka;have hw2:Kp Wa (Wa.putObj (B+1) (.loop {rec .ready none with state:= .busy})):=hKb _ _ _ abu;have fin:∀ (jump:Option Code) (W3:World),ES B (Wa.putObj (B+1) (.loop {rec .ready none with state:= .busy})) W3→
         (Instr.endRound (B+1) jump).run P W3= .ok (.bool jump.isNone) (W3.putObj (B+1) (.loop (rec (if jump.isNone then .ready else .done) jump)))∧
         W3.heap[B+1]? =some (.loop {rec .ready none with state:= .busy})∧
         (W3.putObj (B+1) (.loop (rec (if jump.isNone then .ready else .done) jump))).heap[B+1]? =some (.loop (rec (if jump.isNone then .ready else .done) jump))∧
         (W3.putObj (B+1) (.loop (rec (if jump.isNone then .ready else .done) jump))).heap[B]? =some (.deferred (some [])):=fun jump W3 hk3=>by
        have hl3:=hk3.2.trans hl2;have:=run_endRound (P:=P) jump hl3;rw[hrec] at this ⊢;exact⟨this,by rw[hrec] at hl3;exact hl3,World.putObj_heap_same (act.1 hl3).1,(World.putObj_heap_other abu).trans (hk3.1.trans hk2')⟩
       rintro e a3 W3 hp
       cases e with
       | normal=>
        obtain⟨hk3,hkp3,hi3⟩:=hp;obtain⟨hr,hl3,hl4,hk4⟩:=fin none W3 hk3;exact⟨_,_,hr,.inl ⟨rfl,⟨(hI _).putObj _ hi3 hl3 rfl,hl4,hk4⟩,hKt (hKt hkp hw2) (hKt hkp3 (hKb _ _ _ abu))⟩⟩
       | ret=>
        obtain⟨hk3,hi3⟩:=hp;obtain⟨hr,hl3,hl4,hk4⟩:=fin (some .ret) W3 hk3;exact⟨_,_,hr,.inr ⟨rfl,.ret,(hIx _).putObj _ hi3 hl3 rfl,hl4,hk4⟩⟩
       | exit id=>
        obtain⟨hk3,hi3⟩:=hp;obtain⟨hr,hl3,hl4,hk4⟩:=fin (some (.exit id)) W3 hk3;exact⟨_,_,hr,.inr ⟨rfl,.exit id,(hIx _).putObj _ hi3 hl3 rfl,hl4,hk4⟩⟩
       |goto t=>exact hp.elim
       |panic ch=>exact hp.elim
       |outgrown=>exact hp.elim
     |_=>exact hq.elim
   ·
     rintro e W2 ⟨⟨v,rfl⟩,(⟨hi,hl,hk⟩|⟨c,hi,hl,hk⟩)⟩
     · have hlt:B+1<W2.heap.size:=(act.1 hl).1
       exact⟨none,_,by have:=run_endLoop (P:=P) hl (by rw[hrec];simp);rw[hrec] at this;exact this,
        hdone _ ((hI _).putObj _ hi hl rfl) (by simp;omega) ((World.putObj_heap_other abu).trans hk)⟩
     · have hlt:B+1<W2.heap.size:=(act.1 hl).1
       exact⟨some c,_,by have:=run_endLoop (P:=P) hl (by rw[hrec];simp);rw[hrec] at this;exact this,
        hstop c _ ((hIx _).putObj _ hi hl rfl) (by simp;omega) ((World.putObj_heap_other abu).trans hk)⟩
end Go.Ev
namespace Go.Ev
open Go
def dy (AY:Orc):Prop:=∀ f dep vs m r m',AY f dep vs m=some (r,m')→∀ c:Cel,c.d<dep→(lk m c).isSome→(lk m' c).isSome
def BT (dep:Nat) (st Av:St):Prop:=∀ c:Cel,c.d<dep→(st.get (.cell c)).isSome→(Av.get (.cell c)).isSome
theorem BT.refl (dep:Nat) (st:St):BT dep st st:=fun _ _ h=>h
theorem BT.trans {dep:Nat} {s t u:St} (h:BT dep s t) (k:BT dep t u):BT dep s u:=fun c hc hs=>k c hc (h c hc hs)
theorem aa0:∀ (u:List (Loc×V)) (s:Get) (l:Loc),(s l).isSome→(AK s u l).isSome
 | [],_,_,h=>h
 | (l0,v)::r,s,l,h=>by
  refine aa0 r _ l ?_;show(if l=l0 then some v else s l).isSome
  split
  · rfl
  · exact h
theorem BT.upd (dep:Nat) (st:St) (u:List (Loc×V)):BT dep st (st.upd u):=fun c _ h=>by
 rw[eh];exact aa0 u _ _ h
section
variable {cfg:Cfg} {AY:Orc} {dep:Nat}
theorem aqa (hA:dy AY) {st Av:St} {dst:Option Nat} {own:Bool} {f:FuncId} {vs:List V} (h:B0 AY dep st dst own f vs=some Av):BT dep st Av:=by
 unfold B0 at h;split at h
 · split at h
   · rename_i r m hor
     split at h
     · have hk:BT dep st ⟨Ab dep st.env,Ao dep m⟩:=fun c hc hs=>by
         show(lk (Ao dep m) c).isSome;rw[j5,if_pos abu];exact hA f (dep+1) vs st.mem r m hor c abu hs
       split at h
       · cases h
         exact hk.trans (.upd _ _ _)
       · split at h
         · cases h
           exact hk.trans (.upd _ _ _)
         · cases h
     · cases h
   · cases h
 · cases h
theorem bbj (hA:dy AY) {st Av:St} {io:AS} (h:CX cfg AY dep st io=some Av):BT dep st Av:=by
 unfold CX at h;split at h
 · cases h
   exact .upd _ _ _
 · unfold BN at h
   split at h
   · split at h
     · split at h
       · exact aqa hA h
       · cases h
     · cases h
   · cases h
theorem akk (hA:dy AY):∀ (l:List AS) {st Av:St},CY cfg AY dep l st=some Av→BT dep st Av
 | [],_,_,h=>by cases h;exact .refl _ _
 | io::l,st,Av,h=>by
  unfold CY at h;split at h
  · rename_i s1 h1
    exact(bbj hA h1).trans (akk hA l h)
  · cases h
theorem vt {e0:List (Nat×V)}:∀ (l:List AS) {pre:Bool} {st Av:St} {r},Bf cfg AY dep e0 pre l st=some (r,Av)→BT dep st Av
 | [],_,_,_,_,h=>by cases h;exact .refl _ _
 | io::l,pre,st,Av,r,h=>by
  unfold Bf at h;split at h
  · split at h
    · rename_i r' s2 h2
      cases h;exact(BT.upd _ _ _).trans (vt l h2)
    · cases h
  · cases h
theorem akj (hA:dy AY) {l:List AS} {un:List (Nat×Nat)} {st Av:St} (h:A9 cfg AY dep l un st=some Av):BT dep st Av:=by
 unfold A9 at h;split at h
 · exact akk hA l h
 · split at h
   · rename_i r s2 h2
     split at h
     · cases h
       exact vt l h2
     · cases h
   · cases h
theorem aki (Ac:List Nat) (st:St):BT dep st (settle dep Ac st):=fun c _ h=>by
 show(lk (BG dep st.mem) c).isSome;rw[ll,Option.isSome_map];exact h
theorem vu {f:St→Option (Ex×St)} (hf:∀ st e Av,f st=some (e,Av)→BT dep st Av):∀ (m:Nat) {st Av:St} {e:Ex},Bj f m st=some (e,Av)→BT dep st Av
 |0,_,_,_,h=>by cases h
 | m+1,st,Av,e,h=>by
  unfold Bj at h;split at h
  · rename_i s1 h1
    exact(hf _ _ _ h1).trans (vu hf m h)
  · exact hf _ _ _ h
theorem iw (dep:Nat) (c:Cel):∀ m:List (Cel×V),lk (Ak dep m) c=if c.d<dep then(lk m c).map (V.Co dep) else none
 | []=>by simp[Ak,lk]
 | (c0,v)::r=>by
  have ih:=iw dep c r;unfold Ak;split
  · rename_i h
    simp only[lk];by_cases e:c0=c
    · subst e;simp[h]
    · simp[e,ih]
  · rename_i h
    rw[ih];simp only[lk];by_cases e:c0=c
    · subst e;simp[h]
    · simp[e]
theorem ap9 (dep:Nat) (e e':List (Nat×V)) (m:List (Cel×V)):BT (dep+1) ⟨e,m⟩ ⟨e',Ak (dep+1) m⟩:=fun c hc h=>by
 show(lk (Ak (dep+1) m) c).isSome;rw[iw,if_pos hc,Option.isSome_map];exact h
theorem BT.less {dep dep':Nat} {s t:St} (h:BT dep' s t) (hle:dep≤dep'):BT dep s t:=fun c hc=>h c (ac1 hc hle)
theorem vv {f:List D→List (Cel×V)→Option (Ex×List (Cel×V))} (hf:∀ x m e m',f x m=some (e,m')→∀ E E',BT dep ⟨E,m⟩ ⟨E',m'⟩):∀ (l:List (List D)) {m m':List (Cel×V)} {e:Ex},Bk f l m=some (e,m')→∀ E E',BT dep ⟨E,m⟩ ⟨E',m'⟩
 | [],m,m',e,h=>by cases h;exact fun E E' c _ h=>h
 | x::l,m,m',e,h=>by
  unfold Bk at h;split at h
  · rename_i m1 h1
    exact fun E E'=>(hf _ _ _ _ h1 E E).trans (vv hf l h E E')
  · exact hf _ _ _ _ h
theorem su {ca cb:St→Option (Ex×St)} (ha:∀ st e Av,ca st=some (e,Av)→BT (dep+1) st Av) (hb:∀ st e Av,cb st=some (e,Av)→BT (dep+1) st Av) {ps:List Nat} {e0:List (Nat×V)} {x:List D} {m m':List (Cel×V)} {e:Ex}
   (h:Bd ca cb dep ps e0 x m=some (e,m')) (E E':List (Nat×V)):BT (dep+1) ⟨E,m⟩ ⟨E',m'⟩:=by
 unfold Bd at h;split at h
 · rename_i e1 _
   split at h
   · rename_i s1 h1
     split at h
     · rename_i r s2 h2
       cases h;obtain⟨E2,m2⟩:=s2;exact fun c hc h=>(((ha _ _ _ h1).trans (hb _ _ _ h2)).trans (ap9 dep E2 E' m2)) c hc h
     · cases h
   · cases h
 · cases h
theorem o9 (hA:dy AY) {n:Nat} (ic:AA):∀ {dep:Nat} {st Av:St} {e:Ex},AH cfg AY dep n ic st=some (e,Av)→BT dep st Av:=by
 induction ic with
 |skip=>intro dep st Av e h;simp only[AH] at h;cases h;exact .refl _ _
 | region ops un Ac=>
  intro dep st Av e h;simp only[AH] at h;split at h
  · rename_i s1 h1
    cases h;exact(akj hA h1).trans (aki _ _)
  · cases h
 | seq a b iha ihb=>
  intro dep st Av e h;simp only[AH] at h;split at h
  · rename_i s1 h1
    exact(iha h1).trans (ihb h)
  · exact iha h
 | cond x a b iha ihb=>
  intro dep st Av e h;simp only[AH] at h;split at h
  · split at h
    · exact iha h
    · exact ihb h
  · exact iha (dq h).1
  · cases h
 | block id b ih=>
  intro dep st Av e h;simp only[AH] at h;split at h
  · rename_i id' s1 h1
    split at h<;>cases h<;>exact ih h1
  · exact ih h
 | loop b ih=>
  intro dep st Av e h;simp only[AH] at h;exact vu (fun st e Av h=>ih h) n h
 | each x ps a b iha ihb=>
  intro dep st Av e h;simp only[AH] at h;split at h
  · split at h
    · rename_i e' m' h2
      cases h;obtain⟨E,m⟩:=st;exact(vv (dep:=dep+1) (fun x m e m' h E E'=>su (fun _ _ _ h=>iha h) (fun _ _ _ h=>ihb h) h E E') _ h2 E _).less (Nat.le_succ _)
    · cases h
  · cases h
 |exit id=>intro dep st Av e h;simp only[AH] at h;cases h;exact .refl _ _
 |ret=>intro dep st Av e h;simp only[AH] at h;cases h;exact .refl _ _
 |BV ls=>intro dep st Av e h;simp only[AH] at h;cases h;exact fun c _ h=>h
 | AU ls=>
  intro dep st Av e h;simp only[AH] at h;cases h;unfold DL
  induction ls generalizing st with
  |nil=>exact .refl _ _
  |cons k ls ih=>exact(BT.upd dep st _).trans (ih (st:=st.upd (Fc st.get k)))
 | free k=>
  intro dep st Av e h;simp only[AH] at h;cases h;intro c hc hs;show(lk (Bv dep k st.mem) c).isSome;rw[qq,if_neg abu,Option.isSome_map];exact hs
 |bad=>intro dep st Av e h;simp[AH] at h
theorem sr {dep:Nat} {v v':V} {m m':List (Cel×V)} (h:C4 dep v m=some (v',m')):v'=v∧m'=Ak dep m∧v.A4 dep=true:=by
 unfold C4 at h;split at h
 · rename_i hu
   cases h;exact⟨rfl,rfl,hu⟩
 · cases h
theorem aao (cfg:Cfg):∀ n,dy (BU cfg n)
 |0=>fun _ _ _ _ _ _ h=>by cases h
 | n+1=>fun f dep vs m r m' h c hc hs=>by
  unfold BU at h;split at h
  · simp only[abz] at h
    obtain⟨v,_,he⟩:=h;cases he;exact hs
  · split at h
    · rename_i fn _
      unfold DM at h;split at h
      · have key:∀ {e st v},AH cfg (BU cfg n) dep n fn.body ⟨entry 0 vs,m⟩=some (e,st)→C4 dep v st.mem=some (r,m')→(lk m' c).isSome:=fun h1 h2=>by
          obtain⟨_,e2,_⟩:=sr h2;rw[e2,iw,if_pos hc,Option.isSome_map];exact o9 (aao cfg n) fn.body h1 c hc hs
        split at h
        · rename_i st h1
          obtain⟨v,_,he⟩:=ab7.1 h;exact key h1 he
        · rename_i st h1
          obtain⟨v,_,he⟩:=ab7.1 h;exact key h1 he
        · cases h
      · cases h
    · cases h
end
end Go.Ev
namespace Go.Ev
open Go Go.RowKit
def FI (dep:Nat):Loc→Bool
 | .slot _=>true
 | .cell c=>decide (dep≤c.d)
def Cx.leave (x:Cx) (dep:Nat) (res:Option Loc):Cx:={x with ow:=fun b=>match x.ow b with
 |some (.at l)=>if FI dep l then(if res=some l then some .res else none) else some (.at l)
 |o=>o}
theorem dl {x:Cx} {dep:Nat} {res:Option Loc} {b:Nat} (h:x.ow b=none):(x.leave dep res).ow b=none:=by simp[Cx.leave,h]
theorem bbh {x:Cx} {dep:Nat} {res:Option Loc} {b:Nat} {l:Loc} (h:x.ow b=some (.at l)) (hl:FI dep l=false):(x.leave dep res).ow b=some (.at l):=by simp[Cx.leave,h,hl]
theorem bbi {x:Cx} {dep:Nat} {b:Nat} {l:Loc} (h:x.ow b=some (.at l)) (hl:FI dep l=true):(x.leave dep none).ow b=none:=by simp[Cx.leave,h,hl]
theorem blr {x:Cx} {dep:Nat} {b:Nat} {l:Loc} (h:x.ow b=some (.at l)) (hl:FI dep l=true):(x.leave dep (some l)).ow b=some .res:=by simp[Cx.leave,h,hl]
section
variable {P:Program} {cfg:Cfg} {x:Cx} {N dep:Nat} {a:Act} {w:World}
theorem RdV.Co {x x':Cx} {s s':Get} {cv cv':Loc→Option Value} {l:Loc} {u:Value} {v:V} (n:Nat) (h:RdV x s cv w (some l) u v)
  (hc:∀ b o u,x.ow b=none→w.cell? (ad3 b o)=some u→x'.ow b=none∧w.cell? (ad3 b o)=some u)
  (hB:∀ d k,d<n→(s (.cell ⟨d,k,0⟩)).isSome→(s' (.cell ⟨d,k,0⟩)).isSome∧x'.ad d k=x.ad d k)
  (hO:∀ b,x.ow b=some (.at l)→x'.ow b=some (.at l)):RdV x' s' cv' w (some l) u (v.Co n):=by
 have go:(if v.A4 n then v else .AM)=v.Co n→RdV x' s' cv' w (some l) u (v.Co n):=fun e=>by
  rw[← e];split
  · rename_i hup
    exact h.move n hc (.refl _) hB (fun l0 e b hb=>by cases e;exact⟨hO b hb,fun o u h=>h⟩) hup
  · exact .AM _ _
 cases v with
 | own nw z es=>
  cases h with
  |own _ b o len cap _ _ _ how hlen Ad A=>exact .own _ _ _ _ _ _ _ _ (hO b how) hlen Ad (A.mono (fun b o u h1 h2=>hc b o u h1 h2) (fun _ _ h=>h) (fun _ _ _ h=>h))
 |_=>exact go rfl
theorem Rel.leave {st:St} (R:Rel cfg x N st.get a w) (dep:Nat) (res:Option Loc):Rel cfg (x.leave dep res) 0 (D1 (Ak dep st.mem)) Ee w:=by
 have hc:∀ b o u,x.ow b=none→w.cell? (ad3 b o)=some u→(x.leave dep res).ow b=none∧w.cell? (ad3 b o)=some u:=fun b o u h1 h2=>⟨dl h1,h2⟩
 have Ag:∀ c v',D1 (Ak dep st.mem) (.cell c)=some v'→c.d<dep∧∃ v,st.get (.cell c)=some v∧v'=v.Co dep:=fun c v' h=>by
   have h':lk (Ak dep st.mem) c=some v':=h;rw[iw] at h';split at h'
   · rename_i hd
     rw[abz] at h';obtain⟨v,h1,h2⟩:=h';exact⟨hd,v,h1,h2.symm⟩
   · cases h'
 have hal:∀ d k,d<dep→(st.get (.cell ⟨d,k,0⟩)).isSome→(D1 (Ak dep st.mem) (.cell ⟨d,k,0⟩)).isSome:=fun d k hd h=>by
   show(lk (Ak dep st.mem) _).isSome;rw[iw,if_pos hd,Option.isSome_map];exact h
 refine⟨rfl,.nil rfl,fun b hb=>R.bound b fun e=>hb (dl e),fun l v' h=> ?_,(fun k v h=>by cases h),fun c v' h=> ?_,fun n e hg=>(R.C7 n e hg).mono hc,fun b h=>R.Bo b ?_,fun n ob hg=>⟨dl (R.CV n ob hg).1,(R.CV n ob hg).2⟩⟩
 rotate_left 2
 · simp only[Cx.leave] at h
   split at h
   · rename_i l e;exact .inr ⟨l,e⟩
   · exact h
 · cases l with
   |slot k=>cases h
   | cell c=>
     obtain⟨hd,v,h1,rfl⟩:=Ag c v' h;obtain⟨u,hu,hr⟩:=R.Bl (.cell c) v h1;exact⟨u,hu,hr.Co dep hc (fun d k hd h=>⟨hal d k hd h,rfl⟩) (fun b hb=>bbh hb (by simp[FI];omega))⟩
 · obtain⟨hd,v,h1,rfl⟩:=Ag c v' h
   obtain⟨g1,g2,g3⟩:=R.box c v h1;exact⟨by simp[Cx.leave,g1],hal _ _ hd g2,g3⟩
theorem Fr.leave (dep':Nat) (dep:Nat) (res:Option Loc):Fr dep' x (x.leave dep res) w w:=
 ⟨ab5 _,fun b _ h=>⟨rfl,by rcases h with h|h<;>simp[Cx.leave,h]⟩,fun _ _ _=>rfl,.refl _,.refl _,rfl⟩
end
section
variable {P:Program} {cfg:Cfg} {x:Cx} {N dep:Nat} {a:Act} {w:World}
theorem fm (dep:Nat):∀ m:List (Cel×V),Ao dep (Ak (dep+1) m)=Ak (dep+1) m
 | []=>rfl
 | (c,v)::r=>by
  unfold Ak;split
  · rename_i h
    simp only[Ao,fm dep r];rw[if_pos abu]
  · exact fm dep r
theorem ban (n:Nat) (v:V):(v.Co n).A4 n=true:=by
 unfold V.Co;split
 · rfl
 · split
   · assumption
   · rfl
theorem me (n:Nat):∀ m:List (Cel×V),(Ak n m).all (fun p=>p.2.A4 n)=true
 | []=>rfl
 | (c,v)::r=>by
  unfold Ak;split
  · simp only[List.all_cons,ban,me n r,Bool.and_self]
  · exact me n r
theorem bao (dep:Nat) (v:V):(v.BX dep).BX dep=v.BX dep:=by
 have h:∀ u:V,u.BX dep=u∨u.BX dep= .AM:=fun u=>by
   unfold V.BX;split
   · exact .inl rfl
   · exact .inl rfl
   · split
     · exact .inl rfl
     · exact .inr rfl
 rcases h v with e|e
 · rw[e,e]
 · rw[e];rfl
theorem p8 (dep:Nat):∀ e:List (Nat×V),Ab dep (Ab dep e)=Ab dep e
 | []=>rfl
 | (k,v)::r=>by simp only[Ab,bao,p8 dep r]
theorem nc (k:Nat):∀ e:List (Nat×V),lk (Bu e) k=(lk e k).map V.C3
 | []=>rfl
 | (k',v)::r=>by
  simp only[Bu,lk];split
  · rfl
  · exact nc k r
theorem Rel.Ab {e:List (Nat×V)} {m:List (Cel×V)} (R:Rel cfg x N (St.get ⟨e,m⟩) a w) (dep:Nat):Rel cfg x N (St.get ⟨Ab dep e,m⟩) a w:=by
 refine R.same (fun l v' h=> ?_) (fun c v h=>(R.box c v h).2.1)
 have mv:∀ v l u,RdV x (St.get ⟨e,m⟩) (Aa x a w) w (some l) u v→RdV x (St.get ⟨Go.Ev.Ab dep e,m⟩) (Aa x a w) w (some l) u v:=fun v l u hr=>by
  refine hr.mono (fun b o u h1 h2=>⟨h1,h2⟩) (fun b o u h1 h2=>⟨⟨u,h1⟩,h2⟩) (fun l' z es hs=> ?_) (fun d k h=>⟨h,rfl⟩) (fun l0 _ b hb=>⟨hb,fun o u h=>h⟩)
  cases l' with
  |cell c=>exact⟨es,hs,rfl,fun b o L C h=>⟨L,C,h⟩⟩
  | slot k=>
    have h2:lk (Go.Ev.Ab dep e) k=some (.own false z es):=hs;rw[dj,abz] at h2;obtain⟨v1,h3,h4⟩:=h2;refine⟨es,?_,rfl,fun b o L C h=>⟨L,C,h⟩⟩
    show lk e k=_;rw[h3];unfold V.BX at h4;split at h4
    · cases h4
    · cases h4
    · split at h4
      · rw[h4]
      · cases h4
 cases l with
 |cell c=>exact⟨v',h,fun u hr=>mv _ _ _ hr⟩
 | slot k=>
  have h':lk (Go.Ev.Ab dep e) k=some v':=h;rw[dj,abz] at h';obtain⟨v,h1,rfl⟩:=h';refine⟨v,h1,fun u hr=> ?_⟩
  unfold V.BX;split
  · exact mv _ _ _ hr
  · exact mv _ _ _ hr
  · split
    · exact mv _ _ _ hr
    · exact .AM _ _
theorem Rel.P3 {s:Get} (R:Rel cfg x N s a w) {w':World} {K:Nat} (hK:K<w.heap.size→(x.ow K=none∨x.ow K=some .outer∧a.defers=[])∧∀ c t fr,w.heap[K]? ≠some (.cells c t fr)) (hz:w.heap.size≤w'.heap.size)
   (hh:∀ b,b<w.heap.size→b≠K→w'.heap[b]? =w.heap[b]?) (hio:Bh w w') (dep:Nat):Rel cfg x N s a w'∧FrK K dep x x w w':=by
 have hlt:∀ b o u,w.cell? (ad3 b o)=some u→b<w.heap.size:=fun b o u h=>by simpa using World.block_lt_of_cell? _ _ h
 have hcK:∀ b o u,w.cell? (ad3 b o)=some u→b≠K:=fun b o u h e=>by
   subst e;have:=(hK (hlt _ _ _ h)).2;unfold World.cell? at h;split at h
   · rename_i c t fr e;exact this _ _ _ e
   · cases h
 have Ag:∀ b o u,w.cell? (ad3 b o)=some u→w'.cell? (ad3 b o)=some u:=fun b o u h=>by rw[Ap (hh b (hlt b o u h) (hcK b o u h))];exact h
 have hroom:Room w w':=fun b o u h1 h2=>⟨⟨u,Ag b o u h1⟩,by rw[bn (hh b (hlt b o u h1) (hcK b o u h1))];exact h2⟩
 have hKn:∀ b o,x.ow b=some o→o≠ .outer→b≠K:=fun b o h ho e=>by
   subst e;rcases(hK (R.bound _ (by rw[h];simp))).1 with h1|⟨h1,_⟩
   · rw[h] at h1;cases h1
   · rw[h] at h1;cases h1;exact ho rfl
 have CQ:∀ l u,Aa x a w l=some u→Aa x a w' l=some u:=fun l u h=>by
   cases l with
   |slot k=>exact h
   |cell c=>exact Ag _ _ _ h
 have hdf:E9 x a w':=by
   by_cases hn:a.defers=[]
   · exact .nil hn
   · refine R.defs.mono R.bound rfl rfl (fun b h hb=>⟨rfl,hh b hb (fun e=> ?_)⟩)
     subst e;rcases(hK hb).1 with h1|⟨_,h1⟩
     · rw[h] at h1;cases h1
     · exact hn h1
 refine⟨⟨R.size,hdf,fun b hb=>ac1 (R.bound b hb) hz,fun l v h=> ?_,R.CB,fun c v h=> ?_,fun n e hg=>(R.C7 n e hg).mono (fun b o u h1 h2=>⟨h1,Ag b o u h2⟩),fun b h=> ?_,fun n ob hg=> ?_⟩,
   hz,fun b hb _=>⟨hh b hb,rfl⟩,fun _ _ _=>rfl,hio,hroom,rfl⟩
 · obtain⟨u,hu,hr⟩:=R.Bl l v h
   exact⟨u,CQ l u hu,hr.mono (fun b o u h1 h2=>⟨h1,Ag b o u h2⟩) hroom (fun l' z es hs=>⟨es,hs,rfl,fun b o L C h=>⟨L,C,CQ _ _ h⟩⟩) (fun d k h=>⟨h,rfl⟩) (fun l0 _ b hb=>⟨hb,fun o u h=>Ag b o u h⟩)⟩
 · obtain⟨h1,h2,h3⟩:=R.box c v h
   have hb:=R.bound _ (by rw[h1];simp)
   exact⟨h1,h2,by rw[bn (hh _ hb (hKn _ _ h1 abw))];exact h3⟩
 · have:∃ o,x.ow b=some o∧o≠ .outer:=by rcases h with h|⟨_,h⟩<;>exact⟨_,h,by simp⟩
   obtain⟨o,ho,Ai⟩:=this;exact(R.Bo b h).heap (hh b (R.bound b (by rw[ho];simp)) (hKn b o ho Ai))
 · obtain⟨g1,t,fr,g2⟩:=R.CV n ob hg
   have hlt':=(act.1 g2).1;exact⟨g1,Cf.heap ⟨t,fr,g2⟩ (hh n hlt' (fun e=>by subst e;exact(hK hlt').2 _ _ _ g2))⟩
theorem Rel.lS {e:List (Nat×V)} {m:List (Cel×V)} (R:Rel cfg x N (St.get ⟨e,m⟩) a w):Rel cfg x.CP N (St.get ⟨Bu e,m⟩) ⟨a.tmps,[]⟩ w:=by
 have hc:∀ b o u,x.ow b=none→w.cell? (ad3 b o)=some u→x.CP.ow b=none∧w.cell? (ad3 b o)=some u:=fun b o u h1 h2=>⟨ay h1,h2⟩
 have mv:∀ l u v,v.A5=false∨(∃ c,l=some (.cell c))→RdV x (St.get ⟨e,m⟩) (Aa x a w) w l u v→RdV x.CP (St.get ⟨Bu e,m⟩) (Aa x.CP ⟨a.tmps,[]⟩ w) w l u v:=fun l u v hno hr=>by
   have hr':=hr;have go:∀ l0,(∀ l1,l0=some l1→∃ c,l1= .cell c)→RdV x (St.get ⟨e,m⟩) (Aa x a w) w l0 u v→RdV x.CP (St.get ⟨Bu e,m⟩) (Aa x.CP ⟨a.tmps,[]⟩ w) w l0 u v:=fun l0 hl0 hr=>by
     refine hr.mono hc (fun b o u h1 h2=>⟨⟨u,h1⟩,h2⟩) (fun l' z es hs=> ?_) (fun d k h=>⟨h,rfl⟩) (fun l1 e1 b hb=> ?_)
     · cases l' with
       |cell c'=>exact⟨es,hs,rfl,fun b o L C h=>⟨L,C,h⟩⟩
       | slot k=>
        have h2:lk (Bu e) k=some (.own false z es):=hs;rw[nc,abz] at h2;obtain⟨v1,_,h4⟩:=h2;cases v1<;>cases h4
     · obtain⟨c,rfl⟩:=hl0 l1 e1
       exact⟨by simp[Cx.CP,hb],fun o u h=>h⟩
   rcases hno with hno|⟨c,rfl⟩
   · exact(go none (fun l1 e=>by cases e) (hr.Cm hno)).Cm hno
   · exact go _ (fun l1 e=>by cases e;exact⟨c,rfl⟩) hr
 refine⟨R.size,.nil rfl,fun b hb=>R.bound b (fun e=>hb (ay e)),fun l v h=> ?_,fun k v h=> ?_,fun c v h=> ?_,fun n e hg=>(R.C7 n e hg).mono hc,fun b h=>R.Bo b ?_,fun n ob hg=>⟨ay (R.CV n ob hg).1,(R.CV n ob hg).2⟩⟩
 · cases l with
   | cell c=>
     obtain⟨u,hu,hr⟩:=R.Bl (.cell c) v h;exact⟨u,hu,mv _ _ _ (.inr ⟨c,rfl⟩) hr⟩
   | slot k=>
     have h2:lk (Bu e) k=some v:=h;rw[nc,abz] at h2;obtain⟨v1,h3,rfl⟩:=h2;obtain⟨u,hu,hr⟩:=R.Bl (.slot k) v1 h3;refine⟨u,hu,?_⟩;cases v1 with
     |own=>exact .AM _ _
     |bor=>exact .AM _ _
     |Am=>exact .AM _ _
     |rcd=>exact .AM _ _
     |_=>exact mv _ _ _ (.inl rfl) hr
 · have h2:lk (Bu e) k=some v:=h
   rw[nc,abz] at h2;obtain⟨v1,h3,_⟩:=h2;exact R.CB k v1 h3
 · obtain⟨h1,h2,h3⟩:=R.box c v h
   exact⟨by simp[Cx.CP,h1],h2,h3⟩
 · simp only[Cx.CP] at h
   split at h
   · rcases h with h|⟨_,h⟩<;>cases h
   · rcases h with h|⟨_,h⟩<;>cases h
   · exact h
theorem Rel.eC (ps:List Nat):∀ (vs:List Value) (ds:List D) (e e1:List (Nat×V)) (m:List (Cel×V)) (a:Act),D6 ps ds e=some e1→Rel cfg x N (St.get ⟨e,m⟩) a w→(∀ p∈ps,p<N)→vs.length=ds.length→
  (∀ (j:Nat) v d,vs[j]? =some v→ds[j]? =some d→Rd (AE x) w v d)→Rel cfg x N (St.get ⟨e1,m⟩) {a with tmps:=(ps.zip vs).foldl (fun t (p,v)=>t.setIfInBounds p v) a.tmps} w:=by
 induction ps with
 | nil=>
  intro vs ds e e1 m a h R _ _ _;cases ds with
  |nil=>cases h;exact R
  |cons d ds=>cases h
 | cons p ps ih=>
  intro vs ds e e1 m a h R hp hl hv;cases ds with
  |nil=>cases h
  | cons d ds=>
   cases vs with
   |nil=>simp at hl
   | cons v vs=>
    have R1:=R.put (k:=p) (hp p abw) (v:=v) (y:= .d d) rfl (l:=none) (.d _ _ _ (hv 0 v d rfl rfl));have hs:AK (St.get ⟨e,m⟩) [(.slot p,.d d)]=St.get ⟨st e p (.d d),m⟩:=by
     have:=eh [(Loc.slot p,V.d d)] ⟨e,m⟩;rw[← this];rfl
    rw[hs] at R1;exact ih vs ds _ e1 m _ h R1 (fun q hq=>hp q (by simp[hq])) (by simpa using hl) (fun j v d h1 h2=>hv (j+1) v d (by simpa using h1) (by simpa using h2))
theorem Rel.mark {s:Get} (R:Rel cfg x N s a w) {B:Nat} (hb:x.base≤B) (hB:x.ow B=none) (hd:w.heap[B]? =some (.deferred (some []))):Rel cfg (x.AU B (some .outer)) N s {a with defers:=GI B::a.defers} w:=by
 have hno:∀ b o u,w.cell? (ad3 b o)=some u→b≠B:=fun b o u h e=>by
   subst e;simp[World.cell?,hd] at h
 have hc:∀ b o u,x.ow b=none→w.cell? (ad3 b o)=some u→(x.AU B (some .outer)).ow b=none∧w.cell? (ad3 b o)=some u:=fun b o u h1 h2=>⟨by rw[Cx.AO _ _ (hno b o u h2)];exact h1,h2⟩
 have Ai:∀ b o,x.ow b=some o→b≠B:=fun b o h e=>by subst e;rw[hB] at h;cases h
 refine⟨R.size,?_,fun b hb=> ?_,fun l v h=> ?_,R.CB,fun c v h=> ?_,fun n e hg=>(R.C7 n e hg).mono hc,fun b h=> ?_,fun n ob hg=> ?_⟩
 · obtain⟨l,h1,h2,h3⟩:=R.defs
   refine⟨B::l,by simp[h1],List.nodup_cons.2 ⟨fun hm=>Ai B _ (h3 B hm).2.1 rfl,h2⟩,fun D hD=> ?_⟩
   rcases ach.1 hD with rfl|hD
   · exact⟨hb,by simp,hd⟩
   · obtain⟨g0,g1,g2⟩:=h3 D hD
     exact⟨g0,by rw[Cx.AO _ _ (Ai D _ g1)];exact g1,g2⟩
 · by_cases e:b=B
   · subst e;exact(act.1 hd).1
   · rw[Cx.AO _ _ e] at hb;exact R.bound b hb
 · obtain⟨u,hu,hr⟩:=R.Bl l v h
   refine⟨u,by cases l<;>exact hu,hr.mono hc (fun b o u h1 h2=>⟨⟨u,h1⟩,h2⟩) (fun l' z es hs=>⟨es,hs,rfl,fun b o L C h=>⟨L,C,by cases l'<;>exact h⟩⟩) (fun d k h=>⟨h,rfl⟩) (fun l0 _ b hb=>⟨by rw[Cx.AO _ _ (Ai b _ hb)];exact hb,fun o u h=>h⟩)⟩
 · obtain⟨h1,h2,h3⟩:=R.box c v h
   exact⟨by rw[Cx.D0,Cx.AO _ _ (Ai _ _ h1)];exact h1,h2,h3⟩
 · by_cases e:b=B
   · subst e;simp only[Cx.EZ] at h;rcases h with h|⟨_,h⟩<;>cases h
   · rw[Cx.AO _ _ e] at h;exact R.Bo b h
 · obtain⟨g1,g2⟩:=R.CV n ob hg
   refine⟨?_,g2⟩;rw[Cx.AO _ _ (fun e=> ?_)]
   · exact g1
   · subst e
     obtain⟨t,fr,g2⟩:=g2;rw[hd] at g2;cases g2
theorem SV (ps:Array Nat) (xs:Array Value) (t:Array Value):(ps.zip xs).foldl (fun t (p,v)=>t.setIfInBounds p v) t=(ps.toList.zip xs.toList).foldl (fun t (p,v)=>t.setIfInBounds p v) t:=by
 rw[← Array.foldl_toList,Array.toList_zip]
def mC:Ex→Code
 | .normal=> .skip
 | .ret=> .ret
 | .exit id=> .exit id
theorem tg {f:List D→List (Cel×V)→Option (Ex×List (Cel×V))} {it:List D} {r:List (List D)} {m m':List (Cel×V)} {e:Ex} (h:Bk f (it::r) m=some (e,m')):
   ∃ e1 m1,f it m=some (e1,m1)∧((e1= .normal∧Bk f r m1=some (e,m'))∨(e1≠ .normal∧e1=e∧m1=m')):=by
 unfold Bk at h;split at h
 · rename_i m1 h1
   exact⟨_,_,h1,.inl ⟨rfl,h⟩⟩
 · rename_i hno
   exact⟨_,_,h,.inr ⟨fun e0=>hno m' (by rw[h,e0]),rfl,rfl⟩⟩
theorem gy {ca cb:St→Option (Ex×St)} {ps:List Nat} {e0:List (Nat×V)} {it:List D} {m m':List (Cel×V)} {e:Ex} (h:Bd ca cb dep ps e0 it m=some (e,m')):
   ∃ e1 s1 s2,D6 ps it (Bu e0)=some e1∧ca ⟨e1,m⟩=some (.normal,s1)∧cb s1=some (e,s2)∧m'=Ak (dep+1) s2.mem:=by
 unfold Bd at h;split at h
 · rename_i e1 h1
   split at h
   · rename_i s1 h2
     split at h
     · rename_i r s2 h3
       cases h;exact⟨e1,s1,s2,h1,h2,h3,rfl⟩
     · cases h
   · cases h
 · cases h
theorem aj3:∀ {ps:List Nat} {ds:List D} {e e1:List (Nat×V)},D6 ps ds e=some e1→ds.length=ps.length
 | [],[],_,_,_=>rfl
 | p::ps,d::ds,e,e1,h=>by
  have h':D6 ps ds (st e p (.d d))=some e1:=h;simp[aj3 h']
 | [],_::_,_,_,h=>by cases h
 |_::_,[],_,_,h=>by cases h
def Cx.from (x:Cx) (k:Nat):Cx:={x with base:=k}
theorem RdV.from {s:Get} {cv:Loc→Option Value} {l:Option Loc} {u:Value} {v:V} (h:RdV x s cv w l u v) (k:Nat):RdV (x.from k) s cv w l u v:=
 h.mono (fun b o u h1 h2=>⟨h1,h2⟩) (fun b o u h1 h2=>⟨⟨u,h1⟩,h2⟩) (fun l' z es hs=>⟨es,hs,rfl,fun b o L C h=>⟨L,C,h⟩⟩) (fun d k h=>⟨h,rfl⟩) (fun l0 _ b hb=>⟨hb,fun o u h=>h⟩)
theorem tn (k:Nat):Aa (x.from k) a w=Aa x a w:=by funext l;cases l<;>rfl
theorem Rel.from {s:Get} (R:Rel cfg x N s a w) (hd:a.defers=[]) (k:Nat):Rel cfg (x.from k) N s a w:=
 ⟨R.size,.nil hd,R.bound,fun l v h=>let⟨u,hu,hr⟩:=R.Bl l v h;⟨u,by rw[tn];exact hu,by rw[tn];exact hr.from k⟩,R.CB,R.box,R.C7,R.Bo,R.CV⟩
theorem Fr.from {x':Cx} {w':World} {k:Nat} (h:Fr dep (x.from k) x' w w'):Fr dep x (x'.from x.base) w w':=⟨h.size,h.same,h.ad,h.io,h.room,rfl⟩
theorem D9.from {s:Get} {cv:Loc→Option Value} {v:Value} {r:V} (h:D9 x s cv w v r) (k:Nat):D9 (x.from k) s cv w v r:=by
 cases r with
 |own nw z es=>exact h
 |_=>exact RdV.from h k
theorem Rel.Wq {s:Get} (R:Rel cfg x N s a w):Rel cfg x N s ⟨a.tmps,[]⟩ w:=by
 have e:Aa x ⟨a.tmps,[]⟩ w=Aa x a w:=by funext l;cases l<;>rfl
 exact⟨R.size,.nil rfl,R.bound,fun l v h=>let⟨u,hu,hr⟩:=R.Bl l v h;⟨u,by rw[e];exact hu,by rw[e];exact hr⟩,R.CB,R.box,R.C7,R.Bo,R.CV⟩
theorem Rel.shut {s:Get} {tmps:Array Value} {fn:Func} {T:Ending→World→Prop}:∀ (l:List Nat) (w:World),Rel cfg x N s ⟨tmps,[]⟩ w→l.Nodup→(∀ D∈l,x.base≤D∧x.ow D=some .outer∧w.heap[D]? =some (.deferred (some [])))→
  ∃ w',Rel cfg x N s ⟨tmps,[]⟩ w'∧w.heap.size≤w'.heap.size∧(∀ b,b<x.base→w'.heap[b]? =w.heap[b]?)∧Bh w w'∧Room w w'∧
   (LeavesIn Fence.wide 0 P fn tmps T [] .returning w'→LeavesInM Fence.wide 0 P fn tmps T (l.map GI) .returning w)
 | [],w,R,_,_=>⟨w,R,ab5 _,fun _ _=>rfl,.refl _,.refl _,fun h=>h⟩
 | D::l,w,R,hn,hD=>by
  obtain⟨h1,h2,h3⟩:=hD D abw;obtain⟨hno,hn'⟩:=List.nodup_cons.1 hn;obtain⟨R1,F1⟩:=R.P3 (K:=D) (w':=w.putObj D (.deferred none)) (fun _=>⟨.inr ⟨h2,rfl⟩,fun c t fr h=>by rw[h3] at h;cases h⟩) abw (fun b _ Ai=>World.putObj_heap_other Ai) ⟨rfl,rfl,rfl⟩ 0
  obtain⟨w',R',g1,g2,g3,g4,g5⟩:=Rel.shut l _ R1 hn' (fun D' hD'=>by
   obtain⟨k1,k2,k3⟩:=hD D' (by simp[hD'])
   refine⟨k1,k2,?_⟩;rw[World.putObj_heap_other (by rintro rfl;exact hno hD')];exact k3)
  refine⟨w',R',ac7 F1.size g1,fun b hb=> ?_,F1.io.trans g3,F1.room.trans g4,fun h=>⟨by simp,.inl ⟨D,_,rfl,run_takeDeferred h3,g5 h⟩⟩⟩
  rw[g2 b hb,World.putObj_heap_other abu]
end
end Go.Ev
namespace Go.Ev
open Go
section
variable {P:Program} {cfg:Cfg} {N dep:Nat}
theorem a9s {AY:Orc} {n:Nat} {a:Act} {w:World} {x:Cx} {e:Ex} {Av:St}:∀ (fs:List Nat) (r:AA) (st:St),Rel cfg x N st.get a w→AH cfg AY dep n (fs.foldl (fun c k=> .seq (.free k) c) r) st=some (e,Av)→
  ∃ st1,Rel cfg x N st1.get a w∧AH cfg AY dep n r st1=some (e,Av)
 | [],r,st,R,h=>⟨st,R,h⟩
 | k::fs,r,st,R,h=>by
  obtain⟨st1,R1,h1⟩:=a9s fs (.seq (.free k) r) st R h;simp only[AH] at h1;exact⟨_,R1.free k,h1⟩
def FOk (F:Fence) (c:Code):Prop:=F=Fence.wide∨∃ r,F=rnd r∧ig c=true
theorem FOk.seq {F:Fence} {a b:Code} (h:FOk F (.seq a b)):FOk F a∧FOk F b:=by
 rcases h with h|⟨r,h,h2⟩
 · exact⟨.inl h,.inl h⟩
 · simp only[ig,aca] at h2
   exact⟨.inr ⟨r,h,h2.1⟩,.inr ⟨r,h,h2.2⟩⟩
theorem FOk.cond {F:Fence} {x:Operand} {a b:Code} (h:FOk F (.cond x a b)):FOk F a∧FOk F b:=by
 rcases h with h|⟨r,h,h2⟩
 · exact⟨.inl h,.inl h⟩
 · simp only[ig,aca] at h2
   exact⟨.inr ⟨r,h,h2.1⟩,.inr ⟨r,h,h2.2⟩⟩
theorem FOk.block {F:Fence} {id:Nat} {b:Code} (h:FOk F (.block id b)):FOk F b:=by
 rcases h with h|⟨r,h,h2⟩
 · exact .inl h
 · exact .inr ⟨r,h,by simpa only[ig] using h2⟩
theorem FOk.loop {F:Fence} {b:Code} (h:FOk F (.loop b)):FOk F b:=by
 rcases h with h|⟨r,h,h2⟩
 · exact .inl h
 · exact .inr ⟨r,h,by simpa only[ig] using h2⟩
theorem akn {v:V} {l:List (List D)} (h:DC cfg v=some l):∃ f g ds,v= .clo f [] (ds.map .d)∧cfg.iter f=some g∧g ds=some l:=by
 unfold DC at h;split at h
 · rename_i f caps
   split at h
   · rename_i g ds h1 h2
     have:=oc h2;subst this;exact⟨f,g,ds,rfl,h1,h⟩
   · cases h
 · cases h
theorem bm2 {AY:Orc} (hm:P.follows .mixedOrders=true) (hC:CM P cfg) (hO:CL P cfg AY) (hA:dy AY) {ad:AJ} {n:Nat}:∀ (c:Code) (ic:AA),Bm P ad N c=some ic→∀ {F:Fence},FOk F c→∀ {dep:Nat} {st Av:St} {e:Ex} {x:Cx} {a:Act} {w:World} {Q:Exit→Act→World→Prop},
  AH cfg AY dep n ic st=some (e,Av)→Rel cfg x N st.get a w→x.base≤w.heap.size→(∀ a' w' x',Rel cfg x' N Av.get a' w'→Fr dep x x' w w'→Q (nu e) a' w')→c.wpIn F 0 P Q a w:=by
 intro c
 induction c with
 | skip=>
  intro ic CF F hF dep st Av e x a w Q BD R hbs hQ;cases CF;simp only[AH] at BD;cases BD;exact wpIn_skip (hQ a w x R (.refl _ _ _))
 | region id ops draw=>
  intro ic CF F hF dep st Av e x a w Q BD R hbs hQ;simp only[Bm] at CF;split at CF
  · rename_i l hl
    split at CF
    · cases CF
      simp[AH] at BD
    · rename_i hbk
      cases CF;obtain⟨st1,R1,h1⟩:=a9s _ _ st R BD;have hreg:∀ (st2:St) (x2:Cx),Rel cfg x2 N st2.get a w→Fr dep x x2 w w→AH cfg AY dep n (.region l (if draw then az (a7 [] (ops.toList.map ao)) else[]) (look ad.Ac id)) st2=some (e,Av)→(Code.region id ops draw).wpIn F 0 P Q a w:=by
        intro st2 x2 R2 F2 h2;simp only[AH] at h2;split at h2
        · rename_i st3 h3
          cases h2;rcases hF with rfl|⟨r,rfl,hro⟩
          · exact wpIn_wide.2 (bdl hm hC hO hl (fun hd=>by rw[hd] at hbk;simpa using hbk) R2 h3 (fun a' w' x' R' F'=>hQ a' w' x' (R'.settle _) (F2.trans F')))
          · refine ba3 hm hC hO hl (fun hd=>by rw[hd] at hbk;simpa using hbk) (fun j o ho c hc=> ?_) R2 h3 (fun a' w' x' R' F'=>hQ a' w' x' (R'.settle _) (F2.trans F'))
            have:=adn.1 hro o (List.mem_of_getElem? (by rw[Array.getElem?_toList];exact ho))
            rw[hc] at this;cases this
        · cases h2
      have hcool:∀ (st2:St) (x2:Cx),Rel cfg x2 N st2.get a w→Fr dep x x2 w w→AH cfg AY dep n (if(look ad.VT id).isEmpty then .region l (if draw then az (a7 [] (ops.toList.map ao)) else[]) (look ad.Ac id) else .seq (.AU (look ad.VT id)) (.region l (if draw then az (a7 [] (ops.toList.map ao)) else[]) (look ad.Ac id))) st2=some (e,Av)→(Code.region id ops draw).wpIn F 0 P Q a w:=by
        intro st2 x2 R2 F2 h2;split at h2
        · exact hreg st2 x2 R2 F2 h2
        · simp only[AH] at h2
          obtain⟨x3,R3,F3⟩:=Rel.DL (dep:=dep) (look ad.VT id) R2;exact hreg _ x3 R3 (F2.trans F3) (by simpa only[AH] using h2)
      split at h1
      · exact hcool st1 x R1 (.refl _ _ _) h1
      · simp only[AH] at h1
        obtain⟨x2,R2,F2⟩:=Rel.Qi (dep:=dep) (look ad.BV id) R1;exact hcool _ x2 R2 F2 (by split at h1<;>(rename_i hq;simp only[hq,if_true,if_false,acb];first|exact h1| (simp only[AH] at h1 ⊢;exact h1)))
  · cases CF
 | seq c d ihc ihd=>
  intro ic CF F hF dep st Av e x a w Q BD R hbs hQ;obtain⟨hFc,hFd⟩:=hF.seq;simp only[Bm] at CF;split at CF
  · rename_i ic1 ic2 h1 h2
    cases CF;simp only[AH] at BD;refine wpIn_seq ?_;split at BD
    · rename_i st1 hst1
      exact ihc ic1 h1 hFc hst1 R hbs (fun a' w' x' R' F=>ihd ic2 h2 hFd BD R' (by rw[F.base];exact ac7 hbs F.size) (fun a'' w'' x'' R'' F'=>hQ a'' w'' x'' R'' (F.trans F')))
    · rename_i r hno
      refine ihc ic1 h1 hFc BD R hbs (fun a' w' x' R' F=> ?_)
      have:=hQ a' w' x' R' F;cases e with
      |normal=>exact absurd BD (fun h=>hno Av h)
      |ret=>exact this
      |exit id=>exact this
  · cases CF
 | cond c y z ihy ihz=>
  intro ic CF F hF dep st Av e x a w Q BD R hbs hQ;obtain⟨hFy,hFz⟩:=hF.cond;simp only[Bm] at CF;split at CF
  · rename_i ix i1 i2 hx h1 h2
    cases CF;simp only[AH] at BD;split at BD
    · rename_i t hv
      have hb:=(B9 R hx hv).Cc;refine wpIn_cond hb ?_;cases t
      · exact ihz i2 h2 hFz (by simpa using BD) R hbs hQ
      · exact ihy i1 h1 hFy (by simpa using BD) R hbs hQ
    · rename_i hv
      obtain⟨t,hb⟩:=(B9 R hx hv).Hc;obtain⟨g1,g2⟩:=dq BD;refine wpIn_cond hb ?_;cases t
      · exact ihz i2 h2 hFz g2 R hbs hQ
      · exact ihy i1 h1 hFy g1 R hbs hQ
    · cases BD
  · cases CF
 | block id b ih=>
  intro ic CF F hF dep st Av e x a w Q BD R hbs hQ;simp only[Bm,abz] at CF;obtain⟨ib,hib,rfl⟩:=CF;simp only[AH] at BD;refine wpIn_block ?_;split at BD
  · rename_i id' st1 hst1
    refine ih ib hib hF.block hst1 R hbs (fun a' w' x' R' F=> ?_)
    simp only[nu,Exit.inBlock];split at BD
    · rename_i hid
      cases BD;rw[if_pos hid];exact hQ a' w' x' R' F
    · rename_i hid
      cases BD;rw[if_neg hid];exact hQ a' w' x' R' F
  · rename_i r hno
    refine ih ib hib hF.block BD R hbs (fun a' w' x' R' F=> ?_)
    have:=hQ a' w' x' R' F;cases e with
    |normal=>exact this
    |ret=>exact this
    |exit id'=>exact absurd BD (fun h=>hno id' Av h)
 | loop b ih=>
  intro ic CF F hF dep st Av e x a w Q BD R hbs hQ;simp only[Bm,abz] at CF;obtain⟨ib,hib,rfl⟩:=CF;simp only[AH] at BD;refine eP (fun m a1 w1=>∃ st1 x1,Rel cfg x1 N st1.get a1 w1∧Fr dep x x1 w w1∧Bj (AH cfg AY dep n ib) m st1=some (e,Av)) ?_ ?_ (m:=n) ⟨st,x,R,.refl _ _ _,BD⟩
  · rintro a1 w1 ⟨st1,x1,_,_,h⟩
    simp[Bj] at h
  · rintro m a1 w1 ⟨st1,x1,R1,F1,h⟩
    unfold Bj at h;split at h
    · rename_i st2 h2
      exact ih ib hib hF.loop h2 R1 (by rw[F1.base];exact ac7 hbs F1.size) (fun a' w' x' R' F=>⟨st2,x',R',F1.trans F,h⟩)
    · rename_i r hno
      refine ih ib hib hF.loop h R1 (by rw[F1.base];exact ac7 hbs F1.size) (fun a' w' x' R' F=> ?_)
      have:=hQ a' w' x' R' (F1.trans F);cases e with
      |normal=>exact absurd h (fun h=>hno Av h)
      |ret=>exact this
      |exit id=>exact this
 | exit id=>
  intro ic CF F hF dep st Av e x a w Q BD R hbs hQ;cases CF;simp only[AH] at BD;cases BD;exact wpIn_exit (hQ a w x R (.refl _ _ _))
 | ret=>
  intro ic CF F hF dep st Av e x a w Q BD R hbs hQ;cases CF;simp only[AH] at BD;cases BD;exact wpIn_ret (hQ a w x R (.refl _ _ _))
 | rangeFunc g ps ca cb iha ihb=>
  intro ic CF F hF dep st Av e x a w Q BD R hbs hQ;have hwide:F=Fence.wide:=by
    rcases hF with h|⟨r,_,h⟩
    · exact h
    · cases h
  subst hwide;simp only[Bm] at CF;split at CF
  · rename_i hok
    simp only[aca] at hok;obtain⟨⟨hra,hrb⟩,hps⟩:=hok;split at CF
    · rename_i ix ia ib hg hia hib
      cases CF;simp only[AH] at BD;split at BD
      · rename_i l hl
        split at BD
        · rename_i e' m' hev1
          cases BD;obtain⟨v,hv,hit⟩:=ab7.1 hl;obtain⟨f,gi,ds,rfl,hcf,hgi⟩:=akn hit;obtain⟨lo,hr,_⟩:=bb R hg hv;generalize hge:a.eval g=ge at hr;cases hr with
          |clo _ _ va vb _ _ hl1 hl2 h1 h2=>
          have hva:va=[]:=by simpa using hl1
          subst hva;obtain⟨eg,hcon⟩:=hC.iter f gi hcf;have hlb:vb.toArray.size=ds.length:=by simpa using hl2
          obtain⟨xs,hxl,hxr,htell⟩:=hcon ds l hgi (AE x) vb.toArray w hlb (fun i v d e1 e2=>by
            have:=h2 i v (.d d) (by simpa using e1) (by rw[acf,e2];rfl)
            exact RdV.An this)
          obtain⟨E,m⟩:=st;have nw:∀ b,w.heap.size≤b→x.ow b=none:=fun b hb=>by
            by_cases e:x.ow b=none
            · exact e
            · have:=R.bound b e;omega
          have item:∀ {i:Nat} {y:Array Value},xs[i]? =some y→∃ it,l[i]? =some it∧l.drop i=it::l.drop (i+1):=fun {i y} hi=>by
            have hlt:i<l.length:=hxl ▸ (ab1.1 hi).1;exact⟨l[i],ab0 hlt,adm hlt⟩
          have fin:∀ (W:World) (xi:Cx),Rel cfg xi N (St.get ⟨Ab dep E,m'⟩) a W→Fr dep x xi w W→xi.ow w.heap.size=none→W.heap[w.heap.size]? =some (.deferred (some []))→Q (nu e) {a with defers:=GI w.heap.size::a.defers} W:=fun W xi Ri Fi hBi hd=>by
            refine hQ _ W (xi.AU w.heap.size (some .outer)) (Ri.mark (by rw[Fi.base];exact hbs) hBi hd) ⟨Fi.size,fun b hb ho=>⟨(Fi.same b hb ho).1,?_⟩,Fi.ad,Fi.io,Fi.room,Fi.base⟩
            rw[Cx.AO _ _ abu];exact(Fi.same b hb ho).2
          have stays:∀ (mi:List (Cel×V)) (X Y:World) (row:Option Nat) (xi:Cx),Rel cfg xi N (St.get ⟨Ab dep E,mi⟩) a X→Fr dep x xi w X→xi.ow (w.heap.size+1)=none→X.grownBy Y row→(∀ r,row=some r→r=w.heap.size+1∧∃ o:Obj,X.heap[r]? =some o∧o.isCells=false)→
              Rel cfg xi N (St.get ⟨Ab dep E,mi⟩) a Y∧Fr dep x xi w Y:=fun mi X Y row xi Ri Fi h1 hgr hrow=>by
            obtain⟨K,hK1,hK2⟩:∃ K,(K<X.heap.size→(xi.ow K=none∨xi.ow K=some .outer∧a.defers=[])∧∀ c t fr,X.heap[K]? ≠some (.cells c t fr))∧(∀ b,b<X.heap.size→b≠K→some b≠row)∧w.heap.size≤K:=by
              cases row with
              |none=>exact⟨X.heap.size,fun h=>absurd h (Nat.lt_irrefl _),fun b _ _=>by simp,Fi.size⟩
              | some r=>
               obtain⟨rfl,o,ho,hno⟩:=hrow r rfl;exact⟨_,fun _=>⟨.inl h1,fun c t fr h=>by rw[ho] at h;cases h;cases hno⟩,fun b _ Ai he=>Ai (by cases he;rfl),by omega⟩
            obtain⟨Ri',Fi'⟩:=Ri.P3 hK1 hgr.size (fun b hb Ai=>hgr.block b hb (hK2.1 b hb Ai)) ⟨hgr.os,hgr.tape,hgr.output⟩ dep
            exact⟨Ri',((Fi.toK K).trans Fi').bW hK2.2⟩
          refine bch (xs:=xs) hge eg htell ?_ ?_
            (fun i W=>∃ mi xi,Bk (Bd (AH cfg AY (dep+1) n ia) (AH cfg AY (dep+1) n ib) dep ps.toList (Ab dep E)) (l.drop i) mi=some (e,m')∧Rel cfg xi N (St.get ⟨Ab dep E,mi⟩) a W∧Fr dep x xi w W∧xi.ow w.heap.size=none∧xi.ow (w.heap.size+1)=none)
            (fun c W=>∃ xi,c=mC e∧e≠ .normal∧Rel cfg xi N (St.get ⟨Ab dep E,m'⟩) a W∧Fr dep x xi w W∧xi.ow w.heap.size=none∧xi.ow (w.heap.size+1)=none)
            ?_ ?_ ⟨m,x,hev1,R.Ab dep,.refl _ _ _,nw _ (ab5 _),nw _ (Nat.le_succ _)⟩ ?_ ?_ ?_ ?_
          · exact fun h k b hb hlt=>(k b hb hlt).trans (h b hb hlt)
          · exact fun W k o' hk b hb hlt=>World.putObj_heap_other abu
          · rintro i X Y row ⟨mi,xi,h1,Ri,Fi,h2,h3⟩ hgr hrow
            obtain⟨g1,g2⟩:=stays mi X Y row xi Ri Fi h3 hgr hrow;exact⟨mi,xi,h1,g1,g2,h2,h3⟩
          · rintro c X Y row ⟨xi,h0,h1,Ri,Fi,h2,h3⟩ hgr hrow
            obtain⟨g1,g2⟩:=stays m' X Y row xi Ri Fi h3 hgr hrow;exact⟨xi,h0,h1,g1,g2,h2,h3⟩
          · rintro i y W hy ⟨mi,xi,h1,_⟩
            obtain⟨it,hit,hdr⟩:=item hy;rw[hdr] at h1;obtain⟨e1,m1,h4,_⟩:=tg h1;obtain⟨e2,s1,s2,h5,_⟩:=gy h4;have:=(hxr i y it hy hit).1;rw[this,aj3 h5,Array.length_toList]
          · rintro r i y W hy ⟨mi,xi,h1,Ri,Fi,hB0,hB1⟩ hlt ⟨o,ho,hno⟩
            obtain⟨it,hit,hdr⟩:=item hy;rw[hdr] at h1;obtain⟨e1,m1,h4,h5⟩:=tg h1;obtain⟨e2,s1,s2,hp,ha,hb,rfl⟩:=gy h4;obtain⟨hsz,B7⟩:=hxr i y it hy hit;have hfree:∀ b,x.ow b=none→b<w.heap.size→xi.ow b=none∧W.heap[b]? =w.heap[b]? :=fun b h hlt=>by
              obtain⟨g1,g2⟩:=Fi.same b hlt (.inl h);exact⟨g2.trans h,g1⟩
            have R1:=Rel.eC (x:=xi.CP) ps.toList y.toList it _ e2 mi ⟨a.tmps,[]⟩ hp Ri.lS (fun p hp=>by simpa using adn.1 hps p hp) (by simpa using hsz) (fun j v d e1 e2=>by
              refine(B7 j v d (by simpa using e1) e2).mono fun b o u h1 h2=> ?_
              have hbl:b<w.heap.size:=by simpa using World.block_lt_of_cell? _ _ h2
              obtain⟨g1,g2⟩:=hfree b h1 hbl;exact⟨ay g1,by rw[Ap g2];exact h2⟩)
            rw[SV];refine iha ia hia (.inr ⟨r,rfl,hra⟩) ha R1 (by show xi.base≤_;rw[Fi.base];exact ac7 hbs Fi.size) fun a1 W1 x1 R1' F1=> ?_
            have h1B:x1.ow w.heap.size=none:=((F1.same _ abu (.inl (ay hB0))).2).trans (ay hB0);have h1B1:x1.ow (w.heap.size+1)=none:=((F1.same _ hlt (.inl (ay hB1))).2).trans (ay hB1);have ho1:W1.heap[w.heap.size+1]? =some o:=((F1.same _ hlt (.inl (ay hB1))).1).trans ho;have hlt1:=ac1 hlt F1.size;have hf1:∀ b,x.ow b=none→b<w.heap.size→x1.ow b=none∧W1.heap[b]? =W.heap[b]? :=fun b h hl=>by
              obtain⟨g1,_⟩:=hfree b h hl;obtain⟨g3,g4⟩:=F1.same b abu (.inl (ay g1));exact⟨g4.trans (ay g1),g3⟩
            refine⟨⟨(F1.same _ abu (.inl (ay hB0))).1,ho1.trans ho.symm⟩,fun b hb hl=>(hf1 b hb hl).2,fun o'=> ?_⟩
            obtain⟨R2,F2⟩:=R1'.P3 (K:=w.heap.size+1) (w':=W1.putObj (w.heap.size+1) o') (fun _=>⟨.inl h1B1,fun c t fr h=>by rw[ho1] at h;cases h;cases hno⟩) abw (fun b _ Ai=>World.putObj_heap_other Ai) ⟨rfl,rfl,rfl⟩ (dep+1)
            refine ihb ib hib (.inr ⟨r,rfl,hrb⟩) hb R2 (by rw[F1.base];show xi.base≤_;rw[Fi.base];exact ac7 (ac7 hbs Fi.size) (ac7 F1.size F2.size)) fun a3 W3 x3 R3 F3=> ?_
            have hlt2:w.heap.size+1<(W1.putObj (w.heap.size+1) o').heap.size:=by simp;omega
            have hk2:ES w.heap.size (W1.putObj (w.heap.size+1) o') W3:=⟨(F3.same _ abu (.inl h1B)).1,(F3.same _ hlt2 (.inl h1B1)).1⟩;have hkp:F8 (AE x) w (W1.putObj (w.heap.size+1) o') W3:=fun b hb hl=>(F3.same b abu (.inl (hf1 b hb hl).1)).1
            have FT:=((F1.toK (w.heap.size+1)).trans F2).trans ((F3.trans (.leave (dep+1) (dep+1) none)).toK (w.heap.size+1));have hkeep:BT (dep+1) ⟨E,mi⟩ ⟨E,Ak (dep+1) s2.mem⟩:=su (fun _ _ _ h=>o9 hA ia h) (fun _ _ _ h=>o9 hA ib h) h4 E E
            obtain⟨R4,F4⟩:=Ri.bG (K:=w.heap.size+1) (dep:=dep) (fun _=>⟨hB1,fun c t fr h=>by rw[ho] at h;cases h;cases hno⟩) (R3.leave (dep+1) none) FT hkeep (by rw[fm];exact me _ _) none (fun k h=>by cases h)
            rw[p8,fm] at R4;have F5:Fr dep x _ w W3:=((Fi.toK (w.heap.size+1)).trans F4).bW abu;have h4B:=((F4.same w.heap.size abu (.inl hB0)).2).trans hB0;have h4B1:=((F4.same (w.heap.size+1) hlt (.inl hB1)).2).trans hB1;rcases h5 with⟨rfl,h5⟩|⟨Ai,rfl,rfl⟩
            · exact⟨hk2,hkp,_,_,h5,R4,F5,h4B,h4B1⟩
            · cases e1 with
              |normal=>exact absurd rfl Ai
              |ret=>exact⟨hk2,_,rfl,Ai,R4,F5,h4B,h4B1⟩
              |exit id=>exact⟨hk2,_,rfl,Ai,R4,F5,h4B,h4B1⟩
          · rintro W ⟨mi,xi,h1,Ri,Fi,hB0,hB1⟩ _ hd
            rw[hxl,List.drop_length] at h1;cases h1;exact fin W xi Ri Fi hB0 hd
          · rintro c W ⟨xi,rfl,Ai,Ri,Fi,hB0,hB1⟩ _ hd
            have:=fin W xi Ri Fi hB0 hd;cases e with
            |normal=>exact absurd rfl Ai
            |ret=>exact wpIn_ret this
            |exit id=>exact wpIn_exit this
        · cases BD
      · cases BD
    · cases CF
  · cases CF
    simp[AH] at BD
 | _=>
  intro ic CF F hF dep st Av e x a w Q BD R hbs hQ;simp only[Bm] at CF;cases CF;simp[AH] at BD
theorem pf {AY:Orc} (hm:P.follows .mixedOrders=true) (hC:CM P cfg) (hO:CL P cfg AY) (hA:dy AY) {ad:AJ} {n:Nat} (c:Code) (ic:AA) (CF:Bm P ad N c=some ic) {st Av:St} {e:Ex} {x:Cx} {a:Act} {w:World} {Q:Exit→Act→World→Prop}
  (BD:AH cfg AY dep n ic st=some (e,Av)) (R:Rel cfg x N st.get a w) (hbs:x.base≤w.heap.size) (hQ:∀ a' w' x',Rel cfg x' N Av.get a' w'→Fr dep x x' w w'→Q (nu e) a' w'):c.wp P Q a w:=
 wpIn_wide.1 (bm2 hm hC hO hA c ic CF (.inl rfl) BD R hbs hQ)
theorem bb8 {AY:Orc} {ad:AJ} {n:Nat}:∀ (c:Code) (ic:AA),Bm P ad N c=some ic→zq c=true→∀ {st Av:St} {e:Ex},AH cfg AY dep n ic st=some (e,Av)→e≠ .normal:=by
 intro c
 induction c with
 | ret=>
  intro ic CF _ st Av e BD he;cases CF;simp only[AH] at BD;cases BD;cases he
 | seq c d _ ihd=>
  intro ic CF hr st Av e BD he;simp only[Bm] at CF;split at CF
  · rename_i ic1 ic2 h1 h2
    cases CF;simp only[AH] at BD;split at BD
    · exact ihd ic2 h2 hr BD he
    · rename_i r hno
      subst he;exact hno _ BD
  · cases CF
 |_=>intro ic CF hr;simp[zq] at hr
theorem ase {AY:Orc} (hm:P.follows .mixedOrders=true) (hC:CM P cfg) (hO:CL P cfg AY) (hAl:dy AY) {ad:AJ} {n:Nat} (c:Code) (ic:AA) (CF:QG P ad N c=some ic) {st Av:St} {e:Ex} {x:Cx} {a:Act} {w:World} {Q:Exit→Act→World→Prop}
   (BD:AH cfg AY dep n ic st=some (e,Av)) (R:Rel cfg x N st.get a w) (hbs:x.base≤w.heap.size) (hQ:∀ a' w' x',Rel cfg x' N Av.get a' w'→Fr dep x x' w w'→Q (nu e) a' w'):c.wp P Q a w:=by
 have seqGo:∀ (c d:Code) (i1 i2:AA),Bm P ad N c=some i1→(∀ {st Av:St} {e:Ex} {x:Cx} {a:Act} {w:World} {Q:Exit→Act→World→Prop},AH cfg AY dep n i2 st=some (e,Av)→Rel cfg x N st.get a w→x.base≤w.heap.size→(∀ a' w' x',Rel cfg x' N Av.get a' w'→Fr dep x x' w w'→Q (nu e) a' w')→d.wp P Q a w)→
     ∀ {st Av:St} {e:Ex} {x:Cx} {a:Act} {w:World} {Q:Exit→Act→World→Prop},AH cfg AY dep n (.seq i1 i2) st=some (e,Av)→Rel cfg x N st.get a w→x.base≤w.heap.size→(∀ a' w' x',Rel cfg x' N Av.get a' w'→Fr dep x x' w w'→Q (nu e) a' w')→(Code.seq c d).wp P Q a w:=by
   intro c d i1 i2 h1 hd st Av e x a w Q BD R hbs hQ;simp only[AH] at BD;refine wp_seq ?_;split at BD
   · rename_i st1 hst1
     exact pf hm hC hO hAl c i1 h1 hst1 R hbs (fun a' w' x' R' F=>hd BD R' (by rw[F.base];exact ac7 hbs F.size) (fun a'' w'' x'' R'' F'=>hQ a'' w'' x'' R'' (F.trans F')))
   · rename_i r hno
     refine pf hm hC hO hAl c i1 h1 BD R hbs (fun a' w' x' R' F=> ?_)
     have:=hQ a' w' x' R' F;cases e with
     |normal=>exact absurd BD (fun h=>hno Av h)
     |ret=>exact this
     |exit id=>exact this
 revert CF;unfold QG;split
 · rename_i A X p B
   split
   · rename_i hr
     intro CF;split at CF
     · rename_i a' x' p' b' hA hX hp hB
       cases CF;simp only[AH] at BD;refine wp_seq (wp_seq ?_);split at BD
       · rename_i st1 hst1
         refine pf hm hC hO hAl A a' hA hst1 R hbs (fun a1 w1 x1 R1 F1=> ?_)
         have way:∀ t:Bool,a1.eval X= .bool t→(t=true→AH cfg AY dep n p' st1=some (e,Av))→(t=false→AH cfg AY dep n b' st1=some (e,Av))→(Code.cond X p .skip).wp P (Exit.then (B.wp P Q) Q) a1 w1:=by
           intro t ht h1 h2;refine wp_cond ht ?_;cases t
           · refine wp_skip ?_
             exact ase hm hC hO hAl B b' hB (h2 rfl) R1 (by rw[F1.base];exact ac7 hbs F1.size) (fun a2 w2 x2 R2 F2=>hQ a2 w2 x2 R2 (F1.trans F2))
           · have Ai:=bb8 p p' hp hr (h1 rfl)
             refine pf hm hC hO hAl p p' hp (h1 rfl) R1 (by rw[F1.base];exact ac7 hbs F1.size) (fun a2 w2 x2 R2 F2=> ?_)
             have:=hQ a2 w2 x2 R2 (F1.trans F2);cases e with
             |normal=>exact absurd rfl Ai
             |ret=>exact this
             |exit id=>exact this
         split at BD
         · rename_i t hv
           refine way t (B9 R1 hX hv).Cc (fun ht=> ?_) (fun ht=> ?_)
           · rw[ht] at BD;simpa using BD
           · rw[ht] at BD;simpa using BD
         · rename_i hv
           obtain⟨t,hb⟩:=(B9 R1 hX hv).Hc;obtain⟨g1,g2⟩:=dq BD;exact way t hb (fun _=>g1) (fun _=>g2)
         · cases BD
       · rename_i r hno
         refine pf hm hC hO hAl A a' hA BD R hbs (fun a1 w1 x1 R1 F1=> ?_)
         have:=hQ a1 w1 x1 R1 F1;cases e with
         |normal=>exact absurd BD (fun h=>hno Av h)
         |ret=>exact this
         |exit id=>exact this
     · cases CF
   · intro CF
     split at CF
     · rename_i i1 i2 h1 h2
       cases CF;exact seqGo _ B i1 i2 h1 (fun BD R hbs hQ=>ase hm hC hO hAl B i2 h2 BD R hbs hQ) BD R hbs hQ
     · cases CF
 · rename_i A B _
   intro CF;split at CF
   · rename_i i1 i2 h1 h2
     cases CF;exact seqGo A B i1 i2 h1 (fun BD R hbs hQ=>ase hm hC hO hAl B i2 h2 BD R hbs hQ) BD R hbs hQ
   · cases CF
 · intro CF
   exact pf hm hC hO hAl c ic CF BD R hbs hQ
termination_by SizeOf.sizeOf c
end
end Go.Ev
namespace Go.Ev
open Go
section
variable {P:Program} {cfg:Cfg} {x:Cx} {N dep:Nat} {a:Act} {w:World}
def rt (tmps:Array Value):ResultVar→Sem Value
 | .tmp t=>pure (tmps.getD t undef)
 | .cell a t=>do loadVar t (← asAddr (tmps.getD a undef))
theorem a9j {P:Program} {w:World} {f:ResultVar→Sem Value}:∀ {l:List ResultVar} {vs:List Value},l.length=vs.length→(∀ (i:Nat) r v,l[i]? =some r→vs[i]? =some v→(f r).run P w= .ok v w)→
  (l.mapM f).run P w= .ok vs w
 | [],[],_,_=>rfl
 | r::l,v::vs,hl,h=>by
  rw[List.mapM_cons];simp only[Sem.run_bind,h 0 r v rfl rfl,Result.andThen_ok];rw[a9j (l:=l) (vs:=vs) (by simpa using hl) (fun i r v h1 h2=>h (i+1) r v (by simpa using h1) (by simpa using h2))]
  rfl
 | [],_::_,h,_=>by cases h
 |_::_,[],h,_=>by cases h
def bcp:List Value→Value
 | [v]=>v
 |vs=> .tuple vs.toArray
theorem rq {P:Program} {w:World} {fn:Func} {tmps:Array Value} {vs:List Value} (hl:fn.results.toList.length=vs.length)
  (h:∀ (i:Nat) r v,fn.results.toList[i]? =some r→vs[i]? =some v→(rt tmps r).run P w= .ok v w):
  (results fn tmps).run P w= .ok (bcp vs) w:=by
 have e:∀ g:ResultVar→Sem Value,(∀ r,g r=rt tmps r)→(fn.results.mapM g).run P w= .ok vs.toArray w:=fun g hg=>by
  have:g=rt tmps:=funext hg;subst this;rw[Array.mapM_eq_mapM_toList,map_eq_pure_bind];simp only[Sem.run_bind,a9j hl h,Result.andThen_ok,Sem.run_pure]
 unfold results;rw[Sem.run_bind,e _ (fun r=>by cases r<;>rfl),Result.andThen_ok]
 match vs with
 | []=>rfl
 | [v]=>rfl
 |_::_::_=>simp[bcp]
def Qo (x:Cx) (s:Get) (cv:Loc→Option Value) (w:World) (dep:Nat) (v:Value):V→Prop
 | .own _ z es=>∃ l b o cap,v= .slice (some (ad3 b o)) es.length cap∧x.ow b=some (.at l)∧FI dep l=true∧es.length≤cap∧Arr (AE x) w b o cap z es
 | .d y=>Rd (AE (x.leave dep none)) w v y
 |r=>RdV x s cv w none v r
def aap (P:Program):ResultVar→Dh→Prop
 | .tmp t,.t k=>k=t
 | .cell a t,.cell k z=>k=a∧Eu P t=some z
 |_,_=>False
theorem tt:∀ {l:List ResultVar} {is:List Dh},IF P l=some is→l.length=is.length∧∀ (i:Nat) rv ir,l[i]? =some rv→is[i]? =some ir→aap P rv ir
 | [],is,h=>by cases h;simp
 | .tmp t::r,is,h=>by
  simp only[IF,abz] at h;obtain⟨l,h1,rfl⟩:=h;obtain⟨g1,g2⟩:=tt h1;refine⟨by simp[g1],fun i rv ir e1 e2=> ?_⟩
  cases i with
  |zero=>simp at e1 e2;subst e1;subst e2;rfl
  |succ i=>exact g2 i rv ir (by simpa using e1) (by simpa using e2)
 | .cell a t::r,is,h=>by
  simp only[IF] at h;split at h
  · rename_i z l hz h1
    cases h;obtain⟨g1,g2⟩:=tt h1;refine⟨by simp[g1],fun i rv ir e1 e2=> ?_⟩
    cases i with
    |zero=>simp at e1 e2;subst e1;subst e2;exact⟨rfl,hz⟩
    |succ i=>exact g2 i rv ir (by simpa using e1) (by simpa using e2)
  · cases h
theorem ba9 {v:V} (h:v.AZ=true):v.A5=false:=by cases v<;>first|rfl|simp[V.AZ] at h
theorem mw {s:Get} {cv:Loc→Option Value} {l:Option Loc} {v:Value} {r:V} (h:RdV x s cv w l v r) (hp:r.AZ=true) (dep:Nat):Qo x s cv w dep v r:=by
 cases r with
 |d y=>exact(RdV.An h).mono fun b o u h1 h2=>⟨dl h1,h2⟩
 |own nw z es=>simp[V.AZ] at hp
 |bor=>simp[V.AZ] at hp
 |Am=>simp[V.AZ] at hp
 |vec=>simp[V.AZ] at hp
 |rcd=>simp[V.AZ] at hp
 |BB=>simp[V.AZ] at hp
 |AM=>simp[V.AZ] at hp
 |Af e off=>exact h.Cm rfl
 |ref d k off=>exact h.Cm rfl
 |clo f a b=>exact h.Cm rfl
 |ifc t v=>exact h.Cm rfl
theorem alx {s:Get} {cv:Loc→Option Value} {l:Loc} {v:Value} {nw nw':Bool} {z:Nat} {es:List D} (h:RdV x s cv w (some l) v (.own nw z es)) (hl:FI dep l=true):Qo x s cv w dep v (.own nw' z es):=by
 cases h with
 | own _ b o len cap _ _ _ how hlen Ad A=>
  subst hlen;exact⟨l,b,o,cap,rfl,how,hl,Ad,A⟩
theorem k9 {s:Get} {cv:Loc→Option Value} {v:Value} {r:V} {y:D} (h:Qo x s cv w dep v r) (hr:CR r=some y):Rd (AE (x.leave dep none)) w v y:=by
 unfold CR at hr;split at hr
 · cases hr;exact Rd.canon h
 · cases hr
   obtain⟨l,b,o,cap,rfl,how,hl,Ad,A⟩:=h;exact(A.mono (fun b o u h1 h2=>⟨dl h1,h2⟩) (fun _ _ h=>h) (fun _ _ _ h=>h)).rd (bbi how hl) rfl Ad
 · cases hr
   have h':RdV x s cv w none v _:=h;exact h'.FF.mono fun b o u h1 h2=>⟨dl h1,h2⟩
 · cases hr
theorem wa {s:Get} (R:Rel cfg x N s a w) {d k:Nat} (hd:dep≤d):∀ (n off:Nat) {cs:List D},CW s d k off n=some cs→cs.length=n∧(∀ c∈cs,c.AP=true)∧
  ∀ (j:Nat) c,cs[j]? =some c→∃ v,w.cell? (ad3 (x.ad d k) (off+j))=some v∧Rd (AE (x.leave dep none)) w v c
 |0,off,cs,h=>by cases h;simp
 | n+1,off,cs,h=>by
  unfold CW at h;split at h
  · rename_i y r h1 h2
    split at h
    · rename_i Ag
      cases h;obtain⟨g0,g1,g2⟩:=wa R hd n (off+1) h2;refine⟨by simp[g0],?_,fun j c hj=> ?_⟩
      · intro c hc
        rcases ach.1 hc with rfl|hc
        · exact Ag
        · exact g1 c hc
      · cases j with
        | zero=>
          simp at hj;subst hj;obtain⟨v0,h3,h4⟩:=ab7.1 h1;obtain⟨u,hu,hr⟩:=R.Bl (.cell ⟨d,k,off⟩) v0 h3;refine⟨u,hu,?_⟩;cases v0 with
          |own nw z es=>exact k9 (alx (nw':=nw) hr (dep:=dep) (by simp[FI];exact hd)) h4
          |d y=>exact k9 (mw hr rfl dep) h4
          |Af e o=>exact k9 (mw hr rfl dep) h4
          |_=>cases h4
        | succ j=>
          obtain⟨v,h5,h6⟩:=g2 j c (by simpa using hj)
          exact⟨v,by rw[← h5];congr 2;omega,h6⟩
    · cases h
  · cases h
theorem bdj {s:Get} (R:Rel cfg x N s a w) {rv:ResultVar} {ir:Dh} (hm:aap P rv ir) {r:V} (h:FV dep s ir=some r):
  ∃ v,(rt a.tmps rv).run P w= .ok v w∧Qo x s (Aa x a w) w dep v r:=by
 cases rv with
 | tmp t=>
  cases ir with
  |cell k z=>exact hm.elim
  | t k=>
   have hm':k=t:=hm;subst hm';have hloc:∀ v0,s (.slot k)=some v0→RdV x s (Aa x a w) w (some (.slot k)) (a.tmps.getD k undef) v0:=fun v0 h0=>by
     obtain⟨u,hu,hr⟩:=R.Bl (.slot k) v0 h0;simp only[Aa,Option.some.injEq] at hu;rw[hu];exact hr
   refine⟨a.tmps.getD k undef,rfl,?_⟩;simp only[FV] at h;split at h
   · rename_i nw z es h0
     cases h;exact alx (hloc _ h0) rfl
   · rename_i v0 h0
     split at h
     · rename_i hp
       cases h;exact mw (hloc _ ‹_›) hp dep
     · cases h
   · cases h
 | cell b t=>
  cases ir with
  |t k=>exact hm.elim
  | cell k z=>
   obtain⟨rfl,hz⟩:=hm;simp only[FV] at h;split at h
   · rename_i d j off h0
     split at h
     · rename_i hd
       obtain⟨u,hu,hr⟩:=R.Bl (.slot k) _ h0;simp only[Aa,Option.some.injEq] at hu;cases hr with
       |ref _ _ _ _ hal=>
       have AW:∀ v,(loadVar t (ad3 (x.ad d j) off)).run P w= .ok v w→(rt a.tmps (.cell k t)).run P w= .ok v w:=fun v h1=>by
        simp only[rt,Sem.run_bind,hu,asAddr,Sem.run_pure,Result.andThen_ok,h1]
       cases z with
       | none=>
        have hld:∀ u,w.cell? (ad3 (x.ad d j) off)=some u→(loadVar t (ad3 (x.ad d j) off)).run P w= .ok u w:=fun u hu=>by
          simp only[loadVar,Sem.run_bind,(fy hz).1,Result.andThen_ok,acb,if_false,run_load,hu]
        simp only at h;split at h
        · rename_i nw z es h1
          cases h;obtain⟨u,hu,hr⟩:=R.Bl (.cell ⟨d,j,off⟩) _ h1;exact⟨u,AW u (hld u hu),alx hr (by simp[FI];exact hd)⟩
        · split at h
          · rename_i hp
            cases h;obtain⟨u,hu,hr⟩:=R.Bl (.cell ⟨d,j,off⟩) _ ‹_›;exact⟨u,AW u (hld u hu),mw hr hp dep⟩
          · cases h
        · cases h
       | some n=>
        simp only[abz] at h;obtain⟨cs,h1,rfl⟩:=h;obtain⟨g0,g1,g2⟩:=wa R hd n off h1;obtain⟨v,h2,h3⟩:=dt (P:=P) (b:=x.ad d j) (o:=off) (off:=0) (e:= .agg cs) (r:= .agg cs) hz ⟨g1,g2⟩ (by simp[ldD,D.cells,g0];subst g0;exact List.take_length)
        exact⟨v,AW v h2,h3⟩
     · cases h
   · cases h
theorem bdk {s:Get} (R:Rel cfg x N s a w):∀ {rvs:List ResultVar} {irs:List Dh},rvs.length=irs.length→(∀ (i:Nat) rv ir,rvs[i]? =some rv→irs[i]? =some ir→aap P rv ir)→∀ {ds:List D},GB dep s irs=some ds→
  ∃ vs:List Value,vs.length=ds.length∧rvs.length=vs.length∧(∀ (i:Nat) r v,rvs[i]? =some r→vs[i]? =some v→(rt a.tmps r).run P w= .ok v w)∧∀ (i:Nat) v d,vs[i]? =some v→ds[i]? =some d→Rd (AE (x.leave dep none)) w v d
 | [],[],_,_,ds,h=>by cases h;exact⟨[],by simp⟩
 | rv::rvs,ir::irs,hl,hm,ds,h=>by
  unfold GB at h;split at h
  · rename_i d ds' h1 h2
    cases h;obtain⟨r,h3,h4⟩:=ab7.1 h1;obtain⟨v,h5,h6⟩:=bdj R (hm 0 rv ir rfl rfl) h3;obtain⟨vs,g1,g2,g3,g4⟩:=bdk R (rvs:=rvs) (irs:=irs) (by simpa using hl) (fun i rv ir e1 e2=>hm (i+1) rv ir (by simpa using e1) (by simpa using e2)) h2
    refine⟨v::vs,by simp[g1],by simp[g2],fun i r v' e1 e2=> ?_,fun i v' d' e1 e2=> ?_⟩
    · cases i with
      |zero=>simp at e1 e2;subst e1;subst e2;exact h5
      |succ i=>exact g3 i r v' (by simpa using e1) (by simpa using e2)
    · cases i with
      |zero=>simp at e1 e2;subst e1;subst e2;exact k9 h6 h4
      |succ i=>exact g4 i v' d' (by simpa using e1) (by simpa using e2)
  · cases h
 | [],_::_,h,_,_,_=>by cases h
 |_::_,[],h,_,_,_=>by cases h
theorem ba1 {st:St} (R:Rel cfg x N st.get a w) {fn:Func} {irs:List Dh} (hc:IF P fn.results.toList=some irs) {r r':V} {m':List (Cel×V)} (h:Cs dep st.get irs=some r) (hl:C4 dep r st.mem=some (r',m')):
  ∃ v x',(results fn a.tmps).run P w= .ok v w∧Rel cfg x' 0 (D1 m') Ee w∧D9 x' (D1 m') (Aa x' Ee w) w v r'∧Fr dep x x' w w:=by
 obtain⟨rfl,rfl,hup⟩:=sr hl;obtain⟨g1,g2⟩:=tt hc;have hal:∀ d k,d<dep→(st.get (.cell ⟨d,k,0⟩)).isSome→(D1 (Ak dep st.mem) (.cell ⟨d,k,0⟩)).isSome:=fun d k hd h=>by
  show(lk (Ak dep st.mem) _).isSome;rw[iw,if_pos hd,Option.isSome_map];exact h
 have hc0:∀ res b o u,x.ow b=none→w.cell? (ad3 b o)=some u→(x.leave dep res).ow b=none∧w.cell? (ad3 b o)=some u:=fun res b o u h1 h2=>⟨dl h1,h2⟩
 have hmany:∀ ds,GB dep st.get irs=some ds→irs.length≠1→r'= .d (.tup ds)→∃ v x',(results fn a.tmps).run P w= .ok v w∧Rel cfg x' 0 (D1 (Ak dep st.mem)) Ee w∧D9 x' (D1 (Ak dep st.mem)) (Aa x' Ee w) w v r'∧Fr dep x x' w w:=by
  rintro ds hds Ai rfl
  obtain⟨vs,e1,e2,e3,e4⟩:=bdk R g1 g2 hds;refine⟨_,x.leave dep none,rq e2 e3,R.leave dep none,?_,.leave _ _ _⟩;have:bcp vs= .tuple vs.toArray:=by
   match vs,e2 with
   | [],_=>rfl
   | [v],e2=>exact absurd (g1.symm.trans e2) Ai
   |_::_::_,_=>rfl
  rw[this];exact .d _ _ _ (.tup vs ds e1 e4)
 match irs,h,g1,g2,hmany with
 | [],h,g1,g2,hmany=>
  simp only[Cs,abz] at h;obtain⟨ds,h1,h2⟩:=h;exact hmany ds h1 abw h2.symm
 | _::_::_,h,g1,g2,hmany=>
  simp only[Cs,abz] at h;obtain⟨ds,h1,h2⟩:=h;exact hmany ds h1 abw h2.symm
 | [ir],h,g1,g2,_=>
  have h:FV dep st.get ir=some r':=h;obtain⟨rv,hrv⟩:∃ rv,fn.results.toList=[rv]:=List.length_eq_one_iff.1 g1
  obtain⟨v,h5,h6⟩:=bdj R (g2 0 rv ir (by rw[hrv];rfl) rfl) h
  have AW:(results fn a.tmps).run P w= .ok v w:=rq (vs:=[v]) (by rw[hrv];rfl) (fun i r v' e1 e2=>by
   rw[hrv] at e1;cases i with
   |zero=>simp at e1 e2;subst e1;subst e2;exact h5
   |succ i=>simp at e1)
  cases r' with
  | own nw z es=>
   obtain⟨l,b,o,cap,rfl,how,hgl,Ad,A⟩:=h6;refine⟨_,x.leave dep (some l),AW,R.leave dep _,⟨b,o,cap,rfl,blr how hgl,Ad,?_⟩,.leave _ _ _⟩;exact A.mono (fun b o u h1 h2=>hc0 _ b o u h1 h2) (fun _ _ h=>h) (fun _ _ _ h=>h)
  |d y=>exact⟨v,x.leave dep none,AW,R.leave dep _,.d _ _ _ h6,.leave _ _ _⟩
  |bor l off n=>simp[V.A4] at hup
  |Am l off n=>simp[V.A4] at hup
  |rcd ys=>simp[V.A4] at hup
  |AM=>exact⟨v,x.leave dep none,AW,R.leave dep _,.AM _ _,.leave _ _ _⟩
  |Af e off=>exact⟨v,x.leave dep none,AW,R.leave dep _,RdV.move dep h6 (hc0 _) (.refl _) (fun d k hd h=>⟨hal d k hd h,rfl⟩) (fun l0 e=>by cases e) hup,.leave _ _ _⟩
  |ref d k off=>exact⟨v,x.leave dep none,AW,R.leave dep _,RdV.move dep h6 (hc0 _) (.refl _) (fun d k hd h=>⟨hal d k hd h,rfl⟩) (fun l0 e=>by cases e) hup,.leave _ _ _⟩
  |clo f p q=>exact⟨v,x.leave dep none,AW,R.leave dep _,RdV.move dep h6 (hc0 _) (.refl _) (fun d k hd h=>⟨hal d k hd h,rfl⟩) (fun l0 e=>by cases e) hup,.leave _ _ _⟩
  |vec ys=>exact⟨v,x.leave dep none,AW,R.leave dep _,RdV.move dep h6 (hc0 _) (.refl _) (fun d k hd h=>⟨hal d k hd h,rfl⟩) (fun l0 e=>by cases e) hup,.leave _ _ _⟩
  |BB y=>exact⟨v,x.leave dep none,AW,R.leave dep _,RdV.move dep h6 (hc0 _) (.refl _) (fun d k hd h=>⟨hal d k hd h,rfl⟩) (fun l0 e=>by cases e) hup,.leave _ _ _⟩
  |ifc t y=>exact⟨v,x.leave dep none,AW,R.leave dep _,RdV.move dep h6 (hc0 _) (.refl _) (fun d k hd h=>⟨hal d k hd h,rfl⟩) (fun l0 e=>by cases e) hup,.leave _ _ _⟩
theorem zb:∀ (vs:List V) (i k:Nat),lk (entry i vs) k=if i≤k then vs[k-i]? else none
 | [],i,k=>by simp[entry,lk]
 | v::vs,i,k=>by
  simp only[entry,lk];split
  · rename_i e;subst e;simp
  · rename_i e
    rw[zb vs (i+1) k];by_cases h:i≤k
    · rw[if_pos h,if_pos abu]
      have:k-i=(k-(i+1))+1:=abu;rw[this];rfl
    · rw[if_neg h,if_neg abu]
theorem Rel.enter {vs:List V} {m:List (Cel×V)} {args:Array Value} (E:Enters cfg x vs m args w) (hpl:∀ (k:Nat) (v:V),vs[k]? =some v→v.A5=false) {n:Nat} (hn:vs.length≤n):
   Rel cfg x n (St.get ⟨entry 0 vs,m⟩) ⟨args++Array.replicate (n-args.size) undef,[]⟩ w:=by
 have hslot:∀ k v,St.get ⟨entry 0 vs,m⟩ (.slot k)=some v→vs[k]? =some v:=fun k v h=>by
   have h':lk (entry 0 vs) k=some v:=h;rw[zb,if_pos (aco _)] at h';exact h'
 have hmono:∀ l v y,RdV x (D1 m) (Aa x Ee w) w l v y→RdV x (St.get ⟨entry 0 vs,m⟩) (Aa x ⟨args++Array.replicate (n-args.size) undef,[]⟩ w) w l v y:=fun l v y h=>by
   refine h.mono (fun b o u h1 h2=>⟨h1,h2⟩) (fun b o u h1 h2=>⟨⟨u,h1⟩,h2⟩) (fun l' z es hs=> ?_) (fun d k h=>⟨h,rfl⟩) (fun l0 _ b hb=>⟨hb,fun o u h=>h⟩)
   cases l' with
   |slot k=>have:=hpl k _ (hslot k _ hs);simp[V.A5] at this
   |cell c=>exact⟨es,hs,rfl,fun b o L C h=>⟨L,C,h⟩⟩
 have hsz:=E.size;refine⟨by simp;omega,.nil rfl,E.rel.bound,fun l v h=> ?_,fun k v h=> ?_,fun c v h=>E.rel.box c v h,E.rel.C7,E.rel.Bo,E.rel.CV⟩
 · cases l with
   | slot k=>
    have h1:=hslot k v h;have hk:k<vs.length:=(ab1.1 h1).1;refine⟨args[k]'(by omega),?_,((hmono _ _ _ ((E.args k _ v (acm abu) h1).rd (hpl k v h1))).Cm (hpl k v h1))⟩
    simp only[Aa,Option.some.injEq];rw[Array.getD_eq_getD_getElem?,Array.getElem?_append_left abu,acm abu];rfl
   | cell c=>
    obtain⟨u,hu,hr⟩:=E.rel.Bl (.cell c) v h;exact⟨u,hu,hmono _ _ _ hr⟩
 · have h1:=hslot k v h
   have hk:k<vs.length:=(ab1.1 h1).1;omega
theorem sj:∀ {vs:List V},GD vs=true→∃ i z es,vs[i]? =some (.own false z es)∧∀ (j:Nat) v,vs[j]? =some v→j≠i→∃ d,v= .d d
 | [],h=>by simp[GD] at h
 | v::vs,h=>by
  unfold GD at h;split at h
  · rename_i z es r e
    cases e;refine⟨0,z,es,rfl,fun j v hj Ai=> ?_⟩
    cases j with
    |zero=>exact absurd rfl Ai
    | succ j=>
     have:=adn.1 h v (List.mem_of_getElem? hj);cases v<;>first|exact⟨_,rfl⟩|simp[V.isD] at this
  · rename_i d r e
    cases e;obtain⟨i,z,es,h1,h2⟩:=sj h;refine⟨i+1,z,es,h1,fun j v hj Ai=> ?_⟩
    cases j with
    |zero=>cases hj;exact⟨_,rfl⟩
    |succ j=>exact h2 j v hj abu
  · cases h
theorem Rel.lU {vs:List V} {m:List (Cel×V)} {args:Array Value} (E:Enters cfg x vs m args w) (hp:E7 vs m=true) {n:Nat} (hn:vs.length≤n):
   ∃ x',Rel cfg x' n (St.get ⟨entry 0 vs,m⟩) ⟨args++Array.replicate (n-args.size) undef,[]⟩ w∧Fr dep x x' w w:=by
 unfold E7 at hp;rw[acu] at hp;rcases hp with hp|hp
 · exact⟨x,Rel.enter E (fun k v h=>ba9 (adn.1 hp _ (List.mem_of_getElem? h))) hn,.refl _ _ _⟩
 · rw[aca,List.isEmpty_iff] at hp
   obtain⟨rfl,hp⟩:=hp;obtain⟨i,z,es,hi,hd⟩:=sj hp;have hsz:=E.size;have hlt:i<vs.length:=(ab1.1 hi).1;obtain⟨b,o,cap,hv,how,Ad,hA⟩:∃ b o cap,args[i]'(by omega)= .slice (some (ad3 b o)) es.length cap∧x.ow b=some .res∧es.length≤cap∧Arr (AE x) w b o cap z es:=E.args i _ _ (acm abu) hi
   have hbn:∀ b',x.ow b'≠x.ow b→b'≠b:=fun b' h e=>h (e ▸ rfl)
   have hmono:∀ b' o' u,AE x b'→w.cell? (ad3 b' o')=some u→AE (x.AU b (some (.at (.slot i)))) b'∧w.cell? (ad3 b' o')=some u:=fun b' o' u h1 h2=>by
     refine⟨?_,h2⟩;show(x.AU b _).ow b'=none;rw[Cx.AO _ _ (hbn b' (by rw[how,show x.ow b'=none from h1];simp))]
     exact h1
   have hslot:∀ k v,St.get ⟨entry 0 vs,[]⟩ (.slot k)=some v→vs[k]? =some v:=fun k v h=>by
     have h':lk (entry 0 vs) k=some v:=h;rw[zb,if_pos (aco _)] at h';exact h'
   refine⟨x.AU b (some (.at (.slot i))),⟨by simp;omega,.nil rfl,fun b' hb'=> ?_,fun l v h=> ?_,fun k v h=> ?_,(fun c v h=>by cases h),fun n e hg=>(E.rel.C7 n e hg).mono hmono,E.rel.Ct (fun _=> .inl how),fun n ob hg=> ?_⟩,Fr.Ea how _⟩
   · by_cases e:b'=b
     · subst e;exact E.rel.bound _ (by rw[how];simp)
     · rw[Cx.AO _ _ e] at hb';exact E.rel.bound _ hb'
   · cases l with
     |cell c=>cases h
     | slot k=>
       have h1:=hslot k v h;have hk:k<vs.length:=(ab1.1 h1).1;refine⟨args[k]'(by omega),?_,?_⟩
       · simp only[Aa,Option.some.injEq]
         rw[Array.getD_eq_getD_getElem?,Array.getElem?_append_left abu,acm abu];rfl
       · by_cases e:k=i
         · subst e
           rw[hi] at h1;cases h1;rw[hv];exact .own _ b o _ cap z false es abw rfl Ad (hA.mono hmono (fun _ _ h=>h) (fun _ _ _ h=>h))
         · obtain⟨d,rfl⟩:=hd k v h1 e
           have:=RdV.An (E.args k _ _ (acm abu) h1);exact .d _ _ _ (this.mono hmono)
   · have h1:=hslot k v h
     have hk:k<vs.length:=(ab1.1 h1).1;omega
   · obtain⟨g1,g2⟩:=E.rel.CV n ob hg
     exact⟨by rw[Cx.AO _ _ (hbn n (by rw[g1,how];simp))];exact g1,g2⟩
theorem BW {f:FuncId} {fn:Func} {c:Code} (hf:P.funcs[f]? =some fn) (hname:(fn.name=="runtime.NumGoroutine")=false) (hb:fn.body=some c) (args:Array Value) (w:World):
  (callFunc f args).run P w= .ok (.enter f args) w:=by
 have h1:fn.name≠"runtime.NumGoroutine":= by simpa using hname
 simp[callFunc,hf,h1,hb]
def ud (P:Program) (cfg:Cfg):Prop:=
 ∀ f fn,cfg.funcs f=some fn→∃ F ad c,P.funcs[f]? =some F∧(F.name=="runtime.NumGoroutine")=false∧F.body=some c∧AQ P ad F=some fn
def FU (P:Program) (cfg:Cfg):Prop:=
 ∀ f g,cfg.ext f=some g→∀ ds r,g ds=some r→∀ (F:Nat→Prop) (args:Array Value) (w:World),args.size=ds.length→(∀ (i:Nat) v d,args[i]? =some v→ds[i]? =some d→Rd F w v d)→(∀ n e,cfg.H3 n=some e→C9 F w n 0 e)→(∀ n ob,cfg.CV n=some ob→Cf w n ob)→
  Fk P f args w fun v w'=>w.heap.size≤w'.heap.size∧(∀ b,b<w.heap.size→w'.heap[b]? =w.heap[b]?)∧Bh w w'∧
   match r with
   | .own _ z es=>∃ b o cap,v= .slice (some (ad3 b o)) es.length cap∧w.heap.size≤b∧b<w'.heap.size∧es.length≤cap∧DQ w' b∧Arr (fun b'=>(F b'∧b'<w.heap.size)∨(w.heap.size≤b'∧b'≠b)) w' b o cap z es
   | .d y=>Rd (fun b'=>F b'∨w.heap.size≤b') w' v y
   | .clo g [] ys=>∃ (vb:List Value) (es:List D),ys=es.map .d∧v= .func (.func g) #[] vb.toArray∧vb.length=es.length∧∀ (i:Nat) u e,vb[i]? =some u→es[i]? =some e→Rd (fun b'=>F b'∨w.heap.size≤b') w' u e
   |_=>False
theorem Rel.UC {s:Get} (R:Rel cfg x N s a w) {w':World} (hz:w.heap.size≤w'.heap.size) (hh:∀ b,b<w.heap.size→w'.heap[b]? =w.heap[b]?) (hio:Bh w w')
   {x':Cx} (hx:∀ b,b<w.heap.size→x'.ow b=x.ow b) (hx':∀ b,x'.ow b≠none→b<w'.heap.size) (had:x'.ad=x.ad) (hbs:x'.base=x.base) (hZ:∀ b,w.heap.size≤b→IQ (x'.ow b)→DQ w' b):Rel cfg x' N s a w'∧Fr dep x x' w w':=by
 have hlt:∀ b o u,w.cell? (ad3 b o)=some u→b<w.heap.size:=fun b o u h=>by simpa using World.block_lt_of_cell? _ _ h
 have Ag:∀ b o u,w.cell? (ad3 b o)=some u→w'.cell? (ad3 b o)=some u:=fun b o u h=>by rw[Ap (hh b (hlt b o u h))];exact h
 have hroom:Room w w':=fun b o u h1 h2=>⟨⟨u,Ag b o u h1⟩,by rw[bn (hh b (hlt b o u h1))];exact h2⟩
 refine⟨R.step [] R.size rfl hbs hx' (fun l _ v hv=>⟨hv,fun u hu=> ?_⟩) (fun l hl=>by simp at hl) (fun k hk=>by simp at hk) (fun b o u h1 h2=>⟨by rw[hx b (hlt b o u h2)];exact h1,Ag b o u h2⟩) hroom (fun l hl=>by simp at hl)
   (fun d k h=>⟨h,by rw[had]⟩) (fun l0 _ b hb=>⟨by rw[hx b (R.bound b (by rw[hb];simp))];exact hb,fun o u h=>Ag b o u h⟩) (fun c v hc=> ?_) (fun b h=> ?_) (fun b _ hb=>⟨hx b hb,hh b hb⟩),hz,fun b hb _=>⟨hh b hb,hx b hb⟩,fun _ _ _=>by rw[had],hio,hroom,hbs⟩
 · cases l with
   |slot k=>exact hu
   |cell c=>show w'.cell? (ad3 (x'.ad _ _) _)=_;rw[had];exact Ag _ _ _ hu
 · obtain⟨h1,h2,h3⟩:=R.box c v hc
   have hb:=R.bound _ (by rw[h1];simp)
   exact⟨by rw[had,hx _ hb];exact h1,h2,by rw[had,bn (hh _ hb)];exact h3⟩
 · by_cases hb:b<w.heap.size
   · rw[hx b hb] at h
     exact(R.Bo b h).heap (hh b hb)
   · exact hZ b abu h
end
end Go.Ev
namespace Go.Ev
open Go
section
variable {P:Program} {cfg:Cfg}
theorem HL (hX:FU P cfg) {f:FuncId} {g:List D→Option V} (hf:cfg.ext f=some g) {dep:Nat} {vs:List V} {m:List (Cel×V)} {r:V} (h:(B6 vs).bind g=some r) {x:Cx} {w:World} {args:Array Value}
   (E:Enters cfg x vs m args w):Fk P f args w fun v w'=>∃ x',Leaves cfg x x' dep m m r v w w':=by
 obtain⟨ds,h1,h2⟩:=ab7.1 h;have hvs:=oc h1;subst hvs;have hfree:∀ b,w.heap.size≤b→x.ow b=none:=fun b hb=>by
   by_cases e:x.ow b=none
   · exact e
   · have:=E.rel.bound b e;omega
 refine(hX f g hf ds r h2 (AE x) args w (by simpa using E.size) (fun i v d e1 e2=> ?_) ?_ (fun n ob h=>(E.rel.CV n ob h).2)).mono ?_
 · exact RdV.An (E.args i v (.d d) e1 (by rw[acf,e2];rfl))
 · exact E.rel.C7
 · rintro v w' ⟨hz,hh,hio,hr⟩
   cases r with
   | d y=>
     obtain⟨R',F'⟩:=E.rel.UC (dep:=dep) (x':=x) hz hh hio (fun _ _=>rfl) (fun b hb=>ac1 (E.rel.bound b hb) hz) rfl rfl (fun b hb h=>by rw[hfree b hb] at h;rcases h with h|⟨_,h⟩<;>cases h)
     refine⟨x,R',.d _ _ _ (Rd.mono hr fun b o u h1 h2=>⟨?_,h2⟩),F',fun c _ h=>h⟩
     rcases h1 with h1|h1
     · exact h1
     · exact hfree b h1
   | own nw z es=>
     obtain⟨b,o,cap,rfl,hb,hb',Ad,hnf,A⟩:=hr;obtain⟨R',F'⟩:=E.rel.UC (dep:=dep) (x':=x.AU b (some .res)) hz hh hio (fun b' hlt=>Cx.AO _ _ abu) (fun b' Ai=>by
       by_cases e:b'=b
       · omega
       · rw[Cx.AO _ _ e] at Ai
         exact ac1 (E.rel.bound b' Ai) hz) rfl rfl (fun b' hb' h=>by
       by_cases e:b'=b
       · subst e;exact hnf
       · rw[Cx.AO _ _ e,hfree b' hb'] at h;rcases h with h|⟨_,h⟩<;>cases h)
     refine⟨_,R',⟨b,o,cap,rfl,by simp[Cx.AU],Ad,A.mono (fun b' o' u h1 h2=>⟨?_,h2⟩) (fun _ _ h=>h) (fun _ _ _ h=>h)⟩,F',fun c _ h=>h⟩
     rcases h1 with⟨h1,h3⟩|⟨h1,h3⟩
     · show(x.AU b _).ow b'=none
       rw[Cx.AO _ _ abu];exact h1
     · show(x.AU b _).ow b'=none
       rw[Cx.AO _ _ h3];exact hfree b' h1
   | clo g xs ys=>
     cases xs with
     |cons _ _=>exact hr.elim
     |nil=>
     obtain⟨vb,es,rfl,rfl,hl,hv⟩:=hr;obtain⟨R',F'⟩:=E.rel.UC (dep:=dep) (x':=x) hz hh hio (fun _ _=>rfl) (fun b hb=>ac1 (E.rel.bound b hb) hz) rfl rfl (fun b hb h=>by rw[hfree b hb] at h;rcases h with h|⟨_,h⟩<;>cases h)
     refine⟨x,R',RdV.clo none g [] vb [] (es.map .d) rfl (by simpa using hl) (fun i v y h=>by simp at h) (fun i u y h1 h2=> ?_),F',fun c _ h=>h⟩
     rw[acf,abz] at h2;obtain⟨e,h3,rfl⟩:=h2;refine .d _ _ _ (Rd.mono (hv i u e h1 h3) fun b o u h1 h2=>⟨?_,h2⟩)
     rcases h1 with h1|h1
     · exact h1
     · exact hfree b h1
   |_=>exact hr.elim
theorem bcc {ad:AJ} {F:Func} {fn:AN} (h:AQ P ad F=some fn) {c:Code} (hb:F.body=some c):
   QG P ad F.ntmps c=some fn.body∧IF P F.results.toList=some fn.results∧fn.arity≤F.ntmps:=by
 unfold AQ at h;rw[hb] at h;simp only at h;split at h
 · rename_i b rs h1 h2
   split at h
   · rename_i hle
     cases h;exact⟨h1,h2,hle⟩
   · cases h
 · cases h
theorem ZF (hm:P.follows .mixedOrders=true) (hC:CM P cfg) {AY:Orc} (hO:CL P cfg AY) (hA:dy AY) {n:Nat} {f:FuncId} {F:Func} {ad:AJ} {c:Code} {fn:AN} (hf:P.funcs[f]? =some F) (hname:(F.name=="runtime.NumGoroutine")=false)
   (hb:F.body=some c) (hc:AQ P ad F=some fn) {dep:Nat} {vs:List V} {m m':List (Cel×V)} {r:V} (h:DM cfg AY n fn dep vs m=some (r,m')) (halive:∀ c:Cel,c.d<dep→(lk m c).isSome→(lk m' c).isSome) {x:Cx} {w:World} {args:Array Value}
   (E:Enters cfg x vs m args w):Fk P f args w fun v w'=>∃ x',Leaves cfg x x' dep m m' r v w w':=by
 obtain⟨hcode,hres,har⟩:=bcc hc hb;unfold DM at h;split at h
 · rename_i hv
   obtain⟨x0,R0,F0⟩:=Rel.lU (dep:=dep) E hv.2 (n:=F.ntmps) abu;have key:∀ {e st v},nu e= .normal∨nu e= .ret→AH cfg AY dep n fn.body ⟨entry 0 vs,m⟩=some (e,st)→Cs dep st.get fn.results=some v→C4 dep v st.mem=some (r,m')→Fk P f args w fun v w'=>∃ x',Leaves cfg x x' dep m m' r v w w':=by
     intro e st v he BD h1 h2;refine .inr ⟨BW hf hname hb args w,callsIn_wide.1 (CallsIn.mono (n:=0) (R:=fun e w'=>∃ v,e= .returned v∧∃ x',Leaves cfg x x' dep m m' r v w w') (callsIn_of_wp_marks hf hb trivial (wpIn_wide.2 ?_)) (fun e w' h=>by obtain⟨v,rfl,h⟩:=h;exact h))⟩
     refine ase hm hC hO hA c fn.body hcode BD (R0.from rfl w.heap.size) (ab5 _) (fun a' w' x' R' F'=> ?_)
     obtain⟨l,hl,hnd,hD⟩:=R'.defs;obtain⟨w2,R2,k1,k2,k3,k4,k5⟩:=Rel.shut (P:=P) (fn:=F) (T:=fun e w'=>∃ v,e= .returned v∧∃ x',Leaves cfg x x' dep m m' r v w w') l w' R'.Wq hnd hD
     obtain⟨u,x'',g1,g2,g3,g4⟩:=ba1 R2 hres h1 h2;have hb':x'.base=w.heap.size:=F'.base;have FT:Fr dep (x0.from w.heap.size) x'' w w2:=⟨ac7 F'.size k1,fun b hb ho=>by
      obtain⟨q1,q2⟩:=F'.same b hb ho;have q3:=(g4.same b (ac1 hb (ac7 F'.size k1)) (by rw[q2];exact ho)).2
      exact⟨(k2 b (by rw[hb'];exact hb)).trans q1,q3.trans q2⟩,fun d k hd=>(g4.ad d k hd).trans (F'.ad d k hd),F'.io.trans k3,F'.room.trans k4,g4.base.trans F'.base⟩
     have hp:LeavesInM Fence.wide 0 P F a'.tmps (fun e w'=>∃ v,e= .returned v∧∃ x',Leaves cfg x x' dep m m' r v w w') a'.defers .returning w':=by
      rw[hl];refine k5 ⟨u,g1,u,rfl,x''.from x.base,⟨g2.from rfl _,?_,F0.trans (by have:=FT.from;rwa [F0.base] at this),halive⟩⟩
      rw[tn];exact g3.from _
     rcases he with he|he<;>rw[he]<;>exact hp
   split at h
   · rename_i st BD
     obtain⟨v,h1,h2⟩:=ab7.1 h;exact key (.inl rfl) BD h1 h2
   · rename_i st BD
     obtain⟨v,h1,h2⟩:=ab7.1 h;exact key (.inr rfl) BD h1 h2
   · cases h
 · cases h
theorem aE (hm:P.follows .mixedOrders=true) (hC:CM P cfg) (hF:ud P cfg) (hX:FU P cfg):∀ n,CL P cfg (BU cfg n)
 |0=>fun _ _ _ _ _ _ h=>by cases h
 | n+1=>fun f dep vs m r m' h x w args E=>by
  have halive:=aao cfg (n+1) f dep vs m r m' h;unfold BU at h;split at h
  · rename_i g hg
    simp only[abz] at h;obtain⟨v,h1,he⟩:=h;cases he;exact HL hX hg h1 E
  · split at h
    · rename_i fn hfn
      obtain⟨F,ad,c,h1,h2,h3,h4⟩:=hF f fn hfn;exact ZF hm hC (aE hm hC hF hX n) (aao cfg n) h1 h2 h3 h4 h halive E
    · cases h
end
