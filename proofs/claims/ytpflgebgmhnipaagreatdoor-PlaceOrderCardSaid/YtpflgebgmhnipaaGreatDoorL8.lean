/- The evaluator of Go code and its proofs, part 8. Own work. -/
import Derived.Test.YtpflgebgmhnipaaGreatDoorL7
import Derived.RangeFuncNested
set_option linter.unusedVariables false
set_option linter.unusedSimpArgs false
set_option linter.unusedSectionVars false
/-! EvIter -/
/- A range over a function whose values are known: the statement's rule. Own work. -/
namespace Go.Ev
open Go Go.RowKit

variable {P : Program}

/-- the two blocks that the statement lays stay as they are -/
def Keep2 (B : Nat) (W W' : World) : Prop := W'.heap[B]? = W.heap[B]? ∧ W'.heap[B + 1]? = W.heap[B + 1]?
theorem Keep2.trans {B : Nat} {X Y Z : World} (h : Keep2 B X Y) (k : Keep2 B Y Z) : Keep2 B X Z := ⟨k.1.trans h.1, k.2.trans h.2⟩

/-- what stays where the world grows, and where the loop's record is turned -/
def Abide (B : Nat) (I : World → Prop) : Prop := ∀ X Y row, I X → X.grownBy Y row → (∀ r, row = some r → r = B + 1 ∧ ∃ o : Obj, X.heap[r]? = some o ∧ o.isCells = false) → I Y
theorem Abide.alloc {B : Nat} {I : World → Prop} (h : Abide B I) {W : World} (o : Obj) (hs : I W) : I (W.alloc o) := h W _ none hs (World.grownBy_alloc W o none) (fun r e => by cases e)
theorem Abide.putObj {B : Nat} {I : World → Prop} (h : Abide B I) {W : World} {o : Obj} (o' : Obj) (hs : I W) (hl : W.heap[B + 1]? = some o) (ho : o.isCells = false) : I (W.putObj (B + 1) o') :=
  h W _ (some (B + 1)) hs (grownBy_putObj' W (B + 1) o') (fun r e => by cases e; exact ⟨rfl, o, hl, ho⟩)

/-- how a round's body may be left -/
def roundEnd (B : Nat) (Kp : World → World → Prop) (I : World → Prop) (Ix : Code → World → Prop) (W : World) : Exit → Act → World → Prop
  | .normal, _, W' => Keep2 B W W' ∧ Kp W W' ∧ I W'
  | .ret, _, W' => Keep2 B W W' ∧ Ix .ret W'
  | .exit id, _, W' => Keep2 B W W' ∧ Ix (.exit id) W'
  | _, _, _ => False

theorem wpIn_each {g : Operand} {ps : Array Tmp} {assign body : Code} {Q : Exit → Act → World → Prop} {a : Act} {w : World} {gf : Nat} {lb : Array Value} (hg : a.eval g = .func (.func gf) #[] lb)
    (eg : ∀ args w, (callFunc gf args).run P w = .ok (.enter gf args) w) {xs : List (Array Value)} {Kp : World → World → Prop} (hseq : Tells P gf lb xs Kp w)
    (hKt : ∀ {A B C : World}, Kp A B → Kp B C → Kp A C) (hKb : ∀ (W : World) (l : Nat) (o' : Obj), w.heap.size ≤ l → Kp W (W.putObj l o'))
    (I : Nat → World → Prop) (Ix : Code → World → Prop) (hI : ∀ i, Abide w.heap.size (I i)) (hIx : ∀ c, Abide w.heap.size (Ix c)) (h0 : I 0 w)
    (hps : ∀ (i : Nat) (x : Array Value) (W : World), xs[i]? = some x → I i W → x.size = ps.size)
    (hround : ∀ (l i : Nat) (x : Array Value) (W : World), xs[i]? = some x → I i W → w.heap.size + 1 < W.heap.size → (∃ o : Obj, W.heap[w.heap.size + 1]? = some o ∧ o.isCells = false) →
      assign.wpIn (rnd l) 0 P (Exit.then (fun a1 W1 => Keep2 w.heap.size W W1 ∧ Kp W W1 ∧ ∀ o', body.wpIn (rnd l) 0 P (roundEnd w.heap.size Kp (I (i + 1)) Ix (W1.putObj (w.heap.size + 1) o')) a1 (W1.putObj (w.heap.size + 1) o')) (fun _ _ _ => False))
        { tmps := (ps.zip x).foldl (fun t (p, v) => t.setIfInBounds p v) a.tmps, defers := [] } W)
    (hdone : ∀ (W : World), I xs.length W → w.heap.size < W.heap.size → W.heap[w.heap.size]? = some (.deferred (some [])) → Q .normal { a with defers := markD w.heap.size :: a.defers } W)
    (hstop : ∀ (c : Code) (W : World), Ix c W → w.heap.size < W.heap.size → W.heap[w.heap.size]? = some (.deferred (some [])) → c.wpIn Fence.wide 0 P Q { a with defers := markD w.heap.size :: a.defers } W) :
    (Code.rangeFunc g ps assign body).wpIn Fence.wide 0 P Q a w := by
  refine wpIn_rangeFunc ?_
  intro fn _
  obtain ⟨B, hB⟩ : ∃ B, B = w.heap.size := ⟨_, rfl⟩
  rw [← hB] at hKb hI hIx hround hdone hstop
  obtain ⟨rec, hrec⟩ : ∃ rec : LoopState → Option Code → Loop, rec = fun st pe => { state := st, pending := pe, fn, tmps := a.tmps, params := ps, assign, body, defers := B } := ⟨_, rfl⟩
  obtain ⟨W1, hW1⟩ : ∃ W1, (w.alloc (.deferred (some []))).alloc (.loop (rec .ready none)) = W1 := ⟨_, rfl⟩
  have hL1 : W1.heap[B + 1]? = some (.loop (rec .ready none)) := by
    rw [← hW1, hB]; have := World.alloc_heap_new (w.alloc (.deferred (some []))) (.loop (rec .ready none)); rwa [World.size_alloc] at this
  have hK1 : W1.heap[B]? = some (.deferred (some [])) := by
    rw [← hW1, hB]; exact (Below.heap_alloc _ _ _ (by simp)).trans (World.alloc_heap_new w _)
  have hI1 : I 0 W1 := by rw [← hW1]; exact (hI 0).alloc _ ((hI 0).alloc _ h0)
  have hb1 : Below w.heap.size w W1 := by
    rw [← hW1]; exact ((Below.refl _ w).alloc (Nat.le_refl _) _).alloc (by simp) _
  have hnil : ∀ {X Y : World}, X.grownBy Y none → Keep2 B X Y ∨ ¬ B + 1 < X.heap.size := fun {X Y} h => by
    by_cases hlt : B + 1 < X.heap.size
    · exact .inl ⟨h.block B (by omega) (by simp), h.block (B + 1) hlt (by simp)⟩
    · exact .inr hlt
  refine ⟨B + 1, [markD B], W1, { target := .fn (.func gf) lb, args := #[.func (.yield (B + 1)) #[] #[]] }, W1, gf,
    #[.func (.yield (B + 1)) #[] #[]] ++ lb, W1, ?_, ?_, fun _ _ => trivial, ?_, (fun h => by cases h), ?_⟩
  · rw [← hW1, hrec, hB]; exact run_enterLoop_outer _ _ _ _ _
  · simp only [resolve, hg]
    simp [go_sem]
  · simp [invoke, go_sem, eg]
  · refine (hseq (B + 1) (fun i W => I i W ∧ W.heap[B + 1]? = some (.loop (rec .ready none)) ∧ W.heap[B]? = some (.deferred (some [])))
      (fun W => ∃ c, Ix c W ∧ W.heap[B + 1]? = some (.loop (rec .done (some c))) ∧ W.heap[B]? = some (.deferred (some [])))
      W1 hb1 (fun i X Y hs hg' => ?_) (fun X Y hs hg' => ?_) ?_ ⟨hI1, hL1, hK1⟩).mono ?_
    · have hlt := (Array.getElem?_eq_some_iff.1 hs.2.1).1
      obtain ⟨k1, k2⟩ := (hnil hg').resolve_right (by omega)
      exact ⟨hI i X Y none hs.1 hg' (fun r e => by cases e), k2.trans hs.2.1, k1.trans hs.2.2⟩
    · obtain ⟨c, h1, h2, h3⟩ := hs
      have hlt := (Array.getElem?_eq_some_iff.1 h2).1
      obtain ⟨k1, k2⟩ := (hnil hg').resolve_right (by omega)
      exact ⟨c, hIx c X Y none h1 hg' (fun r e => by cases e), k2.trans h2, k1.trans h3⟩
    · -- one round
      rintro i x W hx ⟨hi, hl, hk⟩
      have hlt : B + 1 < W.heap.size := (Array.getElem?_eq_some_iff.1 hl).1
      have hy := run_yield (P := P) (args := x) hl (by rw [hrec]; exact hps i x W hx hi)
      rw [hrec] at hy
      refine ⟨fn, _, assign, body, hy, roundIn_of_wpIn trivial (wpIn_mono (hround (B + 1) i x W hx hi hlt ⟨_, hl, rfl⟩) ?_)⟩
      rintro e a1 Wa hq
      cases e with
      | normal =>
        obtain ⟨hk2, hkp, hbody⟩ := hq
        have hla : Wa.heap[B + 1]? = some (.loop (rec .ready none)) := hk2.2.trans hl
        have hka : Wa.heap[B]? = some (.deferred (some [])) := hk2.1.trans hk
        have hlta : B + 1 < Wa.heap.size := (Array.getElem?_eq_some_iff.1 hla).1
        refine ⟨_, run_beginRound hla (by rw [hrec]), wpIn_mono (hbody _) ?_⟩
        have hl2 : (Wa.putObj (B + 1) (.loop { rec .ready none with state := .busy })).heap[B + 1]? = some (.loop { rec .ready none with state := .busy }) := World.putObj_heap_same hlta
        have hk2' : (Wa.putObj (B + 1) (.loop { rec .ready none with state := .busy })).heap[B]? = some (.deferred (some [])) := (World.putObj_heap_other (by omega)).trans hka
        have hw2 : Kp Wa (Wa.putObj (B + 1) (.loop { rec .ready none with state := .busy })) := hKb _ _ _ (by omega)
        have fin : ∀ (jump : Option Code) (W3 : World), Keep2 B (Wa.putObj (B + 1) (.loop { rec .ready none with state := .busy })) W3 →
            (Instr.endRound (B + 1) jump).run P W3 = .ok (.bool jump.isNone) (W3.putObj (B + 1) (.loop (rec (if jump.isNone then .ready else .done) jump))) ∧
            W3.heap[B + 1]? = some (.loop { rec .ready none with state := .busy }) ∧
            (W3.putObj (B + 1) (.loop (rec (if jump.isNone then .ready else .done) jump))).heap[B + 1]? = some (.loop (rec (if jump.isNone then .ready else .done) jump)) ∧
            (W3.putObj (B + 1) (.loop (rec (if jump.isNone then .ready else .done) jump))).heap[B]? = some (.deferred (some [])) := fun jump W3 hk3 => by
          have hl3 := hk3.2.trans hl2
          have := run_endRound (P := P) jump hl3
          rw [hrec] at this ⊢
          exact ⟨this, by rw [hrec] at hl3; exact hl3, World.putObj_heap_same (Array.getElem?_eq_some_iff.1 hl3).1, (World.putObj_heap_other (by omega)).trans (hk3.1.trans hk2')⟩
        rintro e a3 W3 hp
        cases e with
        | normal =>
          obtain ⟨hk3, hkp3, hi3⟩ := hp
          obtain ⟨hr, hl3, hl4, hk4⟩ := fin none W3 hk3
          exact ⟨_, _, hr, .inl ⟨rfl, ⟨(hI _).putObj _ hi3 hl3 rfl, hl4, hk4⟩, hKt (hKt hkp hw2) (hKt hkp3 (hKb _ _ _ (by omega)))⟩⟩
        | ret =>
          obtain ⟨hk3, hi3⟩ := hp
          obtain ⟨hr, hl3, hl4, hk4⟩ := fin (some .ret) W3 hk3
          exact ⟨_, _, hr, .inr ⟨rfl, .ret, (hIx _).putObj _ hi3 hl3 rfl, hl4, hk4⟩⟩
        | exit id =>
          obtain ⟨hk3, hi3⟩ := hp
          obtain ⟨hr, hl3, hl4, hk4⟩ := fin (some (.exit id)) W3 hk3
          exact ⟨_, _, hr, .inr ⟨rfl, .exit id, (hIx _).putObj _ hi3 hl3 rfl, hl4, hk4⟩⟩
        | goto t => exact hp.elim
        | panic ch => exact hp.elim
        | outgrown => exact hp.elim
      | _ => exact hq.elim
    · -- behind the iterator
      rintro e W2 ⟨⟨v, rfl⟩, (⟨hi, hl, hk⟩ | ⟨c, hi, hl, hk⟩)⟩
      · have hlt : B + 1 < W2.heap.size := (Array.getElem?_eq_some_iff.1 hl).1
        exact ⟨none, _, by have := run_endLoop (P := P) hl (by rw [hrec]; simp); rw [hrec] at this; exact this,
          hdone _ ((hI _).putObj _ hi hl rfl) (by simp; omega) ((World.putObj_heap_other (by omega)).trans hk)⟩
      · have hlt : B + 1 < W2.heap.size := (Array.getElem?_eq_some_iff.1 hl).1
        exact ⟨some c, _, by have := run_endLoop (P := P) hl (by rw [hrec]; simp); rw [hrec] at this; exact this,
          hstop c _ ((hIx _).putObj _ hi hl rfl) (by simp; omega) ((World.putObj_heap_other (by omega)).trans hk)⟩
end Go.Ev

/-! EvZk -/
/- Cells of lower depth stay alive. Own work. -/
namespace Go.Ev
open Go

def OrcAlive (orc : Orc) : Prop := ∀ f dep vs m r m', orc f dep vs m = some (r, m') → ∀ c : Cel, c.d < dep → (lk m c).isSome → (lk m' c).isSome

/-- lower cells of st are there in st' -/
def Keeps (dep : Nat) (st st' : St) : Prop := ∀ c : Cel, c.d < dep → (st.get (.cell c)).isSome → (st'.get (.cell c)).isSome

theorem Keeps.refl (dep : Nat) (st : St) : Keeps dep st st := fun _ _ h => h
theorem Keeps.trans {dep : Nat} {s t u : St} (h : Keeps dep s t) (k : Keeps dep t u) : Keeps dep s u := fun c hc hs => k c hc (h c hc hs)

theorem updG_some : ∀ (u : List (Loc × V)) (s : Get) (l : Loc), (s l).isSome → (updG s u l).isSome
  | [], _, _, h => h
  | (l0, v) :: r, s, l, h => by
    refine updG_some r _ l ?_
    show (if l = l0 then some v else s l).isSome
    split
    · rfl
    · exact h

theorem Keeps.upd (dep : Nat) (st : St) (u : List (Loc × V)) : Keeps dep st (st.upd u) := fun c _ h => by
  rw [get_upd]; exact updG_some u _ _ h

section
variable {cfg : Cfg} {orc : Orc} {dep : Nat}

theorem keeps_callM (hA : OrcAlive orc) {st st' : St} {dst : Option Nat} {own : Bool} {f : FuncId} {vs : List V} (h : callM orc dep st dst own f vs = some st') : Keeps dep st st' := by
  unfold callM at h
  split at h
  · split at h
    · rename_i r m hor
      split at h
      · have hk : Keeps dep st ⟨dropBor dep st.env, cutMem dep m⟩ := fun c hc hs => by
          show (lk (cutMem dep m) c).isSome
          rw [lk_cutMem, if_pos (by omega)]
          exact hA f (dep + 1) vs st.mem r m hor c (by omega) hs
        split at h
        · cases h
          exact hk.trans (.upd _ _ _)
        · split at h
          · cases h
            exact hk.trans (.upd _ _ _)
          · cases h
      · cases h
    · cases h
  · cases h

theorem keeps_step (hA : OrcAlive orc) {st st' : St} {io : IOper} (h : evStep cfg orc dep st io = some st') : Keeps dep st st' := by
  unfold evStep at h
  split at h
  · cases h
    exact .upd _ _ _
  · unfold stepM at h
    split at h
    · split at h
      · split at h
        · exact keeps_callM hA h
        · cases h
      · cases h
    · cases h

theorem keeps_ops (hA : OrcAlive orc) : ∀ (l : List IOper) {st st' : St}, evOps cfg orc dep l st = some st' → Keeps dep st st'
  | [], _, _, h => by cases h; exact .refl _ _
  | io :: l, st, st', h => by
    unfold evOps at h
    split at h
    · rename_i s1 h1
      exact (keeps_step hA h1).trans (keeps_ops hA l h)
    · cases h

theorem keeps_opsU : ∀ (l : List IOper) {st st' : St} {r}, evOpsU cfg orc dep l st = some (r, st') → Keeps dep st st'
  | [], _, _, _, h => by cases h; exact .refl _ _
  | io :: l, st, st', r, h => by
    unfold evOpsU at h
    split at h
    · split at h
      · rename_i r' s2 h2
        cases h
        exact (Keeps.upd _ _ _).trans (keeps_opsU l h2)
      · cases h
    · cases h

theorem keeps_region (hA : OrcAlive orc) {l : List IOper} {un : List (Nat × Nat)} {st st' : St} (h : evRegion cfg orc dep l un st = some st') : Keeps dep st st' := by
  unfold evRegion at h
  split at h
  · exact keeps_ops hA l h
  · split at h
    · rename_i r s2 h2
      split at h
      · cases h
        exact keeps_opsU l h2
      · cases h
    · cases h

theorem keeps_settle (keep : List Nat) (st : St) : Keeps dep st (settle dep keep st) := fun c _ h => by
  show (lk (settleM dep st.mem) c).isSome
  rw [lk_settleM, Option.isSome_map]
  exact h

theorem keeps_loop {f : St → Option (Ex × St)} (hf : ∀ st e st', f st = some (e, st') → Keeps dep st st') : ∀ (m : Nat) {st st' : St} {e : Ex}, evLoop f m st = some (e, st') → Keeps dep st st'
  | 0, _, _, _, h => by cases h
  | m + 1, st, st', e, h => by
    unfold evLoop at h
    split at h
    · rename_i s1 h1
      exact (hf _ _ _ h1).trans (keeps_loop hf m h)
    · exact hf _ _ _ h

theorem lk_leaveM (dep : Nat) (c : Cel) : ∀ m : List (Cel × V), lk (leaveM dep m) c = if c.d < dep then (lk m c).map (V.homeN dep) else none
  | [] => by simp [leaveM, lk]
  | (c0, v) :: r => by
    have ih := lk_leaveM dep c r
    unfold leaveM
    split
    · rename_i h
      simp only [lk]
      by_cases e : c0 = c
      · subst e; simp [h]
      · simp [e, ih]
    · rename_i h
      rw [ih]
      simp only [lk]
      by_cases e : c0 = c
      · subst e; simp [h]
      · simp [e]

theorem keeps_leave (dep : Nat) (e e' : List (Nat × V)) (m : List (Cel × V)) : Keeps (dep + 1) ⟨e, m⟩ ⟨e', leaveM (dep + 1) m⟩ := fun c hc h => by
  show (lk (leaveM (dep + 1) m) c).isSome
  rw [lk_leaveM, if_pos hc, Option.isSome_map]
  exact h
theorem Keeps.less {dep dep' : Nat} {s t : St} (h : Keeps dep' s t) (hle : dep ≤ dep') : Keeps dep s t := fun c hc => h c (Nat.lt_of_lt_of_le hc hle)

theorem keeps_each {f : List D → List (Cel × V) → Option (Ex × List (Cel × V))} (hf : ∀ x m e m', f x m = some (e, m') → ∀ E E', Keeps dep ⟨E, m⟩ ⟨E', m'⟩) : ∀ (l : List (List D)) {m m' : List (Cel × V)} {e : Ex}, evEach f l m = some (e, m') → ∀ E E', Keeps dep ⟨E, m⟩ ⟨E', m'⟩
  | [], m, m', e, h => by cases h; exact fun E E' c _ h => h
  | x :: l, m, m', e, h => by
    unfold evEach at h
    split at h
    · rename_i m1 h1
      exact fun E E' => (hf _ _ _ _ h1 E E).trans (keeps_each hf l h E E')
    · exact hf _ _ _ _ h

theorem keeps_round {ca cb : St → Option (Ex × St)} (ha : ∀ st e st', ca st = some (e, st') → Keeps (dep + 1) st st') (hb : ∀ st e st', cb st = some (e, st') → Keeps (dep + 1) st st') {ps : List Nat} {e0 : List (Nat × V)} {x : List D} {m m' : List (Cel × V)} {e : Ex}
    (h : evRound ca cb dep ps e0 x m = some (e, m')) (E E' : List (Nat × V)) : Keeps (dep + 1) ⟨E, m⟩ ⟨E', m'⟩ := by
  unfold evRound at h
  split at h
  · rename_i e1 _
    split at h
    · rename_i s1 h1
      split at h
      · rename_i r s2 h2
        cases h
        obtain ⟨E2, m2⟩ := s2
        exact fun c hc h => (((ha _ _ _ h1).trans (hb _ _ _ h2)).trans (keeps_leave dep E2 E' m2)) c hc h
      · cases h
    · cases h
  · cases h

theorem keeps_code (hA : OrcAlive orc) {n : Nat} (ic : ICode) : ∀ {dep : Nat} {st st' : St} {e : Ex}, evCode cfg orc dep n ic st = some (e, st') → Keeps dep st st' := by
  induction ic with
  | skip => intro dep st st' e h; simp only [evCode] at h; cases h; exact .refl _ _
  | region ops un keep =>
    intro dep st st' e h
    simp only [evCode] at h
    split at h
    · rename_i s1 h1
      cases h
      exact (keeps_region hA h1).trans (keeps_settle _ _)
    · cases h
  | seq a b iha ihb =>
    intro dep st st' e h
    simp only [evCode] at h
    split at h
    · rename_i s1 h1
      exact (iha h1).trans (ihb h)
    · exact iha h
  | cond x a b iha ihb =>
    intro dep st st' e h
    simp only [evCode] at h
    split at h
    · split at h
      · exact iha h
      · exact ihb h
    · exact iha (bothWays_eq h).1
    · cases h
  | block id b ih =>
    intro dep st st' e h
    simp only [evCode] at h
    split at h
    · rename_i id' s1 h1
      split at h <;> cases h <;> exact ih h1
    · exact ih h
  | loop b ih =>
    intro dep st st' e h
    simp only [evCode] at h
    exact keeps_loop (fun st e st' h => ih h) n h
  | each x ps a b iha ihb =>
    intro dep st st' e h
    simp only [evCode] at h
    split at h
    · split at h
      · rename_i e' m' h2
        cases h
        obtain ⟨E, m⟩ := st
        exact (keeps_each (dep := dep + 1) (fun x m e m' h E E' => keeps_round (fun _ _ _ h => iha h) (fun _ _ _ h => ihb h) h E E') _ h2 E _).less (Nat.le_succ _)
      · cases h
    · cases h
  | exit id => intro dep st st' e h; simp only [evCode] at h; cases h; exact .refl _ _
  | ret => intro dep st st' e h; simp only [evCode] at h; cases h; exact .refl _ _
  | demote ls => intro dep st st' e h; simp only [evCode] at h; cases h; exact fun c _ h => h
  | give ls =>
    intro dep st st' e h
    simp only [evCode] at h
    cases h
    unfold givesB
    induction ls generalizing st with
    | nil => exact .refl _ _
    | cons k ls ih => exact (Keeps.upd dep st _).trans (ih (st := st.upd (givenB st.get k)))
  | free k =>
    intro dep st st' e h
    simp only [evCode] at h
    cases h
    intro c hc hs
    show (lk (freeM dep k st.mem) c).isSome
    rw [lk_freeM, if_neg (by omega), Option.isSome_map]
    exact hs
  | bad => intro dep st st' e h; simp [evCode] at h

theorem leaveR_spec {dep : Nat} {v v' : V} {m m' : List (Cel × V)} (h : leaveR dep v m = some (v', m')) : v' = v ∧ m' = leaveM dep m ∧ v.upTo dep = true := by
  unfold leaveR at h
  split at h
  · rename_i hu
    cases h
    exact ⟨rfl, rfl, hu⟩
  · cases h

theorem alive_fn (cfg : Cfg) : ∀ n, OrcAlive (evFn cfg n)
  | 0 => fun _ _ _ _ _ _ h => by cases h
  | n + 1 => fun f dep vs m r m' h c hc hs => by
    unfold evFn at h
    split at h
    · simp only [Option.map_eq_some_iff] at h
      obtain ⟨v, _, he⟩ := h
      cases he
      exact hs
    · split at h
      · rename_i fn _
        unfold evBody at h
        split at h
        · have key : ∀ {e st v}, evCode cfg (evFn cfg n) dep n fn.body ⟨entry 0 vs, m⟩ = some (e, st) → leaveR dep v st.mem = some (r, m') → (lk m' c).isSome := fun h1 h2 => by
            obtain ⟨_, e2, _⟩ := leaveR_spec h2
            rw [e2, lk_leaveM, if_pos hc, Option.isSome_map]
            exact keeps_code (alive_fn cfg n) fn.body h1 c hc hs
          split at h
          · rename_i st h1
            obtain ⟨v, _, he⟩ := Option.bind_eq_some_iff.1 h
            exact key h1 he
          · rename_i st h1
            obtain ⟨v, _, he⟩ := Option.bind_eq_some_iff.1 h
            exact key h1 he
          · cases h
        · cases h
      · cases h

end
end Go.Ev

/-! EvRound -/
/- The state ahead of a round of a range over a function, in it, behind it. Own work. -/
namespace Go.Ev
open Go Go.RowKit

/-- places that are gone behind the call -/
def goneL (dep : Nat) : Loc → Bool
  | .slot _ => true
  | .cell c => decide (dep ≤ c.d)

/-- how a call's caller sees the memory behind it: arrays of places that are gone are nobody's, but for the result's -/
def Cx.leave (x : Cx) (dep : Nat) (res : Option Loc) : Cx := { x with ow := fun b => match x.ow b with
  | some (.at l) => if goneL dep l then (if res = some l then some .res else none) else some (.at l)
  | o => o }

theorem leave_none {x : Cx} {dep : Nat} {res : Option Loc} {b : Nat} (h : x.ow b = none) : (x.leave dep res).ow b = none := by simp [Cx.leave, h]
theorem leave_keep {x : Cx} {dep : Nat} {res : Option Loc} {b : Nat} {l : Loc} (h : x.ow b = some (.at l)) (hl : goneL dep l = false) : (x.leave dep res).ow b = some (.at l) := by simp [Cx.leave, h, hl]
theorem leave_gone {x : Cx} {dep : Nat} {b : Nat} {l : Loc} (h : x.ow b = some (.at l)) (hl : goneL dep l = true) : (x.leave dep none).ow b = none := by simp [Cx.leave, h, hl]
theorem leave_res {x : Cx} {dep : Nat} {b : Nat} {l : Loc} (h : x.ow b = some (.at l)) (hl : goneL dep l = true) : (x.leave dep (some l)).ow b = some .res := by simp [Cx.leave, h, hl]

section
variable {P : Program} {cfg : Cfg} {x : Cx} {N dep : Nat} {a : Act} {w : World}

theorem RdV.homeN {x x' : Cx} {s s' : Get} {cv cv' : Loc → Option Value} {l : Loc} {u : Value} {v : V} (n : Nat) (h : RdV x s cv w (some l) u v)
    (hc : ∀ b o u, x.ow b = none → w.cell? (ad3 b o) = some u → x'.ow b = none ∧ w.cell? (ad3 b o) = some u)
    (hB : ∀ d k, d < n → (s (.cell ⟨d, k, 0⟩)).isSome → (s' (.cell ⟨d, k, 0⟩)).isSome ∧ x'.ad d k = x.ad d k)
    (hO : ∀ b, x.ow b = some (.at l) → x'.ow b = some (.at l)) : RdV x' s' cv' w (some l) u (v.homeN n) := by
  have go : (if v.upTo n then v else .junk) = v.homeN n → RdV x' s' cv' w (some l) u (v.homeN n) := fun e => by
    rw [← e]
    split
    · rename_i hup
      exact h.move n hc (.refl _) hB (fun l0 e b hb => by cases e; exact ⟨hO b hb, fun o u h => h⟩) hup
    · exact .junk _ _
  cases v with
  | own nw z es =>
    cases h with
    | own _ b o len cap _ _ _ how hlen hcap A => exact .own _ _ _ _ _ _ _ _ (hO b how) hlen hcap (A.mono (fun b o u h1 h2 => hc b o u h1 h2) (fun _ _ h => h) (fun _ _ _ h => h))
  | _ => exact go rfl

theorem Rel.leave {st : St} (R : Rel cfg x N st.get a w) (dep : Nat) (res : Option Loc) : Rel cfg (x.leave dep res) 0 (get0 (leaveM dep st.mem)) act0 w := by
  have hc : ∀ b o u, x.ow b = none → w.cell? (ad3 b o) = some u → (x.leave dep res).ow b = none ∧ w.cell? (ad3 b o) = some u := fun b o u h1 h2 => ⟨leave_none h1, h2⟩
  have hcell : ∀ c v', get0 (leaveM dep st.mem) (.cell c) = some v' → c.d < dep ∧ ∃ v, st.get (.cell c) = some v ∧ v' = v.homeN dep := fun c v' h => by
    have h' : lk (leaveM dep st.mem) c = some v' := h
    rw [lk_leaveM] at h'
    split at h'
    · rename_i hd
      rw [Option.map_eq_some_iff] at h'
      obtain ⟨v, h1, h2⟩ := h'
      exact ⟨hd, v, h1, h2.symm⟩
    · cases h'
  have hal : ∀ d k, d < dep → (st.get (.cell ⟨d, k, 0⟩)).isSome → (get0 (leaveM dep st.mem) (.cell ⟨d, k, 0⟩)).isSome := fun d k hd h => by
    show (lk (leaveM dep st.mem) _).isSome
    rw [lk_leaveM, if_pos hd, Option.isSome_map]
    exact h
  refine ⟨rfl, .nil rfl, fun b hb => R.bound b fun e => hb (leave_none e), fun l v' h => ?_, (fun k v h => by cases h), fun c v' h => ?_, fun n e hg => (R.globs n e hg).mono hc, fun b h => R.nofz b ?_, fun n ob hg => ⟨leave_none (R.gobj n ob hg).1, (R.gobj n ob hg).2⟩⟩
  rotate_left 2
  · simp only [Cx.leave] at h
    split at h
    · rename_i l e; exact .inr ⟨l, e⟩
    · exact h
  · cases l with
    | slot k => cases h
    | cell c =>
      obtain ⟨hd, v, h1, rfl⟩ := hcell c v' h
      obtain ⟨u, hu, hr⟩ := R.locs (.cell c) v h1
      exact ⟨u, hu, hr.homeN dep hc (fun d k hd h => ⟨hal d k hd h, rfl⟩) (fun b hb => leave_keep hb (by simp [goneL]; omega))⟩
  · obtain ⟨hd, v, h1, rfl⟩ := hcell c v' h
    obtain ⟨g1, g2, g3⟩ := R.box c v h1
    exact ⟨by simp [Cx.leave, g1], hal _ _ hd g2, g3⟩

theorem Fr.leave (dep' : Nat) (dep : Nat) (res : Option Loc) : Fr dep' x (x.leave dep res) w w :=
  ⟨Nat.le_refl _, fun b _ h => ⟨rfl, by rcases h with h | h <;> simp [Cx.leave, h]⟩, fun _ _ _ => rfl, .refl _, .refl _, rfl⟩
end

section
variable {P : Program} {cfg : Cfg} {x : Cx} {N dep : Nat} {a : Act} {w : World}

theorem cutMem_leaveM (dep : Nat) : ∀ m : List (Cel × V), cutMem dep (leaveM (dep + 1) m) = leaveM (dep + 1) m
  | [] => rfl
  | (c, v) :: r => by
    unfold leaveM
    split
    · rename_i h
      simp only [cutMem, cutMem_leaveM dep r]
      rw [if_pos (by omega)]
    · exact cutMem_leaveM dep r

theorem upTo_homeN (n : Nat) (v : V) : (v.homeN n).upTo n = true := by
  unfold V.homeN
  split
  · rfl
  · split
    · assumption
    · rfl

theorem leaveM_upTo (n : Nat) : ∀ m : List (Cel × V), (leaveM n m).all (fun p => p.2.upTo n) = true
  | [] => rfl
  | (c, v) :: r => by
    unfold leaveM
    split
    · simp only [List.all_cons, upTo_homeN, leaveM_upTo n r, Bool.and_self]
    · exact leaveM_upTo n r

theorem unbor_idem (dep : Nat) (v : V) : (v.unbor dep).unbor dep = v.unbor dep := by
  have h : ∀ u : V, u.unbor dep = u ∨ u.unbor dep = .junk := fun u => by
    unfold V.unbor
    split
    · exact .inl rfl
    · exact .inl rfl
    · split
      · exact .inl rfl
      · exact .inr rfl
  rcases h v with e | e
  · rw [e, e]
  · rw [e]; rfl

theorem dropBor_idem (dep : Nat) : ∀ e : List (Nat × V), dropBor dep (dropBor dep e) = dropBor dep e
  | [] => rfl
  | (k, v) :: r => by simp only [dropBor, unbor_idem, dropBor_idem dep r]

theorem lk_roundE (k : Nat) : ∀ e : List (Nat × V), lk (roundE e) k = (lk e k).map V.roundV
  | [] => rfl
  | (k', v) :: r => by
    simp only [roundE, lk]
    split
    · rfl
    · exact lk_roundE k r

/-- what is borrowed may be forgotten -/
theorem Rel.dropBor {e : List (Nat × V)} {m : List (Cel × V)} (R : Rel cfg x N (St.get ⟨e, m⟩) a w) (dep : Nat) : Rel cfg x N (St.get ⟨dropBor dep e, m⟩) a w := by
  refine R.same (fun l v' h => ?_) (fun c v h => (R.box c v h).2.1)
  have mv : ∀ v l u, RdV x (St.get ⟨e, m⟩) (conc x a w) w (some l) u v → RdV x (St.get ⟨Go.Ev.dropBor dep e, m⟩) (conc x a w) w (some l) u v := fun v l u hr => by
    refine hr.mono (fun b o u h1 h2 => ⟨h1, h2⟩) (fun b o u h1 h2 => ⟨⟨u, h1⟩, h2⟩) (fun l' z es hs => ?_) (fun d k h => ⟨h, rfl⟩) (fun l0 _ b hb => ⟨hb, fun o u h => h⟩)
    cases l' with
    | cell c => exact ⟨es, hs, rfl, fun b o L C h => ⟨L, C, h⟩⟩
    | slot k =>
      have h2 : lk (Go.Ev.dropBor dep e) k = some (.own false z es) := hs
      rw [lk_dropBor, Option.map_eq_some_iff] at h2
      obtain ⟨v1, h3, h4⟩ := h2
      refine ⟨es, ?_, rfl, fun b o L C h => ⟨L, C, h⟩⟩
      show lk e k = _
      rw [h3]
      unfold V.unbor at h4
      split at h4
      · cases h4
      · cases h4
      · split at h4
        · rw [h4]
        · cases h4
  cases l with
  | cell c => exact ⟨v', h, fun u hr => mv _ _ _ hr⟩
  | slot k =>
    have h' : lk (Go.Ev.dropBor dep e) k = some v' := h
    rw [lk_dropBor, Option.map_eq_some_iff] at h'
    obtain ⟨v, h1, rfl⟩ := h'
    refine ⟨v, h1, fun u hr => ?_⟩
    unfold V.unbor
    split
    · exact mv _ _ _ hr
    · exact mv _ _ _ hr
    · split
      · exact mv _ _ _ hr
      · exact .junk _ _

/-- a world that has grown; block K, which is nobody's and no cells, may be another -/
theorem Rel.grownK {s : Get} (R : Rel cfg x N s a w) {w' : World} {K : Nat} (hK : K < w.heap.size → (x.ow K = none ∨ x.ow K = some .outer ∧ a.defers = []) ∧ ∀ c t fr, w.heap[K]? ≠ some (.cells c t fr)) (hz : w.heap.size ≤ w'.heap.size)
    (hh : ∀ b, b < w.heap.size → b ≠ K → w'.heap[b]? = w.heap[b]?) (hio : SameIO w w') (dep : Nat) : Rel cfg x N s a w' ∧ FrK K dep x x w w' := by
  have hlt : ∀ b o u, w.cell? (ad3 b o) = some u → b < w.heap.size := fun b o u h => by simpa using World.block_lt_of_cell? _ _ h
  have hcK : ∀ b o u, w.cell? (ad3 b o) = some u → b ≠ K := fun b o u h e => by
    subst e
    have := (hK (hlt _ _ _ h)).2
    unfold World.cell? at h
    split at h
    · rename_i c t fr e; exact this _ _ _ e
    · cases h
  have hcell : ∀ b o u, w.cell? (ad3 b o) = some u → w'.cell? (ad3 b o) = some u := fun b o u h => by rw [cell_of_heap (hh b (hlt b o u h) (hcK b o u h))]; exact h
  have hroom : Room w w' := fun b o u h1 h2 => ⟨⟨u, hcell b o u h1⟩, by rw [froz_of_heap (hh b (hlt b o u h1) (hcK b o u h1))]; exact h2⟩
  have hKn : ∀ b o, x.ow b = some o → o ≠ .outer → b ≠ K := fun b o h ho e => by
    subst e
    rcases (hK (R.bound _ (by rw [h]; simp))).1 with h1 | ⟨h1, _⟩
    · rw [h] at h1; cases h1
    · rw [h] at h1; cases h1; exact ho rfl
  have hcv : ∀ l u, conc x a w l = some u → conc x a w' l = some u := fun l u h => by
    cases l with
    | slot k => exact h
    | cell c => exact hcell _ _ _ h
  have hdf : DefsOk x a w' := by
    by_cases hn : a.defers = []
    · exact .nil hn
    · refine R.defs.mono R.bound rfl rfl (fun b h hb => ⟨rfl, hh b hb (fun e => ?_)⟩)
      subst e
      rcases (hK hb).1 with h1 | ⟨_, h1⟩
      · rw [h] at h1; cases h1
      · exact hn h1
  refine ⟨⟨R.size, hdf, fun b hb => Nat.lt_of_lt_of_le (R.bound b hb) hz, fun l v h => ?_, R.slotN, fun c v h => ?_, fun n e hg => (R.globs n e hg).mono (fun b o u h1 h2 => ⟨h1, hcell b o u h2⟩), fun b h => ?_, fun n ob hg => ?_⟩,
    hz, fun b hb _ => ⟨hh b hb, rfl⟩, fun _ _ _ => rfl, hio, hroom, rfl⟩
  · obtain ⟨u, hu, hr⟩ := R.locs l v h
    exact ⟨u, hcv l u hu, hr.mono (fun b o u h1 h2 => ⟨h1, hcell b o u h2⟩) hroom (fun l' z es hs => ⟨es, hs, rfl, fun b o L C h => ⟨L, C, hcv _ _ h⟩⟩) (fun d k h => ⟨h, rfl⟩) (fun l0 _ b hb => ⟨hb, fun o u h => hcell b o u h⟩)⟩
  · obtain ⟨h1, h2, h3⟩ := R.box c v h
    have hb := R.bound _ (by rw [h1]; simp)
    exact ⟨h1, h2, by rw [froz_of_heap (hh _ hb (hKn _ _ h1 (by simp)))]; exact h3⟩
  · have : ∃ o, x.ow b = some o ∧ o ≠ .outer := by rcases h with h | ⟨_, h⟩ <;> exact ⟨_, h, by simp⟩
    obtain ⟨o, ho, hne⟩ := this
    exact (R.nofz b h).heap (hh b (R.bound b (by rw [ho]; simp)) (hKn b o ho hne))
  · obtain ⟨g1, t, fr, g2⟩ := R.gobj n ob hg
    have hlt' := (Array.getElem?_eq_some_iff.1 g2).1
    exact ⟨g1, HoldsG.heap ⟨t, fr, g2⟩ (hh n hlt' (fun e => by subst e; exact (hK hlt').2 _ _ _ g2))⟩

/-- a round's own frame: it has the loop's slots, but none of its arrays -/
theorem Rel.enterR {e : List (Nat × V)} {m : List (Cel × V)} (R : Rel cfg x N (St.get ⟨e, m⟩) a w) : Rel cfg x.hide N (St.get ⟨roundE e, m⟩) ⟨a.tmps, []⟩ w := by
  have hc : ∀ b o u, x.ow b = none → w.cell? (ad3 b o) = some u → x.hide.ow b = none ∧ w.cell? (ad3 b o) = some u := fun b o u h1 h2 => ⟨hide_none h1, h2⟩
  have mv : ∀ l u v, v.isOwn = false ∨ (∃ c, l = some (.cell c)) → RdV x (St.get ⟨e, m⟩) (conc x a w) w l u v → RdV x.hide (St.get ⟨roundE e, m⟩) (conc x.hide ⟨a.tmps, []⟩ w) w l u v := fun l u v hno hr => by
    have hr' := hr
    have go : ∀ l0, (∀ l1, l0 = some l1 → ∃ c, l1 = .cell c) → RdV x (St.get ⟨e, m⟩) (conc x a w) w l0 u v → RdV x.hide (St.get ⟨roundE e, m⟩) (conc x.hide ⟨a.tmps, []⟩ w) w l0 u v := fun l0 hl0 hr => by
      refine hr.mono hc (fun b o u h1 h2 => ⟨⟨u, h1⟩, h2⟩) (fun l' z es hs => ?_) (fun d k h => ⟨h, rfl⟩) (fun l1 e1 b hb => ?_)
      · cases l' with
        | cell c' => exact ⟨es, hs, rfl, fun b o L C h => ⟨L, C, h⟩⟩
        | slot k =>
          have h2 : lk (roundE e) k = some (.own false z es) := hs
          rw [lk_roundE, Option.map_eq_some_iff] at h2
          obtain ⟨v1, _, h4⟩ := h2
          cases v1 <;> cases h4
      · obtain ⟨c, rfl⟩ := hl0 l1 e1
        exact ⟨by simp [Cx.hide, hb], fun o u h => h⟩
    rcases hno with hno | ⟨c, rfl⟩
    · exact (go none (fun l1 e => by cases e) (hr.reloc hno)).reloc hno
    · exact go _ (fun l1 e => by cases e; exact ⟨c, rfl⟩) hr
  refine ⟨R.size, .nil rfl, fun b hb => R.bound b (fun e => hb (hide_none e)), fun l v h => ?_, fun k v h => ?_, fun c v h => ?_, fun n e hg => (R.globs n e hg).mono hc, fun b h => R.nofz b ?_, fun n ob hg => ⟨hide_none (R.gobj n ob hg).1, (R.gobj n ob hg).2⟩⟩
  · cases l with
    | cell c =>
      obtain ⟨u, hu, hr⟩ := R.locs (.cell c) v h
      exact ⟨u, hu, mv _ _ _ (.inr ⟨c, rfl⟩) hr⟩
    | slot k =>
      have h2 : lk (roundE e) k = some v := h
      rw [lk_roundE, Option.map_eq_some_iff] at h2
      obtain ⟨v1, h3, rfl⟩ := h2
      obtain ⟨u, hu, hr⟩ := R.locs (.slot k) v1 h3
      refine ⟨u, hu, ?_⟩
      cases v1 with
      | own => exact .junk _ _
      | bor => exact .junk _ _
      | bref => exact .junk _ _
      | _ => exact mv _ _ _ (.inl rfl) hr
  · have h2 : lk (roundE e) k = some v := h
    rw [lk_roundE, Option.map_eq_some_iff] at h2
    obtain ⟨v1, h3, _⟩ := h2
    exact R.slotN k v1 h3
  · obtain ⟨h1, h2, h3⟩ := R.box c v h
    exact ⟨by simp [Cx.hide, h1], h2, h3⟩
  · simp only [Cx.hide] at h
    split at h
    · rcases h with h | ⟨_, h⟩ <;> cases h
    · rcases h with h | ⟨_, h⟩ <;> cases h
    · exact h

/-- what the function that is ranged over hands to the round is put into slots -/
theorem Rel.putAll (ps : List Nat) : ∀ (vs : List Value) (ds : List D) (e e1 : List (Nat × V)) (m : List (Cel × V)) (a : Act), putPs ps ds e = some e1 → Rel cfg x N (St.get ⟨e, m⟩) a w → (∀ p ∈ ps, p < N) → vs.length = ds.length →
    (∀ (j : Nat) v d, vs[j]? = some v → ds[j]? = some d → Rd (freeB x) w v d) → Rel cfg x N (St.get ⟨e1, m⟩) { a with tmps := (ps.zip vs).foldl (fun t (p, v) => t.setIfInBounds p v) a.tmps } w := by
  induction ps with
  | nil =>
    intro vs ds e e1 m a h R _ _ _
    cases ds with
    | nil => cases h; exact R
    | cons d ds => cases h
  | cons p ps ih =>
    intro vs ds e e1 m a h R hp hl hv
    cases ds with
    | nil => cases h
    | cons d ds =>
      cases vs with
      | nil => simp at hl
      | cons v vs =>
        have R1 := R.put (k := p) (hp p (by simp)) (v := v) (y := .d d) rfl (l := none) (.d _ _ _ (hv 0 v d rfl rfl))
        have hs : updG (St.get ⟨e, m⟩) [(.slot p, .d d)] = St.get ⟨st e p (.d d), m⟩ := by
          have := get_upd [(Loc.slot p, V.d d)] ⟨e, m⟩
          rw [← this]; rfl
        rw [hs] at R1
        exact ih vs ds _ e1 m _ h R1 (fun q hq => hp q (by simp [hq])) (by simpa using hl) (fun j v d h1 h2 => hv (j + 1) v d (by simpa using h1) (by simpa using h2))

/-- the mark that the statement leaves among the deferred calls -/
theorem Rel.mark {s : Get} (R : Rel cfg x N s a w) {B : Nat} (hb : x.base ≤ B) (hB : x.ow B = none) (hd : w.heap[B]? = some (.deferred (some []))) : Rel cfg (x.give B (some .outer)) N s { a with defers := markD B :: a.defers } w := by
  have hno : ∀ b o u, w.cell? (ad3 b o) = some u → b ≠ B := fun b o u h e => by
    subst e
    simp [World.cell?, hd] at h
  have hc : ∀ b o u, x.ow b = none → w.cell? (ad3 b o) = some u → (x.give B (some .outer)).ow b = none ∧ w.cell? (ad3 b o) = some u := fun b o u h1 h2 => ⟨by rw [Cx.give_ne _ _ (hno b o u h2)]; exact h1, h2⟩
  have hne : ∀ b o, x.ow b = some o → b ≠ B := fun b o h e => by subst e; rw [hB] at h; cases h
  refine ⟨R.size, ?_, fun b hb => ?_, fun l v h => ?_, R.slotN, fun c v h => ?_, fun n e hg => (R.globs n e hg).mono hc, fun b h => ?_, fun n ob hg => ?_⟩
  · obtain ⟨l, h1, h2, h3⟩ := R.defs
    refine ⟨B :: l, by simp [h1], List.nodup_cons.2 ⟨fun hm => hne B _ (h3 B hm).2.1 rfl, h2⟩, fun D hD => ?_⟩
    rcases List.mem_cons.1 hD with rfl | hD
    · exact ⟨hb, by simp, hd⟩
    · obtain ⟨g0, g1, g2⟩ := h3 D hD
      exact ⟨g0, by rw [Cx.give_ne _ _ (hne D _ g1)]; exact g1, g2⟩
  · by_cases e : b = B
    · subst e; exact (Array.getElem?_eq_some_iff.1 hd).1
    · rw [Cx.give_ne _ _ e] at hb; exact R.bound b hb
  · obtain ⟨u, hu, hr⟩ := R.locs l v h
    refine ⟨u, by cases l <;> exact hu, hr.mono hc (fun b o u h1 h2 => ⟨⟨u, h1⟩, h2⟩) (fun l' z es hs => ⟨es, hs, rfl, fun b o L C h => ⟨L, C, by cases l' <;> exact h⟩⟩) (fun d k h => ⟨h, rfl⟩) (fun l0 _ b hb => ⟨by rw [Cx.give_ne _ _ (hne b _ hb)]; exact hb, fun o u h => h⟩)⟩
  · obtain ⟨h1, h2, h3⟩ := R.box c v h
    exact ⟨by rw [Cx.give_ad, Cx.give_ne _ _ (hne _ _ h1)]; exact h1, h2, h3⟩
  · by_cases e : b = B
    · subst e; simp only [Cx.give_same] at h; rcases h with h | ⟨_, h⟩ <;> cases h
    · rw [Cx.give_ne _ _ e] at h; exact R.nofz b h
  · obtain ⟨g1, g2⟩ := R.gobj n ob hg
    refine ⟨?_, g2⟩
    rw [Cx.give_ne _ _ (fun e => ?_)]
    · exact g1
    · subst e
      obtain ⟨t, fr, g2⟩ := g2
      rw [hd] at g2; cases g2

theorem zip_fold (ps : Array Nat) (xs : Array Value) (t : Array Value) : (ps.zip xs).foldl (fun t (p, v) => t.setIfInBounds p v) t = (ps.toList.zip xs.toList).foldl (fun t (p, v) => t.setIfInBounds p v) t := by
  rw [← Array.foldl_toList, Array.toList_zip]

/-- what the loop does next where a round has left it -/
def codeOf : Ex → Code
  | .normal => .skip
  | .ret => .ret
  | .exit id => .exit id

theorem evEach_cons {f : List D → List (Cel × V) → Option (Ex × List (Cel × V))} {it : List D} {r : List (List D)} {m m' : List (Cel × V)} {e : Ex} (h : evEach f (it :: r) m = some (e, m')) :
    ∃ e1 m1, f it m = some (e1, m1) ∧ ((e1 = .normal ∧ evEach f r m1 = some (e, m')) ∨ (e1 ≠ .normal ∧ e1 = e ∧ m1 = m')) := by
  unfold evEach at h
  split at h
  · rename_i m1 h1
    exact ⟨_, _, h1, .inl ⟨rfl, h⟩⟩
  · rename_i hno
    exact ⟨_, _, h, .inr ⟨fun e0 => hno m' (by rw [h, e0]), rfl, rfl⟩⟩

theorem evRound_spec {ca cb : St → Option (Ex × St)} {ps : List Nat} {e0 : List (Nat × V)} {it : List D} {m m' : List (Cel × V)} {e : Ex} (h : evRound ca cb dep ps e0 it m = some (e, m')) :
    ∃ e1 s1 s2, putPs ps it (roundE e0) = some e1 ∧ ca ⟨e1, m⟩ = some (.normal, s1) ∧ cb s1 = some (e, s2) ∧ m' = leaveM (dep + 1) s2.mem := by
  unfold evRound at h
  split at h
  · rename_i e1 h1
    split at h
    · rename_i s1 h2
      split at h
      · rename_i r s2 h3
        cases h
        exact ⟨e1, s1, s2, h1, h2, h3, rfl⟩
      · cases h
    · cases h
  · cases h
theorem putPs_len : ∀ {ps : List Nat} {ds : List D} {e e1 : List (Nat × V)}, putPs ps ds e = some e1 → ds.length = ps.length
  | [], [], _, _, _ => rfl
  | p :: ps, d :: ds, e, e1, h => by
    have h' : putPs ps ds (st e p (.d d)) = some e1 := h
    simp [putPs_len h']
  | [], _ :: _, _, _, h => by cases h
  | _ :: _, [], _, _, h => by cases h

/-- another beginning -/
def Cx.from (x : Cx) (k : Nat) : Cx := { x with base := k }
theorem RdV.from {s : Get} {cv : Loc → Option Value} {l : Option Loc} {u : Value} {v : V} (h : RdV x s cv w l u v) (k : Nat) : RdV (x.from k) s cv w l u v :=
  h.mono (fun b o u h1 h2 => ⟨h1, h2⟩) (fun b o u h1 h2 => ⟨⟨u, h1⟩, h2⟩) (fun l' z es hs => ⟨es, hs, rfl, fun b o L C h => ⟨L, C, h⟩⟩) (fun d k h => ⟨h, rfl⟩) (fun l0 _ b hb => ⟨hb, fun o u h => h⟩)
theorem conc_from (k : Nat) : conc (x.from k) a w = conc x a w := by funext l; cases l <;> rfl
theorem Rel.from {s : Get} (R : Rel cfg x N s a w) (hd : a.defers = []) (k : Nat) : Rel cfg (x.from k) N s a w :=
  ⟨R.size, .nil hd, R.bound, fun l v h => let ⟨u, hu, hr⟩ := R.locs l v h; ⟨u, by rw [conc_from]; exact hu, by rw [conc_from]; exact hr.from k⟩, R.slotN, R.box, R.globs, R.nofz, R.gobj⟩
theorem Fr.from {x' : Cx} {w' : World} {k : Nat} (h : Fr dep (x.from k) x' w w') : Fr dep x (x'.from x.base) w w' := ⟨h.size, h.same, h.ad, h.io, h.room, rfl⟩
theorem ResOk.from {s : Get} {cv : Loc → Option Value} {v : Value} {r : V} (h : ResOk x s cv w v r) (k : Nat) : ResOk (x.from k) s cv w v r := by
  cases r with
  | own nw z es => exact h
  | _ => exact RdV.from h k
theorem Rel.undefer {s : Get} (R : Rel cfg x N s a w) : Rel cfg x N s ⟨a.tmps, []⟩ w := by
  have e : conc x ⟨a.tmps, []⟩ w = conc x a w := by funext l; cases l <;> rfl
  exact ⟨R.size, .nil rfl, R.bound, fun l v h => let ⟨u, hu, hr⟩ := R.locs l v h; ⟨u, by rw [e]; exact hu, by rw [e]; exact hr⟩, R.slotN, R.box, R.globs, R.nofz, R.gobj⟩

/-- the marks are taken away, one after the other -/
theorem Rel.shut {s : Get} {tmps : Array Value} {fn : Func} {T : Ending → World → Prop} : ∀ (l : List Nat) (w : World), Rel cfg x N s ⟨tmps, []⟩ w → l.Nodup → (∀ D ∈ l, x.base ≤ D ∧ x.ow D = some .outer ∧ w.heap[D]? = some (.deferred (some []))) →
    ∃ w', Rel cfg x N s ⟨tmps, []⟩ w' ∧ w.heap.size ≤ w'.heap.size ∧ (∀ b, b < x.base → w'.heap[b]? = w.heap[b]?) ∧ SameIO w w' ∧ Room w w' ∧
      (LeavesIn Fence.wide 0 P fn tmps T [] .returning w' → LeavesInM Fence.wide 0 P fn tmps T (l.map markD) .returning w)
  | [], w, R, _, _ => ⟨w, R, Nat.le_refl _, fun _ _ => rfl, .refl _, .refl _, fun h => h⟩
  | D :: l, w, R, hn, hD => by
    obtain ⟨h1, h2, h3⟩ := hD D (by simp)
    obtain ⟨hno, hn'⟩ := List.nodup_cons.1 hn
    obtain ⟨R1, F1⟩ := R.grownK (K := D) (w' := w.putObj D (.deferred none)) (fun _ => ⟨.inr ⟨h2, rfl⟩, fun c t fr h => by rw [h3] at h; cases h⟩) (by simp) (fun b _ hne => World.putObj_heap_other hne) ⟨rfl, rfl, rfl⟩ 0
    obtain ⟨w', R', g1, g2, g3, g4, g5⟩ := Rel.shut l _ R1 hn' (fun D' hD' => by
      obtain ⟨k1, k2, k3⟩ := hD D' (by simp [hD'])
      refine ⟨k1, k2, ?_⟩
      rw [World.putObj_heap_other (by rintro rfl; exact hno hD')]; exact k3)
    refine ⟨w', R', Nat.le_trans F1.size g1, fun b hb => ?_, F1.io.trans g3, F1.room.trans g4, fun h => ⟨by simp, .inl ⟨D, _, rfl, run_takeDeferred h3, g5 h⟩⟩⟩
    rw [g2 b hb, World.putObj_heap_other (by omega)]
end
end Go.Ev

/-! EvZj -/
/- Code, by its shape. Own work. -/
namespace Go.Ev
open Go

section
variable {P : Program} {cfg : Cfg} {N dep : Nat}

theorem frees_ev {orc : Orc} {n : Nat} {a : Act} {w : World} {x : Cx} {e : Ex} {st' : St} : ∀ (fs : List Nat) (r : ICode) (st : St), Rel cfg x N st.get a w → evCode cfg orc dep n (fs.foldl (fun c k => .seq (.free k) c) r) st = some (e, st') →
    ∃ st1, Rel cfg x N st1.get a w ∧ evCode cfg orc dep n r st1 = some (e, st')
  | [], r, st, R, h => ⟨st, R, h⟩
  | k :: fs, r, st, R, h => by
    obtain ⟨st1, R1, h1⟩ := frees_ev fs (.seq (.free k) r) st R h
    simp only [evCode] at h1
    exact ⟨_, R1.free k, h1⟩

/-- a function's own code, or code in a round -/
def FOk (F : Fence) (c : Code) : Prop := F = Fence.wide ∨ ∃ r, F = rnd r ∧ roundOk c = true

theorem FOk.seq {F : Fence} {a b : Code} (h : FOk F (.seq a b)) : FOk F a ∧ FOk F b := by
  rcases h with h | ⟨r, h, h2⟩
  · exact ⟨.inl h, .inl h⟩
  · simp only [roundOk, Bool.and_eq_true] at h2
    exact ⟨.inr ⟨r, h, h2.1⟩, .inr ⟨r, h, h2.2⟩⟩
theorem FOk.cond {F : Fence} {x : Operand} {a b : Code} (h : FOk F (.cond x a b)) : FOk F a ∧ FOk F b := by
  rcases h with h | ⟨r, h, h2⟩
  · exact ⟨.inl h, .inl h⟩
  · simp only [roundOk, Bool.and_eq_true] at h2
    exact ⟨.inr ⟨r, h, h2.1⟩, .inr ⟨r, h, h2.2⟩⟩
theorem FOk.block {F : Fence} {id : Nat} {b : Code} (h : FOk F (.block id b)) : FOk F b := by
  rcases h with h | ⟨r, h, h2⟩
  · exact .inl h
  · exact .inr ⟨r, h, by simpa only [roundOk] using h2⟩
theorem FOk.loop {F : Fence} {b : Code} (h : FOk F (.loop b)) : FOk F b := by
  rcases h with h | ⟨r, h, h2⟩
  · exact .inl h
  · exact .inr ⟨r, h, by simpa only [roundOk] using h2⟩

theorem itemsOf_spec {v : V} {l : List (List D)} (h : itemsOf cfg v = some l) : ∃ f g ds, v = .clo f [] (ds.map .d) ∧ cfg.iter f = some g ∧ g ds = some l := by
  unfold itemsOf at h
  split at h
  · rename_i f caps
    split at h
    · rename_i g ds h1 h2
      have := allD_spec h2
      subst this
      exact ⟨f, g, ds, rfl, h1, h⟩
    · cases h
  · cases h

theorem code_wpIn {orc : Orc} (hm : P.follows .mixedOrders = true) (hC : CfgOk P cfg) (hO : OrcOk P cfg orc) (hA : OrcAlive orc) {ad : Advice} {n : Nat} : ∀ (c : Code) (ic : ICode), cCode P ad N c = some ic → ∀ {F : Fence}, FOk F c → ∀ {dep : Nat} {st st' : St} {e : Ex} {x : Cx} {a : Act} {w : World} {Q : Exit → Act → World → Prop},
    evCode cfg orc dep n ic st = some (e, st') → Rel cfg x N st.get a w → x.base ≤ w.heap.size → (∀ a' w' x', Rel cfg x' N st'.get a' w' → Fr dep x x' w w' → Q (exitOf e) a' w') → c.wpIn F 0 P Q a w := by
  intro c
  induction c with
  | skip =>
    intro ic hic F hF dep st st' e x a w Q hev R hbs hQ
    cases hic
    simp only [evCode] at hev
    cases hev
    exact wpIn_skip (hQ a w x R (.refl _ _ _))
  | region id ops draw =>
    intro ic hic F hF dep st st' e x a w Q hev R hbs hQ
    simp only [cCode] at hic
    split at hic
    · rename_i l hl
      split at hic
      · cases hic
        simp [evCode] at hev
      · rename_i hbk
        cases hic
        obtain ⟨st1, R1, h1⟩ := frees_ev _ _ st R hev
        have hreg : ∀ (st2 : St) (x2 : Cx), Rel cfg x2 N st2.get a w → Fr dep x x2 w w → evCode cfg orc dep n (.region l (if draw then unordPairs (befores [] (ops.toList.map edgesOf)) else []) (look ad.keep id)) st2 = some (e, st') → (Code.region id ops draw).wpIn F 0 P Q a w := by
          intro st2 x2 R2 F2 h2
          simp only [evCode] at h2
          split at h2
          · rename_i st3 h3
            cases h2
            rcases hF with rfl | ⟨r, rfl, hro⟩
            · exact wpIn_wide.2 (region_wp hm hC hO hl (fun hd => by rw [hd] at hbk; simpa using hbk) R2 h3 (fun a' w' x' R' F' => hQ a' w' x' (R'.settle _) (F2.trans F')))
            · refine region_rnd hm hC hO hl (fun hd => by rw [hd] at hbk; simpa using hbk) (fun j o ho c hc => ?_) R2 h3 (fun a' w' x' R' F' => hQ a' w' x' (R'.settle _) (F2.trans F'))
              have := List.all_eq_true.1 hro o (List.mem_of_getElem? (by rw [Array.getElem?_toList]; exact ho))
              rw [hc] at this
              cases this
          · cases h2
        have hcool : ∀ (st2 : St) (x2 : Cx), Rel cfg x2 N st2.get a w → Fr dep x x2 w w → evCode cfg orc dep n (if (look ad.cool id).isEmpty then .region l (if draw then unordPairs (befores [] (ops.toList.map edgesOf)) else []) (look ad.keep id) else .seq (.give (look ad.cool id)) (.region l (if draw then unordPairs (befores [] (ops.toList.map edgesOf)) else []) (look ad.keep id))) st2 = some (e, st') → (Code.region id ops draw).wpIn F 0 P Q a w := by
          intro st2 x2 R2 F2 h2
          split at h2
          · exact hreg st2 x2 R2 F2 h2
          · simp only [evCode] at h2
            obtain ⟨x3, R3, F3⟩ := Rel.givesB (dep := dep) (look ad.cool id) R2
            exact hreg _ x3 R3 (F2.trans F3) (by simpa only [evCode] using h2)
        split at h1
        · exact hcool st1 x R1 (.refl _ _ _) h1
        · simp only [evCode] at h1
          obtain ⟨x2, R2, F2⟩ := Rel.demotes (dep := dep) (look ad.demote id) R1
          exact hcool _ x2 R2 F2 (by split at h1 <;> (rename_i hq; simp only [hq, if_true, if_false, Bool.false_eq_true]; first | exact h1 | (simp only [evCode] at h1 ⊢; exact h1)))
    · cases hic
  | seq c d ihc ihd =>
    intro ic hic F hF dep st st' e x a w Q hev R hbs hQ
    obtain ⟨hFc, hFd⟩ := hF.seq
    simp only [cCode] at hic
    split at hic
    · rename_i ic1 ic2 h1 h2
      cases hic
      simp only [evCode] at hev
      refine wpIn_seq ?_
      split at hev
      · rename_i st1 hst1
        exact ihc ic1 h1 hFc hst1 R hbs (fun a' w' x' R' F => ihd ic2 h2 hFd hev R' (by rw [F.base]; exact Nat.le_trans hbs F.size) (fun a'' w'' x'' R'' F' => hQ a'' w'' x'' R'' (F.trans F')))
      · rename_i r hno
        refine ihc ic1 h1 hFc hev R hbs (fun a' w' x' R' F => ?_)
        have := hQ a' w' x' R' F
        cases e with
        | normal => exact absurd hev (fun h => hno st' h)
        | ret => exact this
        | exit id => exact this
    · cases hic
  | cond c y z ihy ihz =>
    intro ic hic F hF dep st st' e x a w Q hev R hbs hQ
    obtain ⟨hFy, hFz⟩ := hF.cond
    simp only [cCode] at hic
    split at hic
    · rename_i ix i1 i2 hx h1 h2
      cases hic
      simp only [evCode] at hev
      split at hev
      · rename_i t hv
        have hb := (val_d R hx hv).bool_inv
        refine wpIn_cond hb ?_
        cases t
        · exact ihz i2 h2 hFz (by simpa using hev) R hbs hQ
        · exact ihy i1 h1 hFy (by simpa using hev) R hbs hQ
      · rename_i hv
        obtain ⟨t, hb⟩ := (val_d R hx hv).unkB_inv
        obtain ⟨g1, g2⟩ := bothWays_eq hev
        refine wpIn_cond hb ?_
        cases t
        · exact ihz i2 h2 hFz g2 R hbs hQ
        · exact ihy i1 h1 hFy g1 R hbs hQ
      · cases hev
    · cases hic
  | block id b ih =>
    intro ic hic F hF dep st st' e x a w Q hev R hbs hQ
    simp only [cCode, Option.map_eq_some_iff] at hic
    obtain ⟨ib, hib, rfl⟩ := hic
    simp only [evCode] at hev
    refine wpIn_block ?_
    split at hev
    · rename_i id' st1 hst1
      refine ih ib hib hF.block hst1 R hbs (fun a' w' x' R' F => ?_)
      simp only [exitOf, Exit.inBlock]
      split at hev
      · rename_i hid
        cases hev
        rw [if_pos hid]
        exact hQ a' w' x' R' F
      · rename_i hid
        cases hev
        rw [if_neg hid]
        exact hQ a' w' x' R' F
    · rename_i r hno
      refine ih ib hib hF.block hev R hbs (fun a' w' x' R' F => ?_)
      have := hQ a' w' x' R' F
      cases e with
      | normal => exact this
      | ret => exact this
      | exit id' => exact absurd hev (fun h => hno id' st' h)
  | loop b ih =>
    intro ic hic F hF dep st st' e x a w Q hev R hbs hQ
    simp only [cCode, Option.map_eq_some_iff] at hic
    obtain ⟨ib, hib, rfl⟩ := hic
    simp only [evCode] at hev
    refine loop_n (fun m a1 w1 => ∃ st1 x1, Rel cfg x1 N st1.get a1 w1 ∧ Fr dep x x1 w w1 ∧ evLoop (evCode cfg orc dep n ib) m st1 = some (e, st')) ?_ ?_ (m := n) ⟨st, x, R, .refl _ _ _, hev⟩
    · rintro a1 w1 ⟨st1, x1, _, _, h⟩
      simp [evLoop] at h
    · rintro m a1 w1 ⟨st1, x1, R1, F1, h⟩
      unfold evLoop at h
      split at h
      · rename_i st2 h2
        exact ih ib hib hF.loop h2 R1 (by rw [F1.base]; exact Nat.le_trans hbs F1.size) (fun a' w' x' R' F => ⟨st2, x', R', F1.trans F, h⟩)
      · rename_i r hno
        refine ih ib hib hF.loop h R1 (by rw [F1.base]; exact Nat.le_trans hbs F1.size) (fun a' w' x' R' F => ?_)
        have := hQ a' w' x' R' (F1.trans F)
        cases e with
        | normal => exact absurd h (fun h => hno st' h)
        | ret => exact this
        | exit id => exact this
  | exit id =>
    intro ic hic F hF dep st st' e x a w Q hev R hbs hQ
    cases hic
    simp only [evCode] at hev
    cases hev
    exact wpIn_exit (hQ a w x R (.refl _ _ _))
  | ret =>
    intro ic hic F hF dep st st' e x a w Q hev R hbs hQ
    cases hic
    simp only [evCode] at hev
    cases hev
    exact wpIn_ret (hQ a w x R (.refl _ _ _))
  | rangeFunc g ps ca cb iha ihb =>
    intro ic hic F hF dep st st' e x a w Q hev R hbs hQ
    have hwide : F = Fence.wide := by
      rcases hF with h | ⟨r, _, h⟩
      · exact h
      · cases h
    subst hwide
    simp only [cCode] at hic
    split at hic
    · rename_i hok
      simp only [Bool.and_eq_true] at hok
      obtain ⟨⟨hra, hrb⟩, hps⟩ := hok
      split at hic
      · rename_i ix ia ib hg hia hib
        cases hic
        simp only [evCode] at hev
        split at hev
        · rename_i l hl
          split at hev
          · rename_i e' m' hev1
            cases hev
            obtain ⟨v, hv, hit⟩ := Option.bind_eq_some_iff.1 hl
            obtain ⟨f, gi, ds, rfl, hcf, hgi⟩ := itemsOf_spec hit
            obtain ⟨lo, hr, _⟩ := val_rd R hg hv
            generalize hge : a.eval g = ge at hr
            cases hr with
            | clo _ _ va vb _ _ hl1 hl2 h1 h2 =>
            have hva : va = [] := by simpa using hl1
            subst hva
            obtain ⟨eg, hcon⟩ := hC.iter f gi hcf
            have hlb : vb.toArray.size = ds.length := by simpa using hl2
            obtain ⟨xs, hxl, hxr, htell⟩ := hcon ds l hgi (freeB x) vb.toArray w hlb (fun i v d e1 e2 => by
              have := h2 i v (.d d) (by simpa using e1) (by rw [List.getElem?_map, e2]; rfl)
              exact RdV.d_inv this)
            obtain ⟨E, m⟩ := st
            have nw : ∀ b, w.heap.size ≤ b → x.ow b = none := fun b hb => by
              by_cases e : x.ow b = none
              · exact e
              · have := R.bound b e; omega
            have item : ∀ {i : Nat} {y : Array Value}, xs[i]? = some y → ∃ it, l[i]? = some it ∧ l.drop i = it :: l.drop (i + 1) := fun {i y} hi => by
              have hlt : i < l.length := hxl ▸ (List.getElem?_eq_some_iff.1 hi).1
              exact ⟨l[i], List.getElem?_eq_getElem hlt, List.drop_eq_getElem_cons hlt⟩
            have fin : ∀ (W : World) (xi : Cx), Rel cfg xi N (St.get ⟨dropBor dep E, m'⟩) a W → Fr dep x xi w W → xi.ow w.heap.size = none → W.heap[w.heap.size]? = some (.deferred (some [])) → Q (exitOf e) { a with defers := markD w.heap.size :: a.defers } W := fun W xi Ri Fi hBi hd => by
              refine hQ _ W (xi.give w.heap.size (some .outer)) (Ri.mark (by rw [Fi.base]; exact hbs) hBi hd) ⟨Fi.size, fun b hb ho => ⟨(Fi.same b hb ho).1, ?_⟩, Fi.ad, Fi.io, Fi.room, Fi.base⟩
              rw [Cx.give_ne _ _ (by omega)]
              exact (Fi.same b hb ho).2
            have stays : ∀ (mi : List (Cel × V)) (X Y : World) (row : Option Nat) (xi : Cx), Rel cfg xi N (St.get ⟨dropBor dep E, mi⟩) a X → Fr dep x xi w X → xi.ow (w.heap.size + 1) = none → X.grownBy Y row → (∀ r, row = some r → r = w.heap.size + 1 ∧ ∃ o : Obj, X.heap[r]? = some o ∧ o.isCells = false) →
                Rel cfg xi N (St.get ⟨dropBor dep E, mi⟩) a Y ∧ Fr dep x xi w Y := fun mi X Y row xi Ri Fi h1 hgr hrow => by
              obtain ⟨K, hK1, hK2⟩ : ∃ K, (K < X.heap.size → (xi.ow K = none ∨ xi.ow K = some .outer ∧ a.defers = []) ∧ ∀ c t fr, X.heap[K]? ≠ some (.cells c t fr)) ∧ (∀ b, b < X.heap.size → b ≠ K → some b ≠ row) ∧ w.heap.size ≤ K := by
                cases row with
                | none => exact ⟨X.heap.size, fun h => absurd h (Nat.lt_irrefl _), fun b _ _ => by simp, Fi.size⟩
                | some r =>
                  obtain ⟨rfl, o, ho, hno⟩ := hrow r rfl
                  exact ⟨_, fun _ => ⟨.inl h1, fun c t fr h => by rw [ho] at h; cases h; cases hno⟩, fun b _ hne he => hne (by cases he; rfl), by omega⟩
              obtain ⟨Ri', Fi'⟩ := Ri.grownK hK1 hgr.size (fun b hb hne => hgr.block b hb (hK2.1 b hb hne)) ⟨hgr.os, hgr.tape, hgr.output⟩ dep
              exact ⟨Ri', ((Fi.toK K).trans Fi').toFr hK2.2⟩
            refine wpIn_each (xs := xs) hge eg htell ?_ ?_
              (fun i W => ∃ mi xi, evEach (evRound (evCode cfg orc (dep + 1) n ia) (evCode cfg orc (dep + 1) n ib) dep ps.toList (dropBor dep E)) (l.drop i) mi = some (e, m') ∧ Rel cfg xi N (St.get ⟨dropBor dep E, mi⟩) a W ∧ Fr dep x xi w W ∧ xi.ow w.heap.size = none ∧ xi.ow (w.heap.size + 1) = none)
              (fun c W => ∃ xi, c = codeOf e ∧ e ≠ .normal ∧ Rel cfg xi N (St.get ⟨dropBor dep E, m'⟩) a W ∧ Fr dep x xi w W ∧ xi.ow w.heap.size = none ∧ xi.ow (w.heap.size + 1) = none)
              ?_ ?_ ⟨m, x, hev1, R.dropBor dep, .refl _ _ _, nw _ (Nat.le_refl _), nw _ (Nat.le_succ _)⟩ ?_ ?_ ?_ ?_
            · exact fun h k b hb hlt => (k b hb hlt).trans (h b hb hlt)
            · exact fun W k o' hk b hb hlt => World.putObj_heap_other (by omega)
            · rintro i X Y row ⟨mi, xi, h1, Ri, Fi, h2, h3⟩ hgr hrow
              obtain ⟨g1, g2⟩ := stays mi X Y row xi Ri Fi h3 hgr hrow
              exact ⟨mi, xi, h1, g1, g2, h2, h3⟩
            · rintro c X Y row ⟨xi, h0, h1, Ri, Fi, h2, h3⟩ hgr hrow
              obtain ⟨g1, g2⟩ := stays m' X Y row xi Ri Fi h3 hgr hrow
              exact ⟨xi, h0, h1, g1, g2, h2, h3⟩
            · rintro i y W hy ⟨mi, xi, h1, _⟩
              obtain ⟨it, hit, hdr⟩ := item hy
              rw [hdr] at h1
              obtain ⟨e1, m1, h4, _⟩ := evEach_cons h1
              obtain ⟨e2, s1, s2, h5, _⟩ := evRound_spec h4
              have := (hxr i y it hy hit).1
              rw [this, putPs_len h5, Array.length_toList]
            · rintro r i y W hy ⟨mi, xi, h1, Ri, Fi, hB0, hB1⟩ hlt ⟨o, ho, hno⟩
              obtain ⟨it, hit, hdr⟩ := item hy
              rw [hdr] at h1
              obtain ⟨e1, m1, h4, h5⟩ := evEach_cons h1
              obtain ⟨e2, s1, s2, hp, ha, hb, rfl⟩ := evRound_spec h4
              obtain ⟨hsz, hrd⟩ := hxr i y it hy hit
              have hfree : ∀ b, x.ow b = none → b < w.heap.size → xi.ow b = none ∧ W.heap[b]? = w.heap[b]? := fun b h hlt => by
                obtain ⟨g1, g2⟩ := Fi.same b hlt (.inl h)
                exact ⟨g2.trans h, g1⟩
              have R1 := Rel.putAll (x := xi.hide) ps.toList y.toList it _ e2 mi ⟨a.tmps, []⟩ hp Ri.enterR (fun p hp => by simpa using List.all_eq_true.1 hps p hp) (by simpa using hsz) (fun j v d e1 e2 => by
                refine (hrd j v d (by simpa using e1) e2).mono fun b o u h1 h2 => ?_
                have hbl : b < w.heap.size := by simpa using World.block_lt_of_cell? _ _ h2
                obtain ⟨g1, g2⟩ := hfree b h1 hbl
                exact ⟨hide_none g1, by rw [cell_of_heap g2]; exact h2⟩)
              rw [zip_fold]
              refine iha ia hia (.inr ⟨r, rfl, hra⟩) ha R1 (by show xi.base ≤ _; rw [Fi.base]; exact Nat.le_trans hbs Fi.size) fun a1 W1 x1 R1' F1 => ?_
              have h1B : x1.ow w.heap.size = none := ((F1.same _ (by omega) (.inl (hide_none hB0))).2).trans (hide_none hB0)
              have h1B1 : x1.ow (w.heap.size + 1) = none := ((F1.same _ hlt (.inl (hide_none hB1))).2).trans (hide_none hB1)
              have ho1 : W1.heap[w.heap.size + 1]? = some o := ((F1.same _ hlt (.inl (hide_none hB1))).1).trans ho
              have hlt1 := Nat.lt_of_lt_of_le hlt F1.size
              have hf1 : ∀ b, x.ow b = none → b < w.heap.size → x1.ow b = none ∧ W1.heap[b]? = W.heap[b]? := fun b h hl => by
                obtain ⟨g1, _⟩ := hfree b h hl
                obtain ⟨g3, g4⟩ := F1.same b (by omega) (.inl (hide_none g1))
                exact ⟨g4.trans (hide_none g1), g3⟩
              refine ⟨⟨(F1.same _ (by omega) (.inl (hide_none hB0))).1, ho1.trans ho.symm⟩, fun b hb hl => (hf1 b hb hl).2, fun o' => ?_⟩
              obtain ⟨R2, F2⟩ := R1'.grownK (K := w.heap.size + 1) (w' := W1.putObj (w.heap.size + 1) o') (fun _ => ⟨.inl h1B1, fun c t fr h => by rw [ho1] at h; cases h; cases hno⟩) (by simp) (fun b _ hne => World.putObj_heap_other hne) ⟨rfl, rfl, rfl⟩ (dep + 1)
              refine ihb ib hib (.inr ⟨r, rfl, hrb⟩) hb R2 (by rw [F1.base]; show xi.base ≤ _; rw [Fi.base]; exact Nat.le_trans (Nat.le_trans hbs Fi.size) (Nat.le_trans F1.size F2.size)) fun a3 W3 x3 R3 F3 => ?_
              have hlt2 : w.heap.size + 1 < (W1.putObj (w.heap.size + 1) o').heap.size := by simp; omega
              have hk2 : Keep2 w.heap.size (W1.putObj (w.heap.size + 1) o') W3 := ⟨(F3.same _ (by omega) (.inl h1B)).1, (F3.same _ hlt2 (.inl h1B1)).1⟩
              have hkp : KpOf (freeB x) w (W1.putObj (w.heap.size + 1) o') W3 := fun b hb hl => (F3.same b (by omega) (.inl (hf1 b hb hl).1)).1
              have FT := ((F1.toK (w.heap.size + 1)).trans F2).trans ((F3.trans (.leave (dep + 1) (dep + 1) none)).toK (w.heap.size + 1))
              have hkeep : Keeps (dep + 1) ⟨E, mi⟩ ⟨E, leaveM (dep + 1) s2.mem⟩ := keeps_round (fun _ _ _ h => keeps_code hA ia h) (fun _ _ _ h => keeps_code hA ib h) h4 E E
              obtain ⟨R4, F4⟩ := Ri.backK (K := w.heap.size + 1) (dep := dep) (fun _ => ⟨hB1, fun c t fr h => by rw [ho] at h; cases h; cases hno⟩) (R3.leave (dep + 1) none) FT hkeep (by rw [cutMem_leaveM]; exact leaveM_upTo _ _) none (fun k h => by cases h)
              rw [dropBor_idem, cutMem_leaveM] at R4
              have F5 : Fr dep x _ w W3 := ((Fi.toK (w.heap.size + 1)).trans F4).toFr (by omega)
              have h4B := ((F4.same w.heap.size (by omega) (.inl hB0)).2).trans hB0
              have h4B1 := ((F4.same (w.heap.size + 1) hlt (.inl hB1)).2).trans hB1
              rcases h5 with ⟨rfl, h5⟩ | ⟨hne, rfl, rfl⟩
              · exact ⟨hk2, hkp, _, _, h5, R4, F5, h4B, h4B1⟩
              · cases e1 with
                | normal => exact absurd rfl hne
                | ret => exact ⟨hk2, _, rfl, hne, R4, F5, h4B, h4B1⟩
                | exit id => exact ⟨hk2, _, rfl, hne, R4, F5, h4B, h4B1⟩
            · rintro W ⟨mi, xi, h1, Ri, Fi, hB0, hB1⟩ _ hd
              rw [hxl, List.drop_length] at h1
              cases h1
              exact fin W xi Ri Fi hB0 hd
            · rintro c W ⟨xi, rfl, hne, Ri, Fi, hB0, hB1⟩ _ hd
              have := fin W xi Ri Fi hB0 hd
              cases e with
              | normal => exact absurd rfl hne
              | ret => exact wpIn_ret this
              | exit id => exact wpIn_exit this
          · cases hev
        · cases hev
      · cases hic
    · cases hic
      simp [evCode] at hev
  | _ =>
    intro ic hic F hF dep st st' e x a w Q hev R hbs hQ
    simp only [cCode] at hic
    cases hic
    simp [evCode] at hev

theorem code_wp {orc : Orc} (hm : P.follows .mixedOrders = true) (hC : CfgOk P cfg) (hO : OrcOk P cfg orc) (hA : OrcAlive orc) {ad : Advice} {n : Nat} (c : Code) (ic : ICode) (hic : cCode P ad N c = some ic) {st st' : St} {e : Ex} {x : Cx} {a : Act} {w : World} {Q : Exit → Act → World → Prop}
    (hev : evCode cfg orc dep n ic st = some (e, st')) (R : Rel cfg x N st.get a w) (hbs : x.base ≤ w.heap.size) (hQ : ∀ a' w' x', Rel cfg x' N st'.get a' w' → Fr dep x x' w w' → Q (exitOf e) a' w') : c.wp P Q a w :=
  wpIn_wide.1 (code_wpIn hm hC hO hA c ic hic (.inl rfl) hev R hbs hQ)

theorem endsRet_ev {orc : Orc} {ad : Advice} {n : Nat} : ∀ (c : Code) (ic : ICode), cCode P ad N c = some ic → endsRet c = true → ∀ {st st' : St} {e : Ex}, evCode cfg orc dep n ic st = some (e, st') → e ≠ .normal := by
  intro c
  induction c with
  | ret =>
    intro ic hic _ st st' e hev he
    cases hic
    simp only [evCode] at hev
    cases hev
    cases he
  | seq c d _ ihd =>
    intro ic hic hr st st' e hev he
    simp only [cCode] at hic
    split at hic
    · rename_i ic1 ic2 h1 h2
      cases hic
      simp only [evCode] at hev
      split at hev
      · exact ihd ic2 h2 hr hev he
      · rename_i r hno
        subst he
        exact hno _ hev
    · cases hic
  | _ => intro ic hic hr; simp [endsRet] at hr

theorem rot_wp {orc : Orc} (hm : P.follows .mixedOrders = true) (hC : CfgOk P cfg) (hO : OrcOk P cfg orc) (hAl : OrcAlive orc) {ad : Advice} {n : Nat} (c : Code) (ic : ICode) (hic : cRot P ad N c = some ic) {st st' : St} {e : Ex} {x : Cx} {a : Act} {w : World} {Q : Exit → Act → World → Prop}
    (hev : evCode cfg orc dep n ic st = some (e, st')) (R : Rel cfg x N st.get a w) (hbs : x.base ≤ w.heap.size) (hQ : ∀ a' w' x', Rel cfg x' N st'.get a' w' → Fr dep x x' w w' → Q (exitOf e) a' w') : c.wp P Q a w := by
  have seqGo : ∀ (c d : Code) (i1 i2 : ICode), cCode P ad N c = some i1 → (∀ {st st' : St} {e : Ex} {x : Cx} {a : Act} {w : World} {Q : Exit → Act → World → Prop}, evCode cfg orc dep n i2 st = some (e, st') → Rel cfg x N st.get a w → x.base ≤ w.heap.size → (∀ a' w' x', Rel cfg x' N st'.get a' w' → Fr dep x x' w w' → Q (exitOf e) a' w') → d.wp P Q a w) →
      ∀ {st st' : St} {e : Ex} {x : Cx} {a : Act} {w : World} {Q : Exit → Act → World → Prop}, evCode cfg orc dep n (.seq i1 i2) st = some (e, st') → Rel cfg x N st.get a w → x.base ≤ w.heap.size → (∀ a' w' x', Rel cfg x' N st'.get a' w' → Fr dep x x' w w' → Q (exitOf e) a' w') → (Code.seq c d).wp P Q a w := by
    intro c d i1 i2 h1 hd st st' e x a w Q hev R hbs hQ
    simp only [evCode] at hev
    refine wp_seq ?_
    split at hev
    · rename_i st1 hst1
      exact code_wp hm hC hO hAl c i1 h1 hst1 R hbs (fun a' w' x' R' F => hd hev R' (by rw [F.base]; exact Nat.le_trans hbs F.size) (fun a'' w'' x'' R'' F' => hQ a'' w'' x'' R'' (F.trans F')))
    · rename_i r hno
      refine code_wp hm hC hO hAl c i1 h1 hev R hbs (fun a' w' x' R' F => ?_)
      have := hQ a' w' x' R' F
      cases e with
      | normal => exact absurd hev (fun h => hno st' h)
      | ret => exact this
      | exit id => exact this
  revert hic
  unfold cRot
  split
  · rename_i A X p B
    split
    · rename_i hr
      intro hic
      split at hic
      · rename_i a' x' p' b' hA hX hp hB
        cases hic
        simp only [evCode] at hev
        refine wp_seq (wp_seq ?_)
        split at hev
        · rename_i st1 hst1
          refine code_wp hm hC hO hAl A a' hA hst1 R hbs (fun a1 w1 x1 R1 F1 => ?_)
          have way : ∀ t : Bool, a1.eval X = .bool t → (t = true → evCode cfg orc dep n p' st1 = some (e, st')) → (t = false → evCode cfg orc dep n b' st1 = some (e, st')) → (Code.cond X p .skip).wp P (Exit.then (B.wp P Q) Q) a1 w1 := by
            intro t ht h1 h2
            refine wp_cond ht ?_
            cases t
            · refine wp_skip ?_
              exact rot_wp hm hC hO hAl B b' hB (h2 rfl) R1 (by rw [F1.base]; exact Nat.le_trans hbs F1.size) (fun a2 w2 x2 R2 F2 => hQ a2 w2 x2 R2 (F1.trans F2))
            · have hne := endsRet_ev p p' hp hr (h1 rfl)
              refine code_wp hm hC hO hAl p p' hp (h1 rfl) R1 (by rw [F1.base]; exact Nat.le_trans hbs F1.size) (fun a2 w2 x2 R2 F2 => ?_)
              have := hQ a2 w2 x2 R2 (F1.trans F2)
              cases e with
              | normal => exact absurd rfl hne
              | ret => exact this
              | exit id => exact this
          split at hev
          · rename_i t hv
            refine way t (val_d R1 hX hv).bool_inv (fun ht => ?_) (fun ht => ?_)
            · rw [ht] at hev; simpa using hev
            · rw [ht] at hev; simpa using hev
          · rename_i hv
            obtain ⟨t, hb⟩ := (val_d R1 hX hv).unkB_inv
            obtain ⟨g1, g2⟩ := bothWays_eq hev
            exact way t hb (fun _ => g1) (fun _ => g2)
          · cases hev
        · rename_i r hno
          refine code_wp hm hC hO hAl A a' hA hev R hbs (fun a1 w1 x1 R1 F1 => ?_)
          have := hQ a1 w1 x1 R1 F1
          cases e with
          | normal => exact absurd hev (fun h => hno st' h)
          | ret => exact this
          | exit id => exact this
      · cases hic
    · intro hic
      split at hic
      · rename_i i1 i2 h1 h2
        cases hic
        exact seqGo _ B i1 i2 h1 (fun hev R hbs hQ => rot_wp hm hC hO hAl B i2 h2 hev R hbs hQ) hev R hbs hQ
      · cases hic
  · rename_i A B _
    intro hic
    split at hic
    · rename_i i1 i2 h1 h2
      cases hic
      exact seqGo A B i1 i2 h1 (fun hev R hbs hQ => rot_wp hm hC hO hAl B i2 h2 hev R hbs hQ) hev R hbs hQ
    · cases hic
  · intro hic
    exact code_wp hm hC hO hAl c ic hic hev R hbs hQ
termination_by SizeOf.sizeOf c

end
end Go.Ev
