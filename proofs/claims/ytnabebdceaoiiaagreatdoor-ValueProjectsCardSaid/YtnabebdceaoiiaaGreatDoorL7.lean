/- The evaluator of Go code and its proofs, part 7. Own work. -/
import Derived.Test.YtnabebdceaoiiaaGreatDoorL6
set_option linter.unusedVariables false
set_option linter.unusedSimpArgs false
set_option linter.unusedSectionVars false
/-! EvZ0 -/
/- Calls that are given an array. Own work. -/
namespace Go.Ev
open Go

/-- how a call that is given block gb sees the memory -/
def Cx.pureG (x : Cx) (sh : Bool) (gb : Option Nat) : Cx := { x with ow := fun b => if gb = some b then some .res else (x.pure sh).ow b }

/-- how its caller sees it behind the call -/
def Cx.backG (x x' : Cx) (n : Nat) (gb : Option Nat) (res : Option Own) : Cx := { x with ow := fun b => if b < n ∧ gb ≠ some b then x.ow b else match x'.ow b with
  | none => none
  | some .res => res
  | some _ => some .outer }

theorem dy {x : Cx} {sh : Bool} {gb : Option Nat} {b : Nat} (h : gb ≠ some b) : (x.pureG sh gb).ow b = (x.pure sh).ow b := by simp [Cx.pureG, h]
theorem pureG_eq {x : Cx} {sh : Bool} {b : Nat} : (x.pureG sh (some b)).ow b = some .res := by simp [Cx.pureG]

section
variable {P : Program} {cfg : Cfg} {x : Cx} {N dep : Nat} {s : Get} {a : Act} {w : World}

theorem gh {sh : Bool} {gb : Option Nat} (hgb : ∀ b, gb = some b → x.ow b = some .res) {b : Nat} (h : x.ow b = none) : (x.pureG sh gb).ow b = none := by
  rw [dy (fun e => by rw [hgb b e] at h; cases h)]
  exact fq h

theorem Rel.enterPureG (R : Rel cfg x N s a w) (sh : Bool) {gb : Option Nat} (hgb : ∀ b, gb = some b → x.ow b = some .res) : Rel cfg (x.pureG sh gb) 0 (get0 []) act0 w := by
  refine ⟨rfl, .nil rfl, fun b hb => R.bound b (fun e => hb (gh hgb e)), fun l v h => ?_, fun k v h => ?_, fun c v h => ?_, fun n e hg => ?_, fun b h => ?_, fun n ob hg => ⟨gh hgb (R.gobj n ob hg).1, (R.gobj n ob hg).2⟩⟩
  · cases l <;> cases h
  · cases h
  · cases h
  · exact (R.globs n e hg).mono fun b o u h1 h2 => ⟨gh hgb h1, h2⟩
  · by_cases e : gb = some b
    · exact R.nofz b (.inl (hgb b e))
    · rw [dy e] at h
      rcases bc x sh b with e | e <;> rw [e] at h <;> rcases h with h | ⟨_, h⟩ <;> cases h

/-- the caller's state behind a call that was given a block -/
theorem Rel.backPureG (R : Rel cfg x N s a w) {sh : Bool} {gb : Option Nat} (hgb : ∀ b, gb = some b → x.ow b = some .res) {x' : Cx} {w' : World} {N' : Nat} {s' : Get} {a' : Act} {dep' : Nat} (hF : Fr dep' (x.pureG sh gb) x' w w') (R' : Rel cfg x' N' s' a' w') (res : Option Own) :
    Rel cfg (x.backG x' w.heap.size gb res) N s a w' ∧ Fr dep x (x.backG x' w.heap.size gb res) w w' := by
  have hheap : ∀ b, b < w.heap.size → gb ≠ some b → w'.heap[b]? = w.heap[b]? := fun b hb hg => (hF.same b hb (by rw [dy hg]; exact bc x sh b)).1
  have hcell : ∀ b o u, gb ≠ some b → w.cell? (ad3 b o) = some u → b < w.heap.size ∧ w'.cell? (ad3 b o) = some u := fun b o u hg h => by
    have hlt : b < w.heap.size := by simpa using World.block_lt_of_cell? _ _ h
    exact ⟨hlt, by rw [a7 (hheap b hlt hg)]; exact h⟩
  have how : ∀ b, b < w.heap.size → gb ≠ some b → (x.backG x' w.heap.size gb res).ow b = x.ow b := fun b hb hg => by simp [Cx.backG, hb, hg]
  have hng : ∀ b, x.ow b ≠ some .res → gb ≠ some b := fun b h e => h (hgb b e)
  refine ⟨R.step [] R.size rfl rfl ?_ ?_ (fun l hl => by simp at hl) (fun k hk => by simp at hk) ?_ hF.room (fun l hl => by simp at hl) (fun d k h => ⟨h, rfl⟩) ?_ ?_ ?_ (fun b h hb => have hn := hng b (by rcases h with h | h <;> rw [h] <;> simp); ⟨how b hb hn, hheap b hb hn⟩), ?_, ?_, ?_, hF.io, hF.room, rfl⟩
  · intro b hb
    by_cases hlt : b < w.heap.size
    · exact Nat.lt_of_lt_of_le hlt hF.size
    · refine R'.bound b fun e => hb ?_
      simp [Cx.backG, hlt, e]
  · intro l _ v hv
    refine ⟨hv, fun u hu => ?_⟩
    cases l with
    | slot k => exact hu
    | cell c =>
      obtain ⟨h1, _, _⟩ := R.box c v hv
      exact (hcell _ _ _ (hng _ (by rw [h1]; simp)) hu).2
  · intro b o u h1 h2
    have hg := hng b (by rw [h1]; simp)
    obtain ⟨h3, h4⟩ := hcell b o u hg h2
    exact ⟨by rw [how b h3 hg]; exact h1, h4⟩
  · intro l0 _ b hb
    have hlt := R.bound b (by rw [hb]; simp)
    have hg := hng b (by rw [hb]; simp)
    exact ⟨by rw [how b hlt hg]; exact hb, fun o u h => (hcell b o u hg h).2⟩
  · intro c v hc
    obtain ⟨h1, h2, h3⟩ := R.box c v hc
    have hlt := R.bound _ (by rw [h1]; simp)
    have hg := hng _ (by rw [h1]; simp)
    exact ⟨by rw [show (x.backG x' w.heap.size gb res).ad = x.ad from rfl, how _ hlt hg]; exact h1, h2, by rw [show (x.backG x' w.heap.size gb res).ad = x.ad from rfl, bl (hheap _ hlt hg)]; exact h3⟩
  · intro b hb
    by_cases hlt : b < w.heap.size ∧ gb ≠ some b
    · rw [how b hlt.1 hlt.2] at hb
      exact (R.nofz b hb).heap (hheap b hlt.1 hlt.2)
    · refine R'.nofz b ?_
      simp only [Cx.backG, if_neg hlt] at hb
      split at hb
      · rcases hb with h | ⟨_, h⟩ <;> cases h
      · rename_i e; exact .inl e
      · rcases hb with h | ⟨_, h⟩ <;> cases h
  · exact hF.size
  · intro b hb h
    have hg : gb ≠ some b := hng b (by rcases h with h | h <;> rw [h] <;> simp)
    exact ⟨hheap b hb hg, how b hb hg⟩
  · intro d k _
    rfl

theorem argD_rdF (R : Rel cfg x N s a w) {v : Value} {y : V} {d : D} {sh1 : Bool} (h : argD s y = some (d, sh1)) {l : Option Loc} (hr : RdV x s (conc x a w) w l v y) {F : Nat → Prop} (h0 : ∀ b, freeB x b → F b) (hsh : sh1 = true → ∀ b l, x.ow b = some (.at l) → F b) : Rd F w v d := by
  have hm : ∀ b o u, freeB x b → w.cell? (ad3 b o) = some u → F b ∧ w.cell? (ad3 b o) = some u := fun b o u h1 h2 => ⟨h0 b h1, h2⟩
  unfold argD at h
  split at h
  · cases h
    exact hr.d_inv.canon.mono hm
  · cases h
    exact hr.iptr_rd.mono hm
  · cases h
    have hsh := hsh rfl
    obtain ⟨l0, b, o, cap, _, e, how, hcap, A⟩ := hr.own_inv
    rw [e]
    exact (A.mono hm (fun _ _ h => h) (fun _ _ _ h => h)).rd (hsh b l0 how) rfl hcap
  · rename_i l off n
    split at h
    · rename_i z es hs
      cases h
      have hsh := hsh rfl
      obtain ⟨b, o', cap', e, how, q3, q4, A⟩ := R.bor_at hr hs
      have hlen : ((es.drop off).take n).length = n := by simp; omega
      rw [e]
      exact (A.mono hm (fun _ _ h => h) (fun _ _ _ h => h)).rd (hsh b _ how) hlen q4
    · cases h
  · cases h

theorem xu (R : Rel cfg x N s a w) {F : Nat → Prop} (h0 : ∀ b, freeB x b → F b) : ∀ {vs : List V} {ds : List D} {sh : Bool}, argsD s vs = some (ds, sh) → (sh = true → ∀ b l, x.ow b = some (.at l) → F b) → ds.length = vs.length ∧
    ∀ (i : Nat) y d, vs[i]? = some y → ds[i]? = some d → ∀ l v, RdV x s (conc x a w) w l v y → Rd F w v d
  | [], ds, sh, h, _ => by cases h; simp
  | y :: vs, ds, sh, h, hs => by
    unfold argsD at h
    split at h
    · rename_i d s1 ds' s2 h1 h2
      cases h
      obtain ⟨g1, g2⟩ := xu R h0 h2 (fun e => hs (by simp [e]))
      refine ⟨by simp [g1], fun i y' d' e1 e2 l v hr => ?_⟩
      cases i with
      | zero => simp at e1 e2; subst e1; subst e2; exact argD_rdF R h1 hr h0 (fun e => hs (by simp [e]))
      | succ i => exact g2 i y' d' (by simpa using e1) (by simpa using e2) l v hr
    · cases h

theorem xp : ∀ {Xs : List Operand} {is : List IOpd} {i : Nat} {X : Operand} {ix : IOpd}, cOpds Xs = some is → cOpd X = some ix → cOpds (Xs.set i X) = some (is.set i ix)
  | [], is, i, X, ix, h, _ => by cases h; rfl
  | Y :: Xs, is, i, X, ix, h, hX => by
    unfold cOpds at h
    split at h
    · rename_i iy is' h1 h2
      cases h
      cases i with
      | zero => simp [cOpds, hX, h2]
      | succ i => simp [cOpds, h1, xp (i := i) h2 hX]
    · cases h

theorem aig : ∀ {Xs : List Operand} {is : List IOpd}, cOpds Xs = some is → Xs.length = is.length ∧ ∀ (i : Nat) ix, is[i]? = some ix → ∃ X, Xs[i]? = some X ∧ cOpd X = some ix
  | [], is, h => by cases h; simp
  | Y :: Xs, is, h => by
    unfold cOpds at h
    split at h
    · rename_i iy is' h1 h2
      cases h
      obtain ⟨g1, g2⟩ := aig h2
      refine ⟨by simp [g1], fun i ix hi => ?_⟩
      cases i with
      | zero => simp at hi; subst hi; exact ⟨Y, rfl, h1⟩
      | succ i => exact g2 i ix (by simpa using hi)
    · cases h

/-- what is given -/
theorem aop (R : Rel cfg x N s a w) {X : Operand} {ix : IOpd} (hX : cOpd X = some ix) {v : V} (hv : val cfg s ix = some v) {g : List (Loc × V) × V} (hg : givenV s ix v = some g) :
    ∃ x1 gb, Rel cfg x1 N (updG s g.1) a w ∧ Fr dep x x1 w w ∧ (∀ b, gb = some b → x1.ow b = some .res) ∧
      ((∃ y, g.2 = .d y ∧ Rd (freeB x1) w (a.eval X) y) ∨ ∃ b o cap z es, g.2 = .own false z es ∧ gb = some b ∧ a.eval X = .slice (some (ad3 b o)) es.length cap ∧ es.length ≤ cap ∧ Arr (freeB x1) w b o cap z es) := by
  obtain ⟨l, hr, hl⟩ := ap R hX hv
  have give : ∀ {l0 : Loc} {nw : Bool} {z : Nat} {es0 es : List D} {b o cap : Nat}, s l0 = some (.own nw z es0) → x.ow b = some (.at l0) → Arr (freeB x) w b o cap z es → es.length ≤ cap → a.eval X = .slice (some (ad3 b o)) es.length cap → g = ([(l0, .junk)], .own false z es) →
      ∃ x1 gb, Rel cfg x1 N (updG s g.1) a w ∧ Fr dep x x1 w w ∧ (∀ b, gb = some b → x1.ow b = some .res) ∧
      ((∃ y, g.2 = .d y ∧ Rd (freeB x1) w (a.eval X) y) ∨ ∃ b o cap z es, g.2 = .own false z es ∧ gb = some b ∧ a.eval X = .slice (some (ad3 b o)) es.length cap ∧ es.length ≤ cap ∧ Arr (freeB x1) w b o cap z es) := by
    rintro l0 nw z es0 es b o cap h0 how hA hc he rfl
    refine ⟨x.give b (some .res), some b, R.take h0 how, Fr.give how _, (fun b' e => by cases e; simp), .inr ⟨b, o, cap, z, es, rfl, rfl, he, hc, hA.mono (fun b' o' u h1 h2 => ⟨?_, h2⟩) (fun _ _ h => h) (fun _ _ _ h => h)⟩⟩
    show (x.give b (some .res)).ow b' = none
    rw [Cx.give_ne]; · exact h1
    intro e; rw [freeB, e, how] at h1; cases h1
  unfold givenV at hg
  split at hg
  · cases hg
    exact ⟨x, none, R, .refl _ _ _, (fun b e => by cases e), .inl ⟨_, rfl, hr.d_inv⟩⟩
  · cases hg
    exact ⟨x, none, R, .refl _ _ _, (fun b e => by cases e), .inl ⟨_, rfl, hr.d_inv.canon⟩⟩
  · rename_i k nw z es
    cases hg
    obtain ⟨hl1, rfl⟩ := hl k rfl
    have h0 : s (.slot k) = some (.own nw z es) := hv
    obtain ⟨b, o, cap, h1, how, hcap, hA⟩ := R.own_at h0
    exact give h0 how hA hcap (by simpa [conc, Act.eval] using h1) rfl
  · rename_i l' off n
    split at hg
    · rename_i z es hs
      split at hg
      · rename_i hq
        cases hg
        obtain ⟨rfl, hn⟩ := hq
        obtain ⟨b, o', cap', e, how, q3, q4, A⟩ := R.bor_at hr hs
        rw [List.drop_zero] at A
        have hlen : (es.take n).length = n := by simp; omega
        exact give hs how A (by omega) (by rw [e, hlen]) rfl
      · cases hg
    · cases hg
  · cases hg

theorem akv {orc : Orc} (hO : OrcOk P cfg orc) (R : Rel cfg x N s a w) {o : Oper} {k : Nat} (hd : o.dst = some k) (hk : k < N) {c : Call} (ho : o.op = .call c) {f : FuncId} (hcal : c.callee = .value (.func f)) {args : List IOpd} (his : cOpds c.args.toList = some args)
    {own : Bool} {i : Nat} {u : List (Loc × V)} (hu : callG cfg orc s o.dst own f args i = some u) : Walks P cfg x N dep (updG s u) a w o := by
  have hrun : (execOp a.eval o).run P w = (callFunc f (c.args.map a.eval)).run P w := by
    have e : a.eval (.func f) = .func (.func f) #[] #[] := rfl
    simp [execOp, ho, resolve, hcal, e, Deferred.ofValue, invoke]
  unfold callG at hu
  simp only [Option.bind_eq_some_iff, Option.map_eq_some_iff] at hu
  obtain ⟨ix, hix, v, hv, g, hg, vs, hvs, ⟨ds, sh⟩, hds, ⟨r, m⟩, hor, u', hl, rfl⟩ := hu
  obtain ⟨hlen, hat⟩ := aig his
  obtain ⟨X, hX, hcX⟩ := hat i ix hix
  obtain ⟨x1, gb, R1, F1, hgb, hgv⟩ := aop (dep := dep) R hcX hv hg
  have hset := xp (i := i) (X := .const (.slice none 0 0)) (ix := .c .nilS) his rfl
  obtain ⟨n1, n2⟩ := xx R1 hset hvs
  have hfr : ∀ b, freeB x1 b → freeB (x1.pureG sh gb) b := fun b h => gh hgb h
  obtain ⟨g1, g2⟩ := xu R1 (F := freeB (x1.pureG sh gb)) hfr hds (fun e b l h => by
    show (x1.pureG sh gb).ow b = none
    rw [dy (fun e' => by rw [hgb b e'] at h; cases h)]
    simp [Cx.pure, e])
  have hn : c.args.toList.length = vs.length := by simpa using n1
  have hE : Enters cfg (x1.pureG sh gb) ((ds.map V.d).set i g.2) [] (c.args.map a.eval) w := by
    refine ⟨R1.enterPureG sh hgb, by simp; simp at hn; omega, fun j v' y h1 h2 => ?_⟩
    have h1' : (c.args.toList.map a.eval)[j]? = some v' := by rw [← Array.toList_map, Array.getElem?_toList]; exact h1
    rw [List.getElem?_map] at h1'
    rw [List.getElem?_set] at h2
    by_cases hj : i = j
    · subst hj
      rw [if_pos rfl] at h2
      rw [hX] at h1'
      cases h1'
      have hy : y = g.2 := by
        split at h2
        · cases h2; rfl
        · cases h2
      subst hy
      rcases hgv with ⟨y, e, he⟩ | ⟨b, o', cap, z, es, e, rfl, he, hc, hA⟩
      · rw [e]; exact RdV.d _ _ _ (he.mono fun b o u h1 h2 => ⟨hfr b h1, h2⟩)
      · rw [e, he]
        exact ⟨b, o', cap, rfl, pureG_eq, hc, hA.mono (fun b o u h1 h2 => ⟨hfr b h1, h2⟩) (fun _ _ h => h) (fun _ _ _ h => h)⟩
    · rw [if_neg hj, List.getElem?_map] at h2
      cases hd' : ds[j]? with
      | none => rw [hd'] at h2; cases h2
      | some d =>
        rw [hd'] at h2
        cases h2
        have hlt : j < vs.length := by rw [← g1]; exact (List.getElem?_eq_some_iff.1 hd').1
        cases hXj : c.args.toList[j]? with
        | none => rw [hXj] at h1'; cases h1'
        | some Xj =>
          rw [hXj] at h1'
          cases h1'
          obtain ⟨l, hr⟩ := n2 j Xj _ (by rw [List.getElem?_set_ne hj]; exact hXj) (List.getElem?_eq_getElem hlt)
          exact RdV.d _ _ _ (g2 j _ d (List.getElem?_eq_getElem hlt) hd' l _ hr)
  have hdoes := hO f 0 _ [] r m hor _ w _ hE
  have hback : ∀ (x' : Cx) w' res, Fr 0 (x1.pureG sh gb) x' w w' → ∀ b, x'.ow b = some .res → (x1.backG x' w.heap.size gb res).ow b = res := fun x' w' res F b hb => by
    simp only [Cx.backG]
    split
    · rename_i hlt
      have h3 := (F.same b hlt.1 (by rw [dy hlt.2]; exact bc x1 sh b)).2
      rw [dy hlt.2] at h3
      rcases bc x1 sh b with h | h <;> rw [hb, h] at h3 <;> cases h3
    · rw [hb]
  have hfree : ∀ (x' : Cx) w' res, Fr 0 (x1.pureG sh gb) x' w w' → sh = false → ∀ b o u, freeB x' b → w'.cell? (ad3 b o) = some u → freeB (x1.backG x' w.heap.size gb res) b ∧ w'.cell? (ad3 b o) = some u := by
    intro x' w' res F hsh b o u h1 h2
    refine ⟨?_, h2⟩
    subst hsh
    have h1' : x'.ow b = none := h1
    simp only [freeB, Cx.backG]
    split
    · rename_i hlt
      have h3 := (F.same b hlt.1 (by rw [dy hlt.2]; exact bc x1 false b)).2
      rw [h1', dy hlt.2] at h3
      cases hx : x1.ow b with
      | none => rfl
      | some o => simp [Cx.pure, hx] at h3
    · rw [h1']
  rw [bi]
  dsimp only at hl
  unfold landed at hl
  split at hl
  · rename_i y
    split at hl
    · cases hl
    · rename_i hq
      cases hl
      refine hdoes.walks hrun (fun v w' hex => ?_)
      obtain ⟨x', L⟩ := hex
      rw [hd]
      obtain ⟨R2, F2⟩ := R1.backPureG (dep := dep) hgb L.fr L.rel none
      have hr : Rd (freeB x') w' v y := RdV.d_inv L.res
      have hr2 : Rd (freeB (x1.backG x' w.heap.size gb none)) w' v y := by
        cases hsh : sh with
        | false => exact hr.mono (hfree x' w' none L.fr hsh)
        | true =>
          rw [hsh] at hq
          simp at hq
          exact hr.plain hq
      exact ⟨_, R2.put hk rfl (l := none) (.d _ _ _ (by split; exact hr2; exact hr2.canon)), F1.trans F2⟩
  · rename_i nw z es
    split at hl
    · cases hl
    · rename_i hq
      cases hl
      refine hdoes.walks hrun (fun v w' hex => ?_)
      obtain ⟨x', L⟩ := hex
      rw [hd]
      obtain ⟨b, of, cap, rfl, q2, q3, A⟩ : ∃ b o cap, v = .slice (some (ad3 b o)) es.length cap ∧ x'.ow b = some .res ∧ es.length ≤ cap ∧ Arr (freeB x') w' b o cap z es := L.res
      have hA : ∀ res, Arr (freeB (x1.backG x' w.heap.size gb res)) w' b of cap z es := fun res => by
        cases hsh : sh with
        | false => exact A.mono (hfree x' w' res L.fr hsh) (fun _ _ h => h) (fun _ _ _ h => h)
        | true =>
          rw [hsh] at hq
          simp only [Bool.true_and, Bool.not_eq_true', Bool.not_eq_false] at hq
          refine ⟨A.pos, A.room, A.wid, A.cel, fun i e he j c hc => ?_⟩
          obtain ⟨v, h1, h2⟩ := A.els i e he j c hc
          exact ⟨v, h1, h2.plain (nj (dh hq (List.mem_of_getElem? he)) (List.mem_of_getElem? hc))⟩
      cases own
      · obtain ⟨R2, F2⟩ := R1.backPureG (dep := dep) hgb L.fr L.rel none
        exact ⟨_, R2.put hk rfl (l := none) (.d _ _ _ ((hA none).rd (hback x' w' none L.fr b q2) rfl q3)), F1.trans F2⟩
      · obtain ⟨R2, F2⟩ := R1.backPureG (dep := dep) hgb L.fr L.rel (some .res)
        have how := hback x' w' (some .res) L.fr b q2
        exact ⟨_, R2.place hk how (hA _) rfl q3, (F1.trans F2).trans (Fr.giveRes how _)⟩
  · cases hl

/-- a call by name -/
theorem apd {own0 own : Bool} {f : FuncId} {args : List IOpd} {op : Op} (hop' : cOp P own0 op = some (.call own f args)) : ∃ c, op = .call c ∧ c.callee = .value (.func f) ∧ cOpds c.args.toList = some args := by
  cases op with
  | call c =>
    simp only [cOp] at hop'
    split at hop'
    · rename_i is his
      cases hcal : c.callee with
      | value X =>
        rw [hcal] at hop'
        cases X with
        | func f0 =>
          simp only [Option.some.injEq, IOp.call.injEq] at hop'
          obtain ⟨_, rfl, rfl⟩ := hop'
          exact ⟨c, rfl, hcal, his⟩
        | _ =>
          simp only [Option.map_eq_some_iff] at hop'
          obtain ⟨_, _, h⟩ := hop'
          cases h
      | invoke r m =>
        rw [hcal] at hop'
        simp only [Option.map_eq_some_iff] at hop'
        obtain ⟨_, _, h⟩ := hop'
        cases h
      | builtin b =>
        exfalso
        rw [hcal] at hop'
        have hop2 : b9 P b is c.argTypes.toList = some (.call own f args) := hop'
        unfold b9 at hop2
        repeat' split at hop2
        all_goals (cases hop2; done)
    · cases hop'
  | makeFunc f0 A B =>
    exfalso
    cases f0 with
    | func f1 =>
      simp only [cOp] at hop'
      split at hop' <;> cases hop'
    | _ => simp [cOp] at hop'
  | _ =>
    exfalso
    simp only [cOp] at hop'
    repeat' split at hop'
    all_goals first | (cases hop'; done) | (simp only [Option.map_eq_some_iff] at hop'; obtain ⟨_, _, h⟩ := hop'; cases h)

/-- the compiler makes no call that is given an array, but for the advice -/
theorem cOp_noG {own0 own : Bool} {f : FuncId} {args : List IOpd} {i : Nat} {op : Op} (hop' : cOp P own0 op = some (.callg own f args i)) : False := by
  cases op with
  | call c =>
    simp only [cOp] at hop'
    split at hop'
    · rename_i is his
      cases hcal : c.callee with
      | value X =>
        rw [hcal] at hop'
        cases X with
        | func f0 => cases hop'
        | _ =>
          simp only [Option.map_eq_some_iff] at hop'
          obtain ⟨_, _, h⟩ := hop'
          cases h
      | invoke r m =>
        rw [hcal] at hop'
        simp only [Option.map_eq_some_iff] at hop'
        obtain ⟨_, _, h⟩ := hop'
        cases h
      | builtin b =>
        rw [hcal] at hop'
        have hop2 : b9 P b is c.argTypes.toList = some (.callg own f args i) := hop'
        unfold b9 at hop2
        repeat' split at hop2
        all_goals (cases hop2; done)
    · cases hop'
  | makeFunc f0 A B =>
    cases f0 with
    | func f1 =>
      simp only [cOp] at hop'
      split at hop' <;> cases hop'
    | _ => simp [cOp] at hop'
  | _ =>
    simp only [cOp] at hop'
    repeat' split at hop'
    all_goals first | (cases hop'; done) | (simp only [Option.map_eq_some_iff] at hop'; obtain ⟨_, _, h⟩ := hop'; cases h)

theorem ahv {g : Option Nat} {X io : IOp} (h : gOp g X = io) (hn : ∀ own f args i, io ≠ .callg own f args i) : X = io := by
  unfold gOp at h
  split at h
  · exact absurd h.symm (hn _ _ _ _)
  · exact h
theorem gOp_g {g : Option Nat} {own0 : Bool} {op : Op} {own : Bool} {f : FuncId} {args : List IOpd} {i : Nat} (h : gOp g ((cOp P own0 op).getD .bad) = .callg own f args i) : cOp P own0 op = some (.call own f args) := by
  cases hq : cOp P own0 op with
  | none =>
    rw [hq] at h
    simp [gOp] at h
  | some X =>
    rw [hq] at h
    simp only [Option.getD_some] at h
    unfold gOp at h
    split at h
    · cases h; rfl
    · subst h; exact (cOp_noG hq).elim

end
end Go.Ev

/-! EvZb -/
/- Steps with guards; regions in their order. Own work. -/
namespace Go.Ev
open Go

section
variable {P : Program} {cfg : Cfg} {x : Cx} {N dep : Nat} {s : Get} {a : Act} {w : World}

theorem Arr.less {F : Nat → Prop} {b o cap cap' z : Nat} {es : List D} (A : Arr F w b o cap z es) (h : cap' ≤ cap) : Arr F w b o cap' z es :=
  ⟨A.pos, fun j hj => A.room j (Nat.lt_of_lt_of_le hj (Nat.mul_le_mul_right z h)), A.wid, A.cel, A.els⟩

theorem gl (dst : Option Nat) (p : IOpd) {y : V} (h : y.isOwn = false) : evMv dst p y = some (put1 dst y) := by
  cases y with
  | own nw z es => simp [V.isOwn] at h
  | rcd ys => simp [V.isOwn] at h
  | _ => cases p <;> rfl

/-- a slice handed back with no more room than it is long -/
theorem sim_clip (hC : ap0 P cfg) (R : Rel cfg x N s a w) {o : Oper} {f : FuncId} (hf : cfg.clip f = true) {k : Nat} (hd : o.dst = some k) (hk : k < N) {c : Call} (hcal : c.callee = .value (.func f)) (ho : o.op = .call c) {p : IOpd} (hargs : cOpds c.args.toList = some [p])
    {y : V} (hy : val cfg s p = some y) {u : List (Loc × V)} (hu : evClip (some k) p y = some u) : Walks P cfg x N dep (updG s u) a w o := by
  obtain ⟨X, hXl, hX⟩ := mk1 (X := .tmp 0) hargs
  obtain ⟨l, hr, hl⟩ := ap R hX hy
  have hA : c.args.map a.eval = #[a.eval X] := by
    have : c.args = #[X] := by apply Array.ext'; simpa using hXl
    rw [this]; simp
  have hrun : (execOp a.eval o).run P w = (callFunc f #[a.eval X]).run P w := by
    have e : a.eval (.func f) = .func (.func f) #[] #[] := rfl
    simp [execOp, ho, resolve, hcal, e, hA, Deferred.ofValue, invoke]
  have go : ∀ ad len cap, a.eval X = .slice ad len cap → len ≤ cap → (∃ x', Rel cfg x' N (updG s u) (a.put o.dst (.slice ad len len)) w ∧ Fr dep x x' w w) → Walks P cfg x N dep (updG s u) a w o := by
    intro ad len cap he hle hx
    rw [he] at hrun
    refine (hC f hf ad len cap w hle).walks hrun (fun v w' h => ?_)
    obtain ⟨rfl, rfl⟩ := h
    exact hx
  unfold evClip at hu
  split at hu
  · -- nil
    obtain ⟨ad, e⟩ := hr.d_inv.nilS_inv
    refine go ad 0 0 e (Nat.le_refl _) ⟨x, ?_, .refl _ _ _⟩
    rw [hd]
    rw [gl _ _ rfl] at hu
    cases hu
    exact R.put hk rfl (l := none) (.d _ _ _ (.nilS ad))
  · -- data
    rename_i es
    have hrd := hr.d_inv
    generalize hev : a.eval X = v at hrd
    cases hrd with
    | slA ad cap =>
      refine go ad 0 cap hev (Nat.zero_le _) ⟨x, ?_, .refl _ _ _⟩
      rw [hd]
      rw [gl _ _ rfl] at hu
      cases hu
      exact R.put hk rfl (l := none) (.d _ _ _ (.slA _ _))
    | sl b of len cap z _ vs hlen hcap hz hc hm h =>
    refine go _ _ _ hev hcap ⟨x, ?_, .refl _ _ _⟩
    rw [hd]
    have hput : u = put1 (some k) (.d (.sl es)) := by
      rw [gl _ _ rfl] at hu
      cases hu; rfl
    rw [hput]
    exact R.put hk rfl (l := none) (.d _ _ _ (.sl b of len len z es vs hlen (Nat.le_refl _) hz hc hm h))
  · -- own
    rename_i nw z es
    have hslot : ∃ j, p = .t j := by
      cases p with
      | t j => exact ⟨j, rfl⟩
      | c d => simp [val] at hy
      | g n => simp [val] at hy
    obtain ⟨j, rfl⟩ := hslot
    obtain ⟨hl1, rfl⟩ := hl j rfl
    have he : s (.slot j) = some (.own nw z es) := hy
    obtain ⟨b, o', cap, g1, g2, g3, g4⟩ := R.own_at he
    have hv : a.eval (.tmp j) = .slice (some (ad3 b o')) es.length cap := by simpa [conc, Act.eval] using g1
    have g4' := g4.less g3
    cases nw
    · have hput : u = put1 (some k) (.bor (.slot j) 0 es.length) := by simpa [evMv] using hu.symm
      refine go _ _ _ hv g3 ⟨x, ?_, .refl _ _ _⟩
      rw [hd, hput]
      refine R.put hk rfl (l := none) (.bor _ _ _ _ _ _ _ (Nat.le_refl _) fun z' es' hs => ?_)
      rw [he] at hs
      cases hs
      exact ⟨o', _, cap, g1, by omega, .inr (by omega), g4'.room⟩
    · have hput : u = put1 (some k) (.own true z es) ++ [(.slot j, .junk)] := by simpa [evMv] using hu.symm
      refine go _ _ _ hv g3 ⟨x.give b (some (.at (.slot k))), ?_, Fr.give g2 _⟩
      rw [hd, hput]
      exact R.handAny hk he g2 g4' rfl (Nat.le_refl _)
  · -- borrowed
    rename_i l' off n
    have hput : u = put1 (some k) (.bor l' off n) := by
      rw [gl _ _ rfl] at hu
      cases hu; rfl
    generalize hev : a.eval X = v at hr
    cases hr with
    | bor _ _ _ _ b o' cap' hcap h =>
    refine go _ _ _ hev hcap ⟨x, ?_, .refl _ _ _⟩
    rw [hd, hput]
    refine R.put hk rfl (l := none) (.bor _ _ _ _ _ _ _ (Nat.le_refl _) fun z es hs => ?_)
    obtain ⟨o, L, C, h1, h2, h3, h4⟩ := h z es hs
    refine ⟨o, L, C, h1, h2, ?_, fun j hj => h4 j (Nat.lt_of_lt_of_le hj (Nat.mul_le_mul_right z hcap))⟩
    rcases h3 with h3 | h3
    · exact .inl ⟨h3.1, h3.1⟩
    · exact .inr h3
  · cases hu

/-- the compiled operation -/
structure COper (P : Program) (N : Nat) (ops : Array Oper) (o : Oper) (io : IOper) : Prop where
  dst : io.dst = o.dst
  lt : ∀ k, o.dst = some k → k < N
  op : ∃ own g, gOp g ((cOp P own o.op).getD .bad) = io.op
  guard : match o.guard with
    | none => io.guard = none
    | some (j, b) => ∃ k, (ops[j]?).bind (·.dst) = some k ∧ io.guard = some (k, b)

theorem cy (R : Rel cfg x N s a w) {ops : Array Oper} {o : Oper} {io : IOper} (hc : COper P N ops o io) {t : Bool} (hg : guardOk s io.guard = some t) : Region.wanted o (yielded ops a.tmps) = t := by
  have h := hc.guard
  unfold Region.wanted
  cases hog : o.guard with
  | none =>
    rw [hog] at h
    simp only at h
    rw [h] at hg
    cases hg
    rfl
  | some jb =>
    obtain ⟨j, b⟩ := jb
    rw [hog] at h
    simp only at h ⊢
    obtain ⟨k, h1, h2⟩ := h
    rw [h2] at hg
    unfold guardOk at hg
    simp only at hg
    split at hg
    · rename_i c hs
      cases hg
      obtain ⟨u, hu, hr⟩ := R.locs _ _ hs
      have e := hr.d_inv.bool_inv
      subst e
      have hk := R.slotN _ _ hs
      have hget : a.tmps[k]? = some (.bool c) := by
        have : a.tmps.getD k undef = .bool c := by simpa [conc] using hu
        rw [Array.getD_eq_getD_getElem?] at this
        rw [← R.size] at hk
        rw [Array.getElem?_eq_getElem hk] at this ⊢
        exact congrArg some this
      simp only [yielded, h1, Option.bind_some, hget]
      cases c <;> cases b <;> rfl
    · rename_i hs
      cases hg
      obtain ⟨u, hu, hr⟩ := R.locs _ _ hs
      have hk := R.slotN _ _ hs
      have hr' := hr.d_inv
      cases hr' with
      | tup vs cs hl h =>
      have hget : a.tmps[k]? = some (.tuple vs.toArray) := by
        have : a.tmps.getD k undef = .tuple vs.toArray := by simpa [conc] using hu
        rw [Array.getD_eq_getD_getElem?] at this
        rw [← R.size] at hk
        rw [Array.getElem?_eq_getElem hk] at this ⊢
        exact congrArg some this
      simp only [yielded, h1, Option.bind_some, hget]
      rfl
    · cases hg

theorem abb (F : Nat → Prop) (w : World) : Rd F w undef (.tup []) := by
  have := Rd.tup (F := F) (w := w) [] [] rfl (fun i v c h => by simp at h)
  exact this

theorem fz {s : Get} : ∀ {l : List IOpd} {p : Loc × V}, p ∈ giveL s l → ∃ k nw z es, IOpd.t k ∈ l ∧ s p.1 = some (.own nw z es) ∧ p.2 = .d (.sl es) ∧ (p.1 = .slot k ∨ ∃ o n, s (.slot k) = some (.bor p.1 o n))
  | [], p, h => by cases h
  | .c _ :: r, p, h => by
    obtain ⟨k, nw, z, es, h4, h⟩ := fz (l := r) h
    exact ⟨k, nw, z, es, List.mem_cons_of_mem _ h4, h⟩
  | .g _ :: r, p, h => by
    obtain ⟨k, nw, z, es, h4, h⟩ := fz (l := r) h
    exact ⟨k, nw, z, es, List.mem_cons_of_mem _ h4, h⟩
  | .t k :: r, p, h => by
    have more : p ∈ giveL s r → ∃ k' nw z es, IOpd.t k' ∈ .t k :: r ∧ s p.1 = some (.own nw z es) ∧ p.2 = .d (.sl es) ∧ (p.1 = .slot k' ∨ ∃ o n, s (.slot k') = some (.bor p.1 o n)) := fun h => by
      obtain ⟨k, nw, z, es, h4, h⟩ := fz (l := r) h
      exact ⟨k, nw, z, es, List.mem_cons_of_mem _ h4, h⟩
    unfold giveL at h
    split at h
    · rename_i nw z es hk
      rcases List.mem_cons.1 h with e | h
      · subst e
        exact ⟨k, nw, z, es, List.mem_cons_self, hk, rfl, .inl rfl⟩
      · exact more h
    · rename_i l o n hk
      split at h
      · rename_i z es hl
        rcases List.mem_cons.1 h with e | h
        · subst e
          exact ⟨k, false, z, es, List.mem_cons_self, hl, rfl, .inr ⟨o, n, hk⟩⟩
        · exact more h
      · exact more h
    · exact more h

theorem fy {s : Get} : ∀ {l : List IOpd} {p : Loc × V}, p ∈ giveP s l → ∃ k l' o n z es, IOpd.t k ∈ l ∧ p = (.slot k, .d (.sl ((es.drop o).take n))) ∧ s (.slot k) = some (.bor l' o n) ∧ s l' = some (.own false z es) ∧ (l', V.d (.sl es)) ∈ giveL s l
  | [], p, h => by cases h
  | .c _ :: r, p, h => by
    obtain ⟨k, l', o, n, z, es, h4, h⟩ := fy (l := r) h
    exact ⟨k, l', o, n, z, es, List.mem_cons_of_mem _ h4, h⟩
  | .g _ :: r, p, h => by
    obtain ⟨k, l', o, n, z, es, h4, h⟩ := fy (l := r) h
    exact ⟨k, l', o, n, z, es, List.mem_cons_of_mem _ h4, h⟩
  | .t k :: r, p, h => by
    have sup : ∀ q, q ∈ giveL s r → q ∈ giveL s (.t k :: r) := fun q hq => by
      unfold giveL
      split
      · exact List.mem_cons_of_mem _ hq
      · split
        · exact List.mem_cons_of_mem _ hq
        · exact hq
      · exact hq
    have more : p ∈ giveP s r → ∃ k' l' o n z es, IOpd.t k' ∈ .t k :: r ∧ p = (.slot k', .d (.sl ((es.drop o).take n))) ∧ s (.slot k') = some (.bor l' o n) ∧ s l' = some (.own false z es) ∧ (l', V.d (.sl es)) ∈ giveL s (.t k :: r) := fun h => by
      obtain ⟨k, l', o, n, z, es, h4, h1, h2, h3, h5⟩ := fy (l := r) h
      exact ⟨k, l', o, n, z, es, List.mem_cons_of_mem _ h4, h1, h2, h3, sup _ h5⟩
    unfold giveP at h
    split at h
    · rename_i l o n hk
      split at h
      · rename_i z es hl
        rcases List.mem_cons.1 h with e | h
        · exact ⟨k, l, o, n, z, es, List.mem_cons_self, e, hk, hl, by unfold giveL; rw [hk]; simp only [hl]; exact List.mem_cons_self⟩
        · exact more h
      · exact more h
    · exact more h

theorem Rel.givesL : ∀ (u : List (Loc × V)) {s : Get} {x : Cx}, Rel cfg x N s a w → (∀ p ∈ u, ∃ es, p.2 = .d (.sl es) ∧ (s p.1 = some (.d (.sl es)) ∨ ∃ nw z, s p.1 = some (.own nw z es))) → ∃ x', Rel cfg x' N (updG s u) a w ∧ Fr dep x x' w w ∧
    (∀ b, x.ow b = none → x'.ow b = none) ∧ x'.ad = x.ad ∧ (∀ p ∈ u, (∃ nw z es, s p.1 = some (.own nw z es)) → ∀ b o L C, conc x a w p.1 = some (.slice (some (ad3 b o)) L C) → x'.ow b = none)
  | [], s, x, R, _ => ⟨x, R, .refl _ _ _, fun _ h => h, rfl, fun _ h => by cases h⟩
  | (l, v) :: u, s, x, R, h => by
    obtain ⟨es, hv, hl⟩ := h (l, v) List.mem_cons_self
    simp only at hv hl
    subst hv
    have hrest2 : ∀ p ∈ u, ∃ es', p.2 = .d (.sl es') ∧ (updG s [(l, .d (.sl es))] p.1 = some (.d (.sl es')) ∨ ∃ nw z, updG s [(l, .d (.sl es))] p.1 = some (.own nw z es')) := fun p hp => by
      obtain ⟨es', h1, h2⟩ := h p (List.mem_cons_of_mem _ hp)
      refine ⟨es', h1, ?_⟩
      by_cases e : p.1 = l
      · rw [ao, if_pos e]
        rw [e] at h2
        have : es' = es := by
          rcases hl with hl | ⟨nw, z, hl⟩ <;> rcases h2 with h2 | ⟨nw', z', h2⟩ <;> rw [hl] at h2 <;> cases h2 <;> rfl
        rw [this]
        exact .inl rfl
      · rw [ao, if_neg e]
        exact h2
    rcases hl with hl | ⟨nw, z, hl⟩
    · have R1 : Rel cfg x N (updG s [(l, .d (.sl es))]) a w := R.congr fun l' => by
        rw [ao]
        split
        · rename_i e; rw [e, hl]
        · rfl
      obtain ⟨x2, R2, F2, g1, g2, g3⟩ := Rel.givesL u R1 hrest2
      refine ⟨x2, R2, F2, g1, g2, fun p hp hown => ?_⟩
      have hpl : p.1 ≠ l := fun e => by obtain ⟨_, _, _, h1⟩ := hown; rw [e, hl] at h1; cases h1
      rcases List.mem_cons.1 hp with rfl | hp
      · exact absurd rfl hpl
      · exact g3 p hp (by rw [ao, if_neg hpl]; exact hown)
    · obtain ⟨b, h1, ⟨o0, L0, C0, hb0⟩, R1⟩ := R.release hl
      obtain ⟨x2, R2, F2, g1, g2, g3⟩ := Rel.givesL u R1 hrest2
      have hnone : ∀ b', x.ow b' = none → (x.give b none).ow b' = none := fun b' hb' => by
        by_cases e : b' = b
        · subst e; exact Cx.give_same _ _ _
        · rw [Cx.give_ne _ _ e]; exact hb'
      have hcc : conc (x.give b none) a w = conc x a w := by funext q; cases q <;> rfl
      refine ⟨x2, R2, (Fr.give h1 _).trans F2, fun b' hb' => g1 b' (hnone b' hb'), g2, fun p hp hown b' o L C hcv => ?_⟩
      by_cases hpl : p.1 = l
      · rw [hpl, hb0] at hcv
        cases hcv
        exact g1 _ (Cx.give_same _ _ _)
      · rcases List.mem_cons.1 hp with rfl | hp
        · exact absurd rfl hpl
        · exact g3 p hp (by rw [ao, if_neg hpl]; exact hown) b' o L C (by rw [hcc]; exact hcv)

/-- a slot read otherwise -/
theorem Rel.reread {s : Get} (R : Rel cfg x N s a w) {k : Nat} (hk : k < N) {y : D} (hy : Rd (freeB x) w (a.tmps.getD k undef) y) : Rel cfg x N (updG s [(.slot k, .d y)]) a w := by
  have := R.put hk (v := a.tmps.getD k undef) (y := .d y) rfl (l := none) (.d _ _ _ hy)
  have e : a.put (some k) (a.tmps.getD k undef) = a := by
    simp only [Act.put]
    congr 1
    rw [Array.getD_eq_getD_getElem?]
    apply Array.ext_getElem?
    intro i
    by_cases h : k = i
    · subst h
      by_cases hlt : k < a.tmps.size
      · simp [hlt]
      · simp [hlt]
    · simp [Array.getElem?_setIfInBounds, h]
  rwa [e] at this

theorem Rel.givesP : ∀ (u : List (Loc × V)) {s : Get}, Rel cfg x N s a w → (∀ p ∈ u, ∃ k y, p = (.slot k, .d y) ∧ k < N ∧ Rd (freeB x) w (a.tmps.getD k undef) y) → Rel cfg x N (updG s u) a w
  | [], s, R, _ => R
  | p :: u, s, R, h => by
    obtain ⟨k, y, rfl, hk, hy⟩ := h p List.mem_cons_self
    exact Rel.givesP u (R.reread hk hy) (fun p hp => h p (List.mem_cons_of_mem _ hp))

theorem Rel.givesUp {s : Get} {x : Cx} (R : Rel cfg x N s a w) (l : List IOpd) : ∃ x', Rel cfg x' N (updG s (giveUp s l)) a w ∧ Fr dep x x' w w := by
  obtain ⟨x1, R1, F1, g1, g2, g3⟩ := Rel.givesL (dep := dep) (giveL s l) R fun p hp => by
    obtain ⟨k, nw, z, es, _, h1, h2, _⟩ := fz hp
    exact ⟨es, h2, .inr ⟨nw, z, h1⟩⟩
  refine ⟨x1, ?_, F1⟩
  unfold giveUp
  rw [bi]
  refine Rel.givesP _ R1 fun p hp => ?_
  obtain ⟨k, l', o, n, z, es, _, rfl, h1, h2, h3⟩ := fy hp
  obtain ⟨u, hu, hr⟩ := R.locs _ _ h1
  simp only [conc, Option.some.injEq] at hu
  subst hu
  obtain ⟨b, o', cap', hv, ⟨o2, L2, C2, hcv⟩, hle, hcap, hA⟩ := R.bor_at' hr h2
  have hb1 := g3 (l', V.d (.sl es)) h3 ⟨false, z, es, h2⟩ b o2 L2 C2 hcv
  refine ⟨k, _, rfl, R.slotN _ _ h1, ?_⟩
  rw [hv]
  exact (hA.mono (fun b o u h1 h2 => ⟨g1 b h1, h2⟩) (fun _ _ h => h) (fun _ _ _ h => h)).rd hb1 (by simp; omega) hcap

theorem sim_opD (hI : qi P cfg) (R : Rel cfg x N s a w) {o : Oper} {own : Bool} {io : IOp} (hop : cOp P own o.op = some io) (hk : ∀ k, o.dst = some k → k < N) (hds : o.dst = none → io.isStore = true)
    {u : List (Loc × V)} (hu : evOpD cfg dep s o.dst io = some u) : Goes P cfg x N dep (updG s u) a w o := by
  unfold evOpD at hu
  split at hu
  · rw [Option.map_eq_some_iff] at hu
    obtain ⟨u1, h1, h2⟩ := hu
    subst h2
    obtain ⟨x1, R1, F1⟩ := R.givesUp (dep := dep) (upds io)
    obtain ⟨v, w', x', g1, g2, g3⟩ := sim_op hI R1 hop hk hds h1
    rw [bi]
    exact ⟨v, w', x', g1, g2, F1.trans g3⟩
  · exact sim_op hI R hop hk hds hu

theorem qt {orc : Orc} (hC : CfgOk P cfg) (hO : OrcOk P cfg orc) (R : Rel cfg x N s a w) {ops : Array Oper} {o : Oper} {io : IOper} (hc : COper P N ops o io) (hg : guardOk s io.guard = some true) {u : List (Loc × V)} (hu : stepU cfg orc dep s io = some u) :
    Walks P cfg x N dep (updG s u) a w o := by
  unfold stepU at hu
  rw [hg] at hu
  simp only at hu
  obtain ⟨own0, gv, hop⟩ := hc.op
  have hopS : io.op ≠ .bad → (∀ own f args i, io.op ≠ .callg own f args i) → cOp P own0 o.op = some io.op := fun h hg' => by
    have hop := ahv hop hg'
    cases hq : cOp P own0 o.op with
    | none => rw [hq] at hop; exact absurd hop.symm h
    | some q => rw [hq] at hop; exact congrArg some hop
  split at hu
  · cases hu
  · rename_i hds
    split at hu
    · rename_i hcall
      have hop' := hopS (fun e => by rw [e] at hcall; simp [isCallOp] at hcall) (fun _ _ _ _ e => by rw [e] at hcall; simp [isCallOp] at hcall)
      have hst : io.op.isStore = false := by cases h : io.op <;> rw [h] at hcall <;> first | rfl | simp [isCallOp] at hcall
      have hd : ∃ k, o.dst = some k := by
        rw [hst, hc.dst] at hds
        cases h : o.dst with
        | none => simp [h] at hds
        | some k => exact ⟨k, rfl⟩
      obtain ⟨k, hd⟩ := hd
      have hk := hc.lt k hd
      split at hu
      · rename_i p hclip
        simp only [Option.bind_eq_some_iff] at hu
        obtain ⟨y, hy, hu⟩ := hu
        unfold clipArg at hclip
        split at hclip
        · rename_i own f p' hio
          split at hclip
          · rename_i hf
            cases hclip
            rw [hio] at hop'
            -- a call by name
            obtain ⟨c, ho, hcal, his⟩ := apd hop'
            rw [hc.dst, hd] at hu
            exact sim_clip hC.clip R hf hd hk hcal ho his hy hu
          · cases hclip
        · cases hclip
      · split at hu
        · rename_i own f vs ht
          obtain ⟨args, h1, h2⟩ := jm hC.meth R hop' hcall ht
          rw [hc.dst] at hu
          split at hu
          · rename_i u' hcu
            cases hu
            exact qu hO R hd hk h1 (by simpa using h2.1) (fun i v y e1 e2 => h2.2 i v y (by simpa using e1) e2) hcu
          · unfold callR at hu
            split at hu
            · rename_i own' f' args' hio
              have hu : callT cfg orc s o.dst own' f' args' = some u := by
                split at hu
                · split at hu
                  · exact hu
                  · cases hu
                · cases hu
              unfold callT at hu
              simp only [Option.bind_eq_some_iff, Option.map_eq_some_iff] at hu
              obtain ⟨vs', hvs', u', hu', rfl⟩ := hu
              obtain ⟨x', R', F'⟩ := R.givesUp (dep := dep) args'
              have ht' : target cfg (updG s (giveUp s args')) io.op = some (own', f', vs') := by rw [hio]; simp only [target, hvs', Option.map_some]
              obtain ⟨args2, k1, k2⟩ := jm hC.meth R' hop' hcall ht'
              rw [bi]
              exact (qu hO R' hd hk k1 (by simpa using k2.1) (fun i v y e1 e2 => k2.2 i v y (by simpa using e1) e2) hu').pre F'
            · cases hu
        · cases hu
    · unfold evOpG at hu
      split at hu
      · rename_i own f args i hio
        rw [hio] at hop
        obtain ⟨c, ho, hcal, his⟩ := apd (gOp_g hop)
        rw [hc.dst] at hu hds
        rw [hio] at hds
        have hd : ∃ k, o.dst = some k := by
          cases h : o.dst with
          | none => simp [h, IOp.isStore] at hds
          | some k => exact ⟨k, rfl⟩
        obtain ⟨k, hd⟩ := hd
        exact akv hO R hd (hc.lt k hd) ho hcal his hu
      · rename_i hng
        by_cases hbad : io.op = .bad
        · rw [hbad] at hu; cases hu
        · rw [hc.dst] at hu hds
          refine (sim_opD hC.intTy R (hopS hbad hng) hc.lt (fun h => ?_) hu).walks
          rw [h] at hds
          simpa using hds

theorem akm {orc : Orc} (hC : CfgOk P cfg) (hO : OrcOk P cfg orc) {st st' : St} (R : Rel cfg x N st.get a w) {ops : Array Oper} {o : Oper} {io : IOper} (hc : COper P N ops o io) (hu : stepM cfg orc dep st io = some st') :
    guardOk st.get io.guard = some true ∧ Walks P cfg x N dep st'.get a w o := by
  unfold stepM at hu
  split at hu
  · rename_i hg
    refine ⟨hg, ?_⟩
    split at hu
    · rename_i hq
      simp only [Bool.and_eq_true] at hq
      obtain ⟨⟨hds, hcall⟩, _⟩ := hq
      obtain ⟨own0, gv, hop⟩ := hc.op
      have hop := ahv hop (fun _ _ _ _ e => by rw [e] at hcall; simp [isCallOp] at hcall)
      have hop' : cOp P own0 o.op = some io.op := by
        cases hq : cOp P own0 o.op with
        | none => rw [hq] at hop; rw [← hop] at hcall; simp [isCallOp] at hcall
        | some q => rw [hq] at hop; exact congrArg some hop
      rw [hc.dst] at hds
      obtain ⟨k, hd⟩ := Option.isSome_iff_exists.1 hds
      split at hu
      · rename_i own f vs ht
        obtain ⟨args, h1, h2⟩ := jm hC.meth R hop' hcall ht
        rw [hc.dst] at hu
        exact aku hO R hd (hc.lt k hd) h1 (by simpa using h2.1) (fun i v y e1 e2 => h2.2 i v y (by simpa using e1) e2) hu
      · cases hu
    · cases hu
  · cases hu

/-- one operation of a region: whatever comes behind it -/
theorem aki {orc : Orc} (hC : CfgOk P cfg) (hO : OrcOk P cfg orc) {st st' : St} (R : Rel cfg x N st.get a w) {ops : Array Oper} {o : Oper} {io : IOper} (hc : COper P N ops o io) (hu : evStep cfg orc dep st io = some st')
    {next : Act → World → Prop} {Q : Exit → Act → World → Prop} (hn : ∀ v w' x', Rel cfg x' N st'.get (a.put o.dst v) w' → Fr dep x x' w w' → next (a.put o.dst v) w') :
    (Region.wanted o (yielded ops a.tmps) = true ∧ o.wp P a w next Q) ∨ (Region.wanted o (yielded ops a.tmps) = false ∧ next (a.put o.dst undef) w) := by
  unfold evStep at hu
  split at hu
  · rename_i u hsu
    cases hu
    rw [eb] at hn
    cases hg : guardOk st.get io.guard with
    | none => unfold stepU at hsu; rw [hg] at hsu; cases hsu
    | some t =>
      cases t
      · refine .inr ⟨cy R hc hg, ?_⟩
        unfold stepU at hsu
        rw [hg] at hsu
        cases hsu
        refine hn undef w x ?_ (.refl _ _ _)
        rw [hc.dst]
        cases hd : o.dst with
        | none => exact R
        | some k => exact R.put (hc.lt k hd) rfl (l := none) (.d _ _ _ (abb _ _))
      · exact .inl ⟨cy R hc hg, qt hC hO R hc hg hsu next Q hn⟩
  · obtain ⟨hg, hw⟩ := akm hC hO R hc hu
    exact .inl ⟨cy R hc hg, hw next Q hn⟩

theorem aa7 {orc : Orc} (hC : CfgOk P cfg) (hO : OrcOk P cfg orc) {ops : Array Oper} {Q : Exit → Act → World → Prop} : ∀ (l : List IOper) (i : Nat) (x : Cx) (a : Act) (w : World) (st st' : St), Rel cfg x N st.get a w →
    (∀ j io, l[j]? = some io → ∃ o, ops[i + j]? = some o ∧ COper P N ops o io) → evOps cfg orc dep l st = some st' →
    (∀ a' w' x', Rel cfg x' N st'.get a' w' → Fr dep x x' w w' → Q .normal a' w') → wpOps P ops Q (List.range' i l.length) a w
  | [], i, x, a, w, st, st', R, _, h, hQ => by
    cases h
    exact hQ a w x R (.refl _ _ _)
  | io :: l, i, x, a, w, st, st', R, hl, h, hQ => by
    obtain ⟨o, ho, hc⟩ := hl 0 io rfl
    unfold evOps at h
    split at h
    · rename_i st1 hst
      have hrest : ∀ v w' x', Rel cfg x' N st1.get (a.put o.dst v) w' → Fr dep x x' w w' → wpOps P ops Q (List.range' (i + 1) l.length) (a.put o.dst v) w' := fun v w' x' R' F =>
        aa7 hC hO l (i + 1) x' _ w' st1 st' R' (fun j io' hj => by
          obtain ⟨o', h1, h2⟩ := hl (j + 1) io' (by simpa using hj)
          exact ⟨o', by rw [show i + 1 + j = i + (j + 1) by omega]; exact h1, h2⟩) h (fun a' w'' x'' R'' F' => hQ a' w'' x'' R'' (F.trans F'))
      rw [List.length_cons, List.range'_succ]
      simp only [Nat.add_zero] at ho
      unfold wpOps
      rw [ho]
      simp only
      rcases aki hC hO R hc hst (Q := Q) hrest with ⟨h1, h2⟩ | ⟨h1, h2⟩
      · rw [if_pos h1]; exact .inl h2
      · rw [if_neg (by rw [h1]; simp)]; exact h2
    · cases h

end
end Go.Ev

/-! EvZc -/
/- What an operation looks at. Own work. -/
namespace Go.Ev
open Go

section
variable {cfg : Cfg} {dep n : Nat} {s s' : Get}

theorem ab {x : IOpd} (h : ∀ l ∈ aa s n x, s' l = s l) : val cfg s' x = val cfg s x := by
  cases x with
  | t k => exact h (.slot k) (by simp [aa])
  | c d => rfl
  | g k => rfl

theorem jh {x : IOpd} {l : Loc} {o m : Nat} (h : val cfg s x = some (.bor l o m)) : l ∈ aa s n x := by
  cases x with
  | t k =>
    have h' : s (.slot k) = some (.bor l o m) := h
    simp [aa, h']
  | c d => simp [val] at h
  | g k => simp [val] at h

theorem apo {x : IOpd} {l : Loc} {o m : Nat} (h : val cfg s x = some (.bref l o m)) : l ∈ aa s n x := by
  cases x with
  | t k =>
    have h' : s (.slot k) = some (.bref l o m) := h
    simp [aa, h']
  | c d => simp [val] at h
  | g k => simp [val] at h

theorem akk : ∀ (n d k off : Nat) (j : Nat), j < n → Loc.cell ⟨d, k, off + j⟩ ∈ dx d k off n
  | n + 1, d, k, off, 0, _ => by simp [dx]
  | n + 1, d, k, off, j + 1, h => by
    have := akk n d k (off + 1) j (by omega)
    rw [show off + 1 + j = off + (j + 1) by omega] at this
    simp [dx, this]

theorem ref_in {x : IOpd} {d k off : Nat} (h : val cfg s x = some (.ref d k off)) : ∀ j, j < n → Loc.cell ⟨d, k, off + j⟩ ∈ aa s n x := by
  intro j hj
  cases x with
  | t k' =>
    have h' : s (.slot k') = some (.ref d k off) := h
    simp only [aa, h']
    exact List.mem_cons_of_mem _ (akk n d k off j hj)
  | c d => simp [val] at h
  | g k => simp [val] at h

theorem db {x : IOpd} (h : ∀ l ∈ aa s n x, s' l = s l) : dat cfg s' x = dat cfg s x := by unfold dat; rw [ab h]

theorem ah8 {x : IOpd} {v : V} (hv : val cfg s x = some v) (h : ∀ l ∈ aa s n x, s' l = s l) : cont s' v = cont s v := by
  cases v with
  | bor l o m => simp only [cont]; rw [h l (jh hv)]
  | d y => cases y <;> rfl
  | _ => rfl

theorem argD_loc {x : IOpd} {v : V} (hv : val cfg s x = some v) (h : ∀ l ∈ aa s n x, s' l = s l) : argD s' v = argD s v := by
  cases v with
  | bor l o m => simp only [argD]; rw [h l (jh hv)]
  | iptr e o => cases o <;> rfl
  | _ => rfl

theorem pa {x : IOpd} (h : ∀ l ∈ aa s n x, s' l = s l) : (val cfg s' x).bind (cont s') = (val cfg s x).bind (cont s) := by
  rw [ab h]
  cases hv : val cfg s x with
  | none => rfl
  | some v => simp only [Option.bind_some]; exact ah8 hv h

theorem ah6 : ∀ {xs : List IOpd}, (∀ l ∈ xs.flatMap (aa s n), s' l = s l) → dats cfg s' xs = dats cfg s xs
  | [], _ => rfl
  | x :: xs, h => by
    simp only [dats]
    rw [db (n := n) (x := x) (fun l hl => h l (by simp [hl])), ah6 (fun l hl => h l (by
      rw [List.flatMap_cons]; exact List.mem_append_right _ hl))]

theorem dw : ∀ {xs : List IOpd}, (∀ l ∈ xs.flatMap (aa s n), s' l = s l) → vals cfg s' xs = vals cfg s xs
  | [], _ => rfl
  | x :: xs, h => by
    simp only [vals]
    rw [ab (n := n) (x := x) (fun l hl => h l (by simp [hl])), dw (fun l hl => h l (by
      rw [List.flatMap_cons]; exact List.mem_append_right _ hl))]

theorem nn : ∀ {ps : List (Nat × IOpd)}, (∀ l ∈ (ps.map fun p => p.2).flatMap (aa s n), s' l = s l) → dn cfg s' ps = dn cfg s ps
  | [], _ => rfl
  | (i, x) :: xs, h => by
    simp only [dn]
    rw [db (n := n) (x := x) (fun l hl => h l (by simp [hl])), nn (fun l hl => h l (by
      rw [List.map_cons, List.flatMap_cons]; exact List.mem_append_right _ hl))]

theorem ni : ∀ {ps : List (Nat × IOpd)} {i : Nat}, (∀ l ∈ (ps.map fun p => p.2).flatMap (aa s n), s' l = s l) → cd cfg s' i ps = cd cfg s i ps
  | [], _, _ => rfl
  | (j, x) :: xs, i, h => by
    simp only [cd]
    rw [ab (n := n) (x := x) (fun l hl => h l (by simp [hl])), ni (ps := xs) (fun l hl => h l (by
      rw [List.map_cons, List.flatMap_cons]; exact List.mem_append_right _ hl))]

theorem lq {k : Nat} : ∀ {ps : List (Nat × Nat × IOpd)} {i : Nat} {s s' : Get}, (∀ j, IOpd.t j ∈ ps.map (fun p => p.2.2) → s' (.slot j) = s (.slot j)) → recOf cfg k s' i ps = recOf cfg k s i ps
  | [], _, _, _, _ => rfl
  | (o, n, x) :: xs, i, s, s', h => by
    have hx : val cfg s' x = val cfg s x := by
      cases x with
      | t j => exact h j (by simp)
      | c d => rfl
      | g n => rfl
    have h1 : recOf cfg k s' (i + 1) xs = recOf cfg k s (i + 1) xs := lq fun j hj => h j (by simp only [List.map_cons]; exact List.mem_cons_of_mem _ hj)
    have h2 : ∀ j', recOf cfg k (updG s' [(.slot j', .junk)]) (i + 1) xs = recOf cfg k (updG s [(.slot j', .junk)]) (i + 1) xs := fun j' => lq fun j hj => by
      simp only [ao]
      split
      · rfl
      · exact h j (by simp only [List.map_cons]; exact List.mem_cons_of_mem _ hj)
    unfold recOf
    simp only [hx, h1, h2]

theorem nk : ∀ {ps : List (Nat × Nat × IOpd)}, (∀ l ∈ (ps.map fun p => p.2.2).flatMap (aa s n), s' l = s l) → ce cfg s' ps = ce cfg s ps
  | [], _ => rfl
  | (i, j, x) :: xs, h => by
    simp only [ce]
    rw [db (n := n) (x := x) (fun l hl => h l (by simp [hl])), nk (fun l hl => h l (by
      rw [List.map_cons, List.flatMap_cons]; exact List.mem_append_right _ hl))]

theorem oh : ∀ (m d k off : Nat), (∀ j, j < m → s' (.cell ⟨d, k, off + j⟩) = s (.cell ⟨d, k, off + j⟩)) → b4 s' d k off m = b4 s d k off m
  | 0, _, _, _, _ => rfl
  | m + 1, d, k, off, h => by
    have h0 := h 0 (by omega)
    simp only [Nat.add_zero] at h0
    have ih := oh m d k (off + 1) (fun j hj => by
      have := h (j + 1) (by omega)
      rwa [show off + (j + 1) = off + 1 + j by omega] at this)
    simp only [b4, h0, ih]

theorem xv : ∀ (m d k off : Nat), (∀ j, j < m → s' (.cell ⟨d, k, off + j⟩) = s (.cell ⟨d, k, off + j⟩)) → alive s' d k off m = alive s d k off m
  | 0, _, _, _, _ => rfl
  | m + 1, d, k, off, h => by
    have h0 := h 0 (by omega)
    simp only [Nat.add_zero] at h0
    have ih := xv m d k (off + 1) (fun j hj => by
      have := h (j + 1) (by omega)
      rwa [show off + (j + 1) = off + 1 + j by omega] at this)
    simp only [alive, h0, ih]

theorem ao6 {x : IOpd} {v : V} (dst : Option Nat) (hv : val cfg s x = some v) (h : ∀ l ∈ aa s n x, s' l = s l) : evAsg s' dst x v = evAsg s dst x v := by
  cases v with
  | bor l o m => cases x <;> simp only [evAsg] <;> rw [h l (jh hv)]
  | d y => cases y <;> cases x <;> rfl
  | own nw z0 es0 => cases nw <;> cases x <;> rfl
  | _ => cases x <;> rfl

theorem ajx {x : IOpd} {v : V} (dst z : Option Nat) (hn : n = z.getD 1) (hv : val cfg s x = some v) (h : ∀ l ∈ aa s n x, s' l = s l) : c6 s' dst z v = c6 s dst z v := by
  cases v with
  | bref l i o => simp only [c6]; rw [h l (apo hv)]
  | ref d k off =>
    have hr := fun j hj => h _ (ref_in (n := n) hv j hj)
    cases z with
    | none =>
      have := hr 0 (by rw [hn]; decide)
      simp only [Nat.add_zero] at this
      simp only [c6, this]
    | some m =>
      simp only [Option.getD_some] at hn
      subst hn
      simp only [c6, oh n d k off hr]
  | d y => cases y <;> rfl
  | _ => rfl

theorem aar {p x : IOpd} {va v : V} (hp : val cfg s p = some va) (hv : val cfg s x = some v) (h : ∀ l ∈ aa s n p, s' l = s l) (h' : ∀ l ∈ aa s n x, s' l = s l) : bd s' n va x v = bd s n va x v := by
  cases va with
  | bref l i o => simp only [bd]; rw [h l (apo hp)]
  | ref d k off =>
    have hr := fun j hj => h _ (ref_in (n := n) hp j hj)
    simp only [bd, xv n d k off hr]
    cases v with
    | bor l o m => cases x <;> simp only [] <;> rw [h' l (jh hv)]
    | d y => cases y <;> cases x <;> rfl
    | own nw z0 es0 => cases nw <;> cases x <;> rfl
    | _ => cases x <;> rfl
  | d y => cases y <;> rfl
  | _ => rfl

theorem lg {lo hi : Option IOpd} (len : Nat) (h : ∀ l ∈ (lo.toList ++ hi.toList).flatMap (aa s n), s' l = s l) : a8 cfg s' len lo hi = a8 cfg s len lo hi := by
  have hlo : ∀ x, lo = some x → dat cfg s' x = dat cfg s x := fun x e => db (n := n) (fun l hl => h l (by subst e; simp [hl]))
  have hhi : ∀ x, hi = some x → dat cfg s' x = dat cfg s x := fun x e => db (n := n) (fun l hl => h l (by subst e; simp [hl]))
  cases lo <;> cases hi <;> simp only [a8]
  · rw [hhi _ rfl]
  · rw [hlo _ rfl]
  · rw [hlo _ rfl, hhi _ rfl]

theorem ake {mx : Option IOpd} (len : Nat) (h : ∀ l ∈ mx.toList.flatMap (aa s n), s' l = s l) : topOf cfg s' len mx = topOf cfg s len mx := by
  cases mx with
  | none => rfl
  | some x => simp only [topOf]; rw [db (n := n) (fun l hl => h l (by simp [hl]))]

theorem aas {x : IOpd} {v : V} {lo hi mx : Option IOpd} (dst : Option Nat) (z : Nat) (hv : val cfg s x = some v) (h : ∀ l ∈ aa s n x, s' l = s l) (h' : ∀ l ∈ (lo.toList ++ hi.toList).flatMap (aa s n), s' l = s l)
    (h'' : ∀ l ∈ mx.toList.flatMap (aa s n), s' l = s l) : dp cfg s' dst z x v lo hi mx = dp cfg s dst z x v lo hi mx := by
  unfold dp
  rw [ah8 hv h]
  cases cont s v with
  | none => rfl
  | some es =>
    simp only [ake es.length h'']
    cases topOf cfg s es.length mx with
    | none => rfl
    | some top =>
      simp only [lg top h']
      cases a8 cfg s top lo hi with
      | none => rfl
      | some lh =>
        simp only
        cases v with
        | bor l o m => cases x <;> simp only [] <;> rw [h l (jh hv)]
        | d y => cases y <;> cases x <;> rfl
        | own nw z0 es0 => cases nw <;> cases x <;> rfl
        | _ => cases x <;> rfl

theorem ao2 {x : IOpd} {v : V} (dst : Option Nat) (z : Nat) (j : Int) (hv : val cfg s x = some v) (h : ∀ l ∈ aa s n x, s' l = s l) : evIdx s' dst z x v j = evIdx s dst z x v j := by
  unfold evIdx
  cases v with
  | bor l o m => cases x <;> simp only [] <;> rw [h l (jh hv)]
  | d y => cases y <;> cases x <;> rfl
  | own nw z0 es0 => cases nw <;> cases x <;> rfl
  | _ => cases x <;> rfl

theorem j7 {x : IOpd} {v : V} (dst : Option Nat) (z b : Nat) (ys : List D) (hv : val cfg s x = some v) (h : ∀ l ∈ aa s n x, s' l = s l) : b7 s' dst z b x v ys = b7 s dst z b x v ys := by
  unfold b7
  cases v with
  | bor l o m => cases x <;> simp only [] <;> rw [h l (jh hv)]
  | d y => cases y <;> cases x <;> rfl
  | own nw z0 es0 => cases nw <;> cases x <;> rfl
  | _ => cases x <;> rfl

theorem ajy {x : IOpd} {v : V} (dst : Option Nat) (z : Nat) (ys : List D) (hv : val cfg s x = some v) (h : ∀ l ∈ aa s n x, s' l = s l) : jf s' dst z x v ys = jf s dst z x v ys := by
  unfold jf
  cases v with
  | bor l o m => cases x <;> simp only [] <;> rw [h l (jh hv)]
  | own nw z' es =>
    cases x with
    | t k =>
      cases nw
      · simp only
        rw [h (.slot k) (by simp [aa])]
      · rfl
    | _ => rfl
  | d y => cases y <;> cases x <;> rfl
  | _ => cases x <;> rfl

end
end Go.Ev

/-! EvZd -/
/- What an operation looks at: all kinds; a whole step. Own work. -/
namespace Go.Ev
open Go

section
variable {cfg : Cfg} {dep : Nat} {s s' : Get}

theorem ah4 {dst : Option Nat} {io : IOp} (h : ∀ l ∈ io.operands.flatMap (aa s io.span), s' l = s l)
    (hb : ∀ k, dst = some k → (∀ zs, io = .alloc zs → s' (.cell ⟨dep, k, 0⟩) = s (.cell ⟨dep, k, 0⟩)) ∧ (∀ n x, io = .box n x → s' (.cell ⟨dep, k, 0⟩) = s (.cell ⟨dep, k, 0⟩))) :
    evOp cfg dep s' dst io = evOp cfg dep s dst io := by
  have h1 : ∀ x, io.operands = [x] → ∀ l ∈ aa s io.span x, s' l = s l := fun x e l hl => h l (by rw [e]; simpa using hl)
  have h2 : ∀ x y, io.operands = [x, y] → (∀ l ∈ aa s io.span x, s' l = s l) ∧ ∀ l ∈ aa s io.span y, s' l = s l := fun x y e => ⟨fun l hl => h l (by rw [e]; simp [hl]), fun l hl => h l (by rw [e]; simp [hl])⟩
  cases io with
  | mv x => simp only [evOp]; rw [ab (h1 x rfl)]
  | asg x =>
    simp only [evOp]
    rw [ab (h1 x rfl)]
    cases hv : val cfg s x with
    | none => rfl
    | some v => simp only [Option.bind_some]; exact ao6 dst hv (h1 x rfl)
  | pick c a b =>
    have hc : ∀ l ∈ aa s 0 c, s' l = s l := fun l hl => h l (by simp [IOp.operands]; exact .inl hl)
    have ha : ∀ l ∈ aa s 0 a, s' l = s l := fun l hl => h l (by simp [IOp.operands]; exact .inr (.inl hl))
    have hb' : ∀ l ∈ aa s 0 b, s' l = s l := fun l hl => h l (by simp [IOp.operands]; exact .inr (.inr hl))
    simp only [evOp]
    rw [ab hc]
    cases hv : val cfg s c with
    | none => rfl
    | some v =>
      cases v with
      | d y =>
        cases y with
        | bool t =>
          have e : val cfg s' (if t = true then a else b) = val cfg s (if t = true then a else b) := by
            cases t
            · exact ab hb'
            · exact ab ha
          simp only [e]
        | _ => rfl
      | _ => rfl
  | alloc zs =>
    cases dst with
    | none => rfl
    | some k => simp only [evOp]; rw [(hb k rfl).1 zs rfl]
  | box n x =>
    cases dst with
    | none => rfl
    | some k =>
      simp only [evOp]
      rw [ab (h1 x rfl)]
      cases hv : val cfg s x with
      | none => rfl
      | some v => simp only [evBox]; rw [(hb k rfl).2 n x rfl]
  | build zs ps => simp only [evOp]; rw [nk h]
  | buildR n ps =>
    cases dst with
    | none => rfl
    | some k =>
      simp only [evOp]
      rw [lq fun j hj => h _ (List.mem_flatMap.2 ⟨.t j, hj, by simp [aa]⟩)]
  | lit own z n zd ps => simp only [evOp, evVec]; rw [nn h, ni h]
  | load z a =>
    simp only [evOp]
    rw [ab (h1 a rfl)]
    cases hv : val cfg s a with
    | none => rfl
    | some v => simp only [Option.bind_some]; exact ajx dst z rfl hv (h1 a rfl)
  | store n a x =>
    obtain ⟨ha, hx⟩ := h2 a x rfl
    simp only [evOp]
    rw [ab ha, ab hx]
    cases hva : val cfg s a with
    | none => rfl
    | some va =>
      cases hvx : val cfg s x with
      | none => rfl
      | some vx => simp only; rw [show bd s' n va x vx = bd s n va x vx from aar hva hvx ha hx]
  | nilck x => simp only [evOp]; rw [ab (h1 x rfl)]
  | bin op x y => obtain ⟨ha, hx⟩ := h2 x y rfl; simp only [evOp]; rw [ab ha, ab hx]
  | eqn neg c x y => obtain ⟨ha, hx⟩ := h2 x y rfl; simp only [evOp]; rw [ab ha, ab hx]
  | isNil neg x => simp only [evOp]; rw [ab (h1 x rfl)]
  | un op x => simp only [evOp]; rw [ab (h1 x rfl)]
  | cvInt k x => simp only [evOp]; rw [ab (h1 x rfl)]
  | cvStr x => simp only [evOp]; rw [ab (h1 x rfl)]
  | b2s x => simp only [evOp]; rw [pa (h1 x rfl)]
  | s2b own x => simp only [evOp]; rw [ab (h1 x rfl)]
  | cvB own x => simp only [evOp]; rw [ab (h1 x rfl)]
  | mkI t x => simp only [evOp]; rw [ab (h1 x rfl)]
  | mkF f a b =>
    have ha : ∀ l ∈ a.flatMap (aa s 0), s' l = s l := fun l hl => h l (by simp only [IOp.operands, List.flatMap_append]; exact List.mem_append_left _ hl)
    have hb' : ∀ l ∈ b.flatMap (aa s 0), s' l = s l := fun l hl => h l (by simp only [IOp.operands, List.flatMap_append]; exact List.mem_append_right _ hl)
    simp only [evOp]
    rw [dw ha, dw hb']
  | mkS z b zd l c => obtain ⟨ha, hx⟩ := h2 l c rfl; simp only [evOp]; rw [db ha, db hx]
  | slice z x lo hi mx =>
    have hx : ∀ l ∈ aa s 0 x, s' l = s l := fun l hl => h l (by simp [IOp.operands]; exact .inl hl)
    have hlh : ∀ l ∈ (lo.toList ++ hi.toList).flatMap (aa s 0), s' l = s l := fun l hl => h l (by
      simp only [IOp.operands, List.flatMap_append] at hl ⊢
      simp only [List.mem_append] at hl ⊢
      rcases hl with hl | hl
      · exact .inl (.inl (.inr hl))
      · exact .inl (.inr hl))
    have hm : ∀ l ∈ mx.toList.flatMap (aa s 0), s' l = s l := fun l hl => h l (by
      simp only [IOp.operands, List.flatMap_append]
      exact List.mem_append_right _ hl)
    simp only [evOp]
    rw [ab hx]
    cases hv : val cfg s x with
    | none => rfl
    | some v => simp only [Option.bind_some]; exact aas dst z hv hx hlh hm
  | sliceS x lo hi =>
    have hx : ∀ l ∈ aa s 0 x, s' l = s l := fun l hl => h l (by simp [IOp.operands]; exact .inl hl)
    have hlh : ∀ l ∈ (lo.toList ++ hi.toList).flatMap (aa s 0), s' l = s l := fun l hl => h l (by
      simp only [IOp.operands, List.flatMap_append] at hl ⊢
      simp only [List.mem_append] at hl ⊢
      rcases hl with hl | hl
      · exact .inl (.inr hl)
      · exact .inr hl)
    simp only [evOp]
    rw [ab hx]
    cases hv : val cfg s x with
    | none => rfl
    | some v =>
      cases v with
      | d y =>
        cases y with
        | str b => simp only; rw [lg b.length hlh]
        | _ => rfl
      | _ => rfl
  | fieldA off x => simp only [evOp]; rw [ab (h1 x rfl)]
  | field off z x => simp only [evOp]; rw [ab (h1 x rfl)]
  | idxA z x i =>
    obtain ⟨ha, hx⟩ := h2 x i rfl
    simp only [evOp]
    rw [ab ha, db hx]
    cases hv : val cfg s x with
    | none => rfl
    | some v =>
      cases (dat cfg s i).bind D.toInt? with
      | none => rfl
      | some j => simp only; exact ao2 dst z j hv ha
  | idxS x i => obtain ⟨ha, hx⟩ := h2 x i rfl; simp only [evOp]; rw [ab ha, db hx]
  | idxC n z g x i => obtain ⟨ha, hx⟩ := h2 x i rfl; simp only [evOp]; rw [ab ha, db hx]
  | idxB n z x i => obtain ⟨ha, hx⟩ := h2 x i rfl; simp only [evOp]; rw [ab ha, db hx]
  | ext x i => simp only [evOp]; rw [ab (h1 x rfl)]
  | len isS x => cases isS <;> simp only [evOp] <;> rw [ab (h1 x rfl)]
  | minmax mx xs => simp only [evOp]; rw [show dats cfg s' xs = dats cfg s xs from ah6 (n := 0) h]
  | append z b x y =>
    obtain ⟨ha, hx⟩ := h2 x y rfl
    simp only [evOp]
    rw [ab ha, pa hx]
    cases hv : val cfg s x with
    | none => rfl
    | some v =>
      cases (val cfg s y).bind (cont s) with
      | none => rfl
      | some ys => simp only; exact j7 dst z b ys hv ha
  | appendS x y =>
    obtain ⟨ha, hx⟩ := h2 x y rfl
    simp only [evOp]
    rw [ab ha, ab hx]
    cases hv : val cfg s x with
    | none => rfl
    | some v =>
      cases val cfg s y with
      | none => rfl
      | some w =>
        cases w with
        | d d => 
          cases d with
          | str b => simp only; exact j7 dst 1 1 _ hv ha
          | _ => rfl
        | _ => rfl
  | copy z x y =>
    obtain ⟨ha, hx⟩ := h2 x y rfl
    simp only [evOp]
    rw [ab ha, pa hx]
    cases hv : val cfg s x with
    | none => rfl
    | some v =>
      cases (val cfg s y).bind (cont s) with
      | none => rfl
      | some ys => simp only; exact ajy dst z ys hv ha
  | tass t zero ok x => simp only [evOp]; rw [ab (h1 x rfl)]
  | call own f args => rfl
  | callg own f args i => rfl
  | callv own x args => rfl
  | inv own x nm args => rfl
  | bad => rfl

theorem d8 : ∀ {vs : List V}, (∀ v ∈ vs, argD s' v = argD s v) → argsD s' vs = argsD s vs
  | [], _ => rfl
  | v :: vs, h => by
    simp only [argsD]
    rw [h v (by simp), d8 (fun u hu => h u (by simp [hu]))]

theorem j2 {v : V} (h : v.plainV = true) : argD s' v = argD s v := by
  cases v with
  | iptr e o => cases o <;> rfl
  | bor l o n => simp [V.plainV] at h
  | _ => rfl

theorem dv {n : Nat} : ∀ {xs : List IOpd} {vs : List V}, vals cfg s xs = some vs → (∀ l ∈ xs.flatMap (aa s n), s' l = s l) → ∀ v ∈ vs, argD s' v = argD s v
  | [], vs, hv, _, v, hm => by cases hv; simp at hm
  | x :: xs, vs, hv, h, v, hm => by
    unfold vals at hv
    split at hv
    · rename_i v' vs' h1 h2
      cases hv
      rcases List.mem_cons.1 hm with rfl | hm
      · exact argD_loc (n := n) h1 (fun l hl => h l (by simp [hl]))
      · exact dv (n := n) h2 (fun l hl => h l (by
          rw [List.flatMap_cons]; exact List.mem_append_right _ hl)) v hm
    · cases hv

theorem aiq {io : IOp} (h : ∀ l ∈ io.operands.flatMap (aa s io.span), s' l = s l) : target cfg s' io = target cfg s io ∧ ∀ own f vs, target cfg s io = some (own, f, vs) → argsD s' vs = argsD s vs := by
  cases io with
  | call own f args =>
    refine ⟨by simp only [target]; rw [show vals cfg s' args = vals cfg s args from dw (n := 0) h], fun own' f' vs ht => ?_⟩
    simp only [target, Option.map_eq_some_iff] at ht
    obtain ⟨vs', hv, he⟩ := ht
    cases he
    exact d8 (dv (n := 0) hv h)
  | callv own x args =>
    have hx : ∀ l ∈ aa s 0 x, s' l = s l := fun l hl => h l (by simp [IOp.operands]; exact .inl hl)
    have ha : ∀ l ∈ args.flatMap (aa s 0), s' l = s l := fun l hl => h l (by
      simp only [IOp.operands, List.flatMap_cons]; exact List.mem_append_right _ hl)
    refine ⟨by simp only [target]; rw [ab hx, dw ha], fun own' f' vs ht => ?_⟩
    simp only [target] at ht
    split at ht
    · rename_i f0 vs' hv hvs
      cases ht
      exact d8 (dv hvs ha)
    · rename_i f0 va vb vs' hv hvs
      split at ht
      · rename_i hq
        simp only [Bool.and_eq_true, List.all_eq_true] at hq
        cases ht
        refine d8 fun v hm => ?_
        simp only [List.mem_append] at hm
        rcases hm with (hm | hm) | hm
        · exact j2 (hq.1 v hm)
        · exact dv hvs ha v hm
        · exact j2 (hq.2 v hm)
      · cases ht
    · cases ht
  | inv own x nm args =>
    have hx : ∀ l ∈ aa s 0 x, s' l = s l := fun l hl => h l (by simp [IOp.operands]; exact .inl hl)
    have ha : ∀ l ∈ args.flatMap (aa s 0), s' l = s l := fun l hl => h l (by
      simp only [IOp.operands, List.flatMap_cons]; exact List.mem_append_right _ hl)
    refine ⟨by simp only [target]; rw [ab hx, dw ha], fun own' f' vs ht => ?_⟩
    simp only [target] at ht
    split at ht
    · rename_i t d vs' hv hvs
      simp only [Option.map_eq_some_iff] at ht
      obtain ⟨f0, _, he⟩ := ht
      cases he
      refine d8 fun v hm => ?_
      rcases List.mem_cons.1 hm with rfl | hm
      · rfl
      · exact dv hvs ha v hm
    · rename_i t y vs' hv hvs
      split at ht
      · rename_i hq
        simp only [Option.map_eq_some_iff] at ht
        obtain ⟨f0, _, he⟩ := ht
        cases he
        refine d8 fun v hm => ?_
        rcases List.mem_cons.1 hm with rfl | hm
        · exact j2 hq
        · exact dv hvs ha v hm
      · cases ht
    · cases ht
  | _ => exact ⟨rfl, fun _ _ _ h => by cases h⟩

theorem aoo {g : Option (Nat × Bool)} (h : ∀ k b, g = some (k, b) → s' (.slot k) = s (.slot k)) : guardOk s' g = guardOk s g := by
  cases g with
  | none => rfl
  | some kb =>
    obtain ⟨k, b⟩ := kb
    simp only [guardOk]
    rw [h k b rfl]

theorem aje {n : Nat} {x : IOpd} {v : V} (hv : val cfg s x = some v) (h : ∀ l ∈ aa s n x, s' l = s l) : givenV s' x v = givenV s x v := by
  cases v with
  | bor l o m => cases x <;> simp only [givenV] <;> rw [h l (jh hv)]
  | d y => cases y <;> cases x <;> rfl
  | own nw z es => cases nw <;> cases x <;> rfl
  | _ => cases x <;> rfl

theorem ga : ∀ (u : List (Loc × V)) {s s' : Get} {l : Loc}, s' l = s l → updG s' u l = updG s u l
  | [], _, _, _, h => h
  | (l0, v) :: r, s, s', l, h => ga r (by show (if l = l0 then some v else s' l) = (if l = l0 then some v else s l); rw [h])

theorem aac {x : IOpd} {v : V} {g : List (Loc × V) × V} (h : givenV s x v = some g) : g.1 = [] ∨ ∃ l, g.1 = [(l, .junk)] := by
  unfold givenV at h
  split at h
  · cases h; exact .inl rfl
  · cases h; exact .inl rfl
  · cases h; exact .inr ⟨_, rfl⟩
  · split at h
    · split at h
      · cases h; exact .inr ⟨_, rfl⟩
      · cases h
    · cases h
  · cases h

/-- places looked at behind a giving: no more than ahead of it -/
theorem zr {n : Nat} {u : List (Loc × V)} (hu : u = [] ∨ ∃ l, u = [(l, .junk)]) {x : IOpd} {l : Loc} (h : l ∈ aa (updG s u) n x) : l ∈ aa s n x := by
  rcases hu with rfl | ⟨l0, rfl⟩
  · exact h
  · cases x with
    | t k =>
      simp only [aa, updG] at h ⊢
      by_cases e : Loc.slot k = l0
      · rw [if_pos e] at h
        simp at h
        simp [h]
      · rw [if_neg e] at h
        exact h
    | _ => exact h

theorem apm {orc : Orc} {n : Nat} {dst : Option Nat} {own : Bool} {f : FuncId} {args : List IOpd} {i : Nat} (h : ∀ l ∈ args.flatMap (aa s n), s' l = s l) : callG cfg orc s' dst own f args i = callG cfg orc s dst own f args i := by
  unfold callG
  cases hx : args[i]? with
  | none => rfl
  | some x =>
    simp only [Option.bind_some]
    have hx' : ∀ l ∈ aa s n x, s' l = s l := fun l hl => h l (List.mem_flatMap.2 ⟨x, List.mem_of_getElem? hx, hl⟩)
    rw [ab hx']
    cases hv : val cfg s x with
    | none => rfl
    | some v =>
      simp only [Option.bind_some]
      rw [aje hv hx']
      cases hg : givenV s x v with
      | none => rfl
      | some g =>
        simp only [Option.bind_some]
        have hall : ∀ l ∈ (args.set i (.c .nilS)).flatMap (aa (updG s g.1) n), updG s' g.1 l = updG s g.1 l := fun l hl => by
          obtain ⟨y, h1, h2⟩ := List.mem_flatMap.1 hl
          have h3 := zr (aac hg) h2
          refine ga _ ?_
          rcases List.mem_or_eq_of_mem_set h1 with h1 | rfl
          · exact h l (List.mem_flatMap.2 ⟨y, h1, h3⟩)
          · simp [aa] at h3
        rw [dw hall]
        cases hvs : vals cfg (updG s g.1) (args.set i (.c .nilS)) with
        | none => rfl
        | some vs =>
          simp only [Option.bind_some]
          rw [d8 (dv hvs hall)]

theorem jc {n : Nat} : ∀ {l : List IOpd}, (∀ q ∈ l.flatMap (aa s n), s' q = s q) → giveL s' l = giveL s l
  | [], _ => rfl
  | .c _ :: r, h => jc (l := r) fun q hq => h q (List.mem_flatMap.2 (by obtain ⟨y, h1, h2⟩ := List.mem_flatMap.1 hq; exact ⟨y, List.mem_cons_of_mem _ h1, h2⟩))
  | .g _ :: r, h => jc (l := r) fun q hq => h q (List.mem_flatMap.2 (by obtain ⟨y, h1, h2⟩ := List.mem_flatMap.1 hq; exact ⟨y, List.mem_cons_of_mem _ h1, h2⟩))
  | .t k :: r, h => by
    have ih := jc (l := r) fun q hq => h q (List.mem_flatMap.2 (by obtain ⟨y, h1, h2⟩ := List.mem_flatMap.1 hq; exact ⟨y, List.mem_cons_of_mem _ h1, h2⟩))
    have e := h (.slot k) (List.mem_flatMap.2 ⟨.t k, List.mem_cons_self, by simp [aa]⟩)
    simp only [giveL, ih, e]
    split
    · rfl
    · rename_i l _ _ hk
      rw [h l (List.mem_flatMap.2 ⟨.t k, List.mem_cons_self, by simp [aa, hk]⟩)]
    · rfl
theorem ja {n : Nat} : ∀ {l : List IOpd}, (∀ q ∈ l.flatMap (aa s n), s' q = s q) → giveP s' l = giveP s l
  | [], _ => rfl
  | .c _ :: r, h => ja (l := r) fun q hq => h q (List.mem_flatMap.2 (by obtain ⟨y, h1, h2⟩ := List.mem_flatMap.1 hq; exact ⟨y, List.mem_cons_of_mem _ h1, h2⟩))
  | .g _ :: r, h => ja (l := r) fun q hq => h q (List.mem_flatMap.2 (by obtain ⟨y, h1, h2⟩ := List.mem_flatMap.1 hq; exact ⟨y, List.mem_cons_of_mem _ h1, h2⟩))
  | .t k :: r, h => by
    have ih := ja (l := r) fun q hq => h q (List.mem_flatMap.2 (by obtain ⟨y, h1, h2⟩ := List.mem_flatMap.1 hq; exact ⟨y, List.mem_cons_of_mem _ h1, h2⟩))
    have e := h (.slot k) (List.mem_flatMap.2 ⟨.t k, List.mem_cons_self, by simp [aa]⟩)
    simp only [giveP, ih, e]
    split
    · rename_i l _ _ hk
      rw [h l (List.mem_flatMap.2 ⟨.t k, List.mem_cons_self, by simp [aa, hk]⟩)]
    · rfl
theorem oc {n : Nat} {l : List IOpd} (h : ∀ q ∈ l.flatMap (aa s n), s' q = s q) : giveUp s' l = giveUp s l := by
  unfold giveUp
  rw [jc h, ja h]
theorem aos {s : Get} {l : List IOpd} {p : Loc × V} (h : p ∈ giveUp s l) : ∃ es, p.2 = .d (.sl es) := by
  rcases List.mem_append.1 h with h | h
  · obtain ⟨_, _, _, es, _, _, h2, _⟩ := fz h
    exact ⟨es, h2⟩
  · obtain ⟨_, _, _, _, _, _, _, rfl, _⟩ := fy h
    exact ⟨_, rfl⟩
theorem ajg (s : Get) (l : List IOpd) (q : Loc) : updG s (giveUp s l) q = s q ∨ ∃ es, updG s (giveUp s l) q = some (.d (.sl es)) := by
  have key : ∀ (u : List (Loc × V)) (g : Get), (∀ p ∈ u, ∃ es, p.2 = .d (.sl es)) → updG g u q = g q ∨ ∃ es, updG g u q = some (.d (.sl es)) := by
    intro u
    induction u with
    | nil => intro g _; exact .inl rfl
    | cons p u ih =>
      intro g hp
      obtain ⟨l, v⟩ := p
      obtain ⟨es, hv⟩ := hp (l, v) List.mem_cons_self
      simp only at hv
      subst hv
      rw [aq]
      rcases ih (fun l' => if l' = l then some (.d (.sl es)) else g l') (fun p h => hp p (List.mem_cons_of_mem _ h)) with h | h
      · rw [h]
        by_cases e : q = l
        · rw [if_pos e]; exact .inr ⟨es, rfl⟩
        · rw [if_neg e]; exact .inl rfl
      · exact .inr h
  exact key _ s fun p hp => aos hp
theorem j5 {n : Nat} {u : List IOpd} {x : IOpd} {l : Loc} (h : l ∈ aa (updG s (giveUp s u)) n x) : l ∈ aa s n x := by
  cases x with
  | t k =>
    simp only [aa] at h ⊢
    rcases ajg s u (.slot k) with e | ⟨es, e⟩
    · rw [e] at h; exact h
    · rw [e] at h
      simp only [List.mem_singleton] at h
      rw [h]
      exact List.mem_cons_self
  | _ => exact h
theorem upds_in {op : IOp} {x : IOpd} (h : x ∈ upds op) : x ∈ op.operands := by
  cases op <;> first | exact h | (simp [upds] at h)
theorem ao0 {dst : Option Nat} {io : IOp} (h : ∀ l ∈ io.operands.flatMap (aa s io.span), s' l = s l)
    (hb : ∀ k, dst = some k → (∀ zs, io = .alloc zs → s' (.cell ⟨dep, k, 0⟩) = s (.cell ⟨dep, k, 0⟩)) ∧ (∀ n x, io = .box n x → s' (.cell ⟨dep, k, 0⟩) = s (.cell ⟨dep, k, 0⟩))) :
    evOpD cfg dep s' dst io = evOpD cfg dep s dst io := by
  have hg : gives cfg s' io = gives cfg s io := by
    cases io with
    | store n a x =>
      simp only [gives]
      rw [ab (s := s) (s' := s') (x := a) (n := n) fun l hl => h l (List.mem_flatMap.2 ⟨a, by simp [IOp.operands], hl⟩)]
    | _ => rfl
  have hu : giveUp s' (upds io) = giveUp s (upds io) := oc (n := io.span) fun q hq => by
    obtain ⟨y, h1, h2⟩ := List.mem_flatMap.1 hq
    exact h q (List.mem_flatMap.2 ⟨y, upds_in h1, h2⟩)
  unfold evOpD
  rw [hg, hu, ah4 h hb]
  split
  · rename_i hgv
    rw [ah4 (s := updG s (giveUp s (upds io))) (s' := updG s' (giveUp s (upds io))) (fun l hl => ?_) (fun k hk => ?_)]
    · obtain ⟨y, h1, h2⟩ := List.mem_flatMap.1 hl
      exact ga _ (h l (List.mem_flatMap.2 ⟨y, h1, j5 h2⟩))
    · refine ⟨fun zs e => ?_, fun n x e => ?_⟩
      · rw [e] at hgv; cases hgv
      · rw [e] at hgv; cases hgv
  · rfl

theorem aoz {orc : Orc} {dst : Option Nat} {io : IOp} (h : ∀ l ∈ io.operands.flatMap (aa s io.span), s' l = s l)
    (hb : ∀ k, dst = some k → (∀ zs, io = .alloc zs → s' (.cell ⟨dep, k, 0⟩) = s (.cell ⟨dep, k, 0⟩)) ∧ (∀ n x, io = .box n x → s' (.cell ⟨dep, k, 0⟩) = s (.cell ⟨dep, k, 0⟩))) :
    evOpG cfg orc dep s' dst io = evOpG cfg orc dep s dst io := by
  unfold evOpG
  split
  · exact apm h
  · exact ao0 h hb

theorem aph {orc : Orc} {dst : Option Nat} {own : Bool} {f : FuncId} {args : List IOpd} {n : Nat} (h : ∀ l ∈ args.flatMap (aa s n), s' l = s l) :
    callT cfg orc s' dst own f args = callT cfg orc s dst own f args := by
  have hu : giveUp s' args = giveUp s args := oc (n := n) h
  have hl : ∀ l ∈ args.flatMap (aa (updG s (giveUp s args)) n), updG s' (giveUp s args) l = updG s (giveUp s args) l := fun l hl => by
    obtain ⟨y, h1, h2⟩ := List.mem_flatMap.1 hl
    exact ga _ (h l (List.mem_flatMap.2 ⟨y, h1, j5 h2⟩))
  unfold callT
  rw [hu, dw hl]
  cases hv : vals cfg (updG s (giveUp s args)) args with
  | none => rfl
  | some vs =>
    simp only [Option.bind_some, callU]
    rw [d8 (dv hv hl)]
theorem apj {orc : Orc} {dst : Option Nat} {io : IOp} {vs : List V} (h : ∀ l ∈ io.operands.flatMap (aa s io.span), s' l = s l) (ha : argsD s' vs = argsD s vs) :
    callR cfg orc s' dst io vs = callR cfg orc s dst io vs := by
  cases io with
  | call own f args =>
    have ht : callT cfg orc s' dst own f args = callT cfg orc s dst own f args := aph (n := 0) h
    simp only [callR, ha, ht]
  | _ => rfl

theorem akj {orc : Orc} {io : IOper} (h : ∀ l ∈ ck dep s io, s' l = s l) : stepU cfg orc dep s' io = stepU cfg orc dep s io := by
  have hop : ∀ l ∈ io.op.operands.flatMap (aa s io.op.span), s' l = s l := fun l hl => h l (by unfold ck; exact List.mem_append_right _ hl)
  have hg : guardOk s' io.guard = guardOk s io.guard := aoo fun k b e => h _ (by unfold ck; rw [e]; simp)
  have hbox : ∀ k, io.dst = some k → (∀ zs, io.op = .alloc zs → s' (.cell ⟨dep, k, 0⟩) = s (.cell ⟨dep, k, 0⟩)) ∧ (∀ n x, io.op = .box n x → s' (.cell ⟨dep, k, 0⟩) = s (.cell ⟨dep, k, 0⟩)) := fun k hk =>
    ⟨fun zs e => h _ (by unfold ck; rw [e, hk]; simp), fun n x e => h _ (by unfold ck; rw [e, hk]; simp)⟩
  obtain ⟨t1, t2⟩ := aiq (cfg := cfg) hop
  unfold stepU
  rw [hg, aoz hop hbox, t1]
  split
  · rfl
  · rfl
  · split
    · rfl
    · split
      · cases hcl : clipArg cfg io.op with
        | some x =>
          simp only
          have hx : val cfg s' x = val cfg s x := by
            unfold clipArg at hcl
            split at hcl
            · rename_i f x' e
              split at hcl
              · cases hcl
                exact ab (n := io.op.span) (fun l hl => hop l (by rw [e] at hl ⊢; simpa [IOp.operands] using hl))
              · cases hcl
            · cases hcl
          rw [hx]
        | none =>
          simp only
          cases ht : target cfg s io.op with
          | none => rfl
          | some r =>
            obtain ⟨own, f, vs⟩ := r
            simp only [callU]
            rw [t2 own f vs ht, apj hop (t2 own f vs ht)]
      · rfl

end
end Go.Ev
