/- The evaluator of Go code and its proofs, part 6. Own work. -/
import Derived.Test.YtpflgebgmhnipaaGreatDoorL5
import Derived.RangeFuncSeq
import Derived.CallsIn
set_option linter.unusedVariables false
set_option linter.unusedSimpArgs false
set_option linter.unusedSectionVars false
/-! EvZ -/
/- Calls that are handed boxes. Own work. -/
namespace Go.Ev
open Go

section
variable {P : Program} {cfg : Cfg} {x : Cx} {N dep : Nat} {s : Get} {a : Act} {w : World}

theorem upTos_mem {n : Nat} {v : V} : ∀ {vs : List V}, V.upTos n vs = true → v ∈ vs → v.upTo n = true
  | c :: cs, hp, hm => by
    simp only [V.upTos, Bool.and_eq_true] at hp
    rcases List.mem_cons.1 hm with rfl | hm
    · exact hp.1
    · exact upTos_mem hp.2 hm

/-- a value that leads to no deeper box and is not borrowed, in another state -/
theorem RdV.move {x x' : Cx} {s s' : Get} {cv cv' : Loc → Option Value} {w w' : World} {l : Option Loc} {v : Value} {y : V} (n : Nat) (h : RdV x s cv w l v y)
    (hc : ∀ b o u, x.ow b = none → w.cell? (ad3 b o) = some u → x'.ow b = none ∧ w'.cell? (ad3 b o) = some u)
    (hR : Room w w')
    (hB : ∀ d k, d < n → (s (.cell ⟨d, k, 0⟩)).isSome → (s' (.cell ⟨d, k, 0⟩)).isSome ∧ x'.ad d k = x.ad d k)
    (hO : ∀ l0, l = some l0 → ∀ b, x.ow b = some (.at l0) → x'.ow b = some (.at l0) ∧ ∀ o u, w.cell? (ad3 b o) = some u → w'.cell? (ad3 b o) = some u) :
    y.upTo n = true → RdV x' s' cv' w' l v y := by
  induction h with
  | d l v y h => exact fun _ => .d l v y (h.mono hc)
  | own l b o len cap z nw es how hlen hcap h =>
    intro _
    obtain ⟨ho1, ho2⟩ := hO l rfl b how
    refine .own l b o len cap z nw es ho1 hlen hcap ⟨h.pos, fun j hj => ?_, h.wid, h.cel, fun i e he j c hj => ?_⟩
    · obtain ⟨⟨u, hu⟩, hf⟩ := h.room j hj
      exact hR b _ u hu hf
    · obtain ⟨v, h1, h2⟩ := h.els i e he j c hj
      exact ⟨v, ho2 _ _ h1, h2.mono hc⟩
  | bor l l' off len b o' cap' hcap h => exact fun hy => by simp [V.upTo] at hy
  | bref l l' i off b o' h => exact fun hy => by simp [V.upTo] at hy
  | iptr l b o off e h => exact fun _ => .iptr l b o off e (h.mono hc)
  | ref l d k off h =>
    intro hy
    obtain ⟨h1, h2⟩ := hB d k (by simpa [V.upTo] using hy) h
    rw [← h2]
    exact .ref l d k off h1
  | clo l f va vb xs ys hl hl' _ _ ih ih' =>
    intro hy
    simp only [V.upTo, Bool.and_eq_true] at hy
    exact .clo l f va vb xs ys hl hl' (fun i v y h1 h2 => ih i v y h1 h2 (by simp) (upTos_mem hy.1 (List.mem_of_getElem? h2))) (fun i v y h1 h2 => ih' i v y h1 h2 (by simp) (upTos_mem hy.2 (List.mem_of_getElem? h2)))
  | ifc l t v y _ ih => exact fun hy => .ifc l t v y (ih (by simp) (by simpa [V.upTo] using hy))
  | junk l v => exact fun _ => .junk l v

/-- how a call that is handed boxes sees the memory -/
def Cx.hide (x : Cx) : Cx := { x with ow := fun b => match x.ow b with
  | some (.at (.slot _)) => some .outer
  | some .res => some .outer
  | o => o }

/-- how its caller sees it behind the call -/
def Cx.unhide (x x' : Cx) (dep : Nat) (res : Option Own) : Cx := ⟨fun b => match x.ow b with
  | some (.at (.slot k)) => some (.at (.slot k))
  | some .res => some .outer
  | _ => match x'.ow b with
    | some (.at (.slot _)) => some .outer
    | some .res => res
    | o => o, x'.ad, x.base⟩

theorem hide_none {x : Cx} {b : Nat} (h : x.ow b = none) : x.hide.ow b = none := by simp [Cx.hide, h]

theorem lk_cutMem (dep : Nat) (c : Cel) : ∀ (m : List (Cel × V)), lk (cutMem dep m) c = if c.d ≤ dep then lk m c else none
  | [] => by simp [cutMem, lk]
  | (c', v) :: r => by
    unfold cutMem
    have ih := lk_cutMem dep c r
    split
    · rename_i h
      simp only [lk]
      by_cases e : c' = c
      · subst e; simp [h]
      · simp [e, ih]
    · rename_i h
      rw [ih]
      simp only [lk]
      by_cases e : c' = c
      · subst e; simp [h]
      · simp [e]

theorem lk_dropBor (dep k : Nat) : ∀ (e : List (Nat × V)), lk (dropBor dep e) k = (lk e k).map (V.unbor dep)
  | [] => rfl
  | (k', v) :: r => by
    simp only [dropBor, lk]
    split
    · rfl
    · exact lk_dropBor dep k r

theorem lk_mem {α β : Type} [DecidableEq α] {k : α} {v : β} : ∀ {m : List (α × β)}, lk m k = some v → (k, v) ∈ m
  | (k', v') :: r, h => by
    simp only [lk] at h
    split at h
    · rename_i e; cases h; subst e; simp
    · exact List.mem_cons_of_mem _ (lk_mem h)

theorem Rel.enterM {e : List (Nat × V)} {m : List (Cel × V)} (R : Rel cfg x N (St.get ⟨e, m⟩) a w) : Rel cfg x.hide 0 (get0 m) act0 w := by
  have hc : ∀ b o u, x.ow b = none → w.cell? (ad3 b o) = some u → x.hide.ow b = none ∧ w.cell? (ad3 b o) = some u := fun b o u h1 h2 => ⟨hide_none h1, h2⟩
  refine ⟨rfl, .nil rfl, fun b hb => R.bound b (fun e => hb (hide_none e)), fun l v h => ?_, (fun k v h => by cases h), fun c v h => ?_, fun n e hg => (R.globs n e hg).mono hc, fun b h => R.nofz b ?_, fun n ob hg => ⟨hide_none (R.gobj n ob hg).1, (R.gobj n ob hg).2⟩⟩
  rotate_left 2
  · simp only [Cx.hide] at h
    split at h
    · rcases h with h | ⟨_, h⟩ <;> cases h
    · rcases h with h | ⟨_, h⟩ <;> cases h
    · exact h
  · cases l with
    | slot k => cases h
    | cell c =>
      obtain ⟨u, hu, hr⟩ := R.locs (.cell c) v h
      refine ⟨u, hu, hr.mono hc (fun b o u h1 h2 => ⟨⟨u, h1⟩, h2⟩) (fun l' z es hs => ?_) (fun d k h => ⟨h, rfl⟩) (fun l0 e b hb => ?_)⟩
      · cases l' with
        | slot k => cases hs
        | cell c' => exact ⟨es, hs, rfl, fun b o L C h => ⟨L, C, h⟩⟩
      · cases e
        exact ⟨by simp [Cx.hide, hb], fun o u h => h⟩
  · obtain ⟨h1, h2, h3⟩ := R.box c v h
    exact ⟨by simp [Cx.hide, h1], h2, h3⟩

/-- the caller's state behind a call that was handed boxes -/
theorem Rel.backK {e : List (Nat × V)} {m m' : List (Cel × V)} (R : Rel cfg x N (St.get ⟨e, m⟩) a w) {x' : Cx} {w' : World} {K : Nat} (hK : K < w.heap.size → x.ow K = none ∧ ∀ c t fr, w.heap[K]? ≠ some (.cells c t fr)) (L : Rel cfg x' 0 (get0 m') act0 w')
    (F : FrK K (dep + 1) x.hide x' w w') (halive : ∀ c : Cel, c.d < dep + 1 → (lk m c).isSome → (lk m' c).isSome)
    (hup : (cutMem dep m').all (fun p => p.2.upTo (dep + 1)) = true) (res : Option Own) (hres : ∀ k, res ≠ some (.at (.slot k))) :
    Rel cfg (x.unhide x' dep res) N (St.get ⟨dropBor dep e, cutMem dep m'⟩) a w' ∧ FrK K dep x (x.unhide x' dep res) w w' := by
  have hout : ∀ b, b < w.heap.size → (∃ k, x.ow b = some (.at (.slot k))) ∨ x.ow b = some .res → w'.heap[b]? = w.heap[b]? ∧ x'.ow b = some .outer := fun b hb h => by
    have h1 : x.hide.ow b = some .outer := by
      rcases h with ⟨k, h⟩ | h <;> simp [Cx.hide, h]
    obtain ⟨h2, h3⟩ := F.same b hb (.inr h1)
    exact ⟨h2 (fun e => by have := (hK (e ▸ hb)).1; rw [← e] at this; rcases h with ⟨k, h⟩ | h <;> rw [h] at this <;> cases this), h3.trans h1⟩
  have hnone : ∀ b, b < w.heap.size → x.ow b = none → (b ≠ K → w'.heap[b]? = w.heap[b]?) ∧ x'.ow b = none := fun b hb h => by
    obtain ⟨h2, h3⟩ := F.same b hb (.inl (hide_none h))
    exact ⟨h2, h3.trans (hide_none h)⟩
  have hcK : ∀ b o u, w.cell? (ad3 b o) = some u → b ≠ K := fun b o u h e => by
    subst e
    have := (hK (by simpa using World.block_lt_of_cell? _ _ h)).2
    unfold World.cell? at h
    split at h
    · rename_i c t fr e; exact this _ _ _ e
    · cases h
  have hlt : ∀ b o u, w.cell? (ad3 b o) = some u → b < w.heap.size := fun b o u h => by simpa using World.block_lt_of_cell? _ _ h
  have hyn : ∀ b, x.ow b = none → x'.ow b = none → (x.unhide x' dep res).ow b = none := fun b h h' => by simp [Cx.unhide, h, h']
  have hy : ∀ b o, x'.ow b = o → (∀ k, o ≠ some (.at (.slot k))) → o ≠ some .res → o ≠ some .outer → (x.unhide x' dep res).ow b = o := fun b o h h1 h2 h3 => by
    have hns : ∀ o', x.ow b = some o' → (∀ k, o' ≠ .at (.slot k)) ∧ o' ≠ .res := fun o' e => by
      have hb := R.bound b (by rw [e]; simp)
      refine ⟨fun k e' => ?_, fun e' => ?_⟩
      · have := (hout b hb (.inl ⟨k, by rw [e, e']⟩)).2
        exact h3 (h ▸ this)
      · have := (hout b hb (.inr (by rw [e, e']))).2
        exact h3 (h ▸ this)
    have hin : (match x'.ow b with | some (.at (.slot _)) => some .outer | some .res => res | o => o) = o := by
      rw [h]
      split
      · exact absurd rfl (h1 _)
      · exact absurd rfl h2
      · rfl
    simp only [Cx.unhide]
    split
    · rename_i k e; exact absurd rfl ((hns _ e).1 k)
    · rename_i e; exact absurd rfl (hns _ e).2
    · exact hin
  have hc : ∀ b o u, x.ow b = none → w.cell? (ad3 b o) = some u → (x.unhide x' dep res).ow b = none ∧ w'.cell? (ad3 b o) = some u := fun b o u h1 h2 => by
    obtain ⟨h3, h4⟩ := hnone b (hlt b o u h2) h1
    exact ⟨hyn b h1 h4, by rw [cell_of_heap (h3 (hcK b o u h2))]; exact h2⟩
  have hcm : ∀ c v, St.get ⟨dropBor dep e, cutMem dep m'⟩ (.cell c) = some v → c.d ≤ dep ∧ lk m' c = some v := fun c v h => by
    have h' : lk (cutMem dep m') c = some v := h
    rw [lk_cutMem] at h'
    split at h'
    · rename_i hd; exact ⟨hd, h'⟩
    · cases h'
  have hal : ∀ d k, d ≤ dep → (lk m' ⟨d, k, 0⟩).isSome → (St.get ⟨dropBor dep e, cutMem dep m'⟩ (.cell ⟨d, k, 0⟩)).isSome := fun d k hd h => by
    show (lk (cutMem dep m') _).isSome
    rw [lk_cutMem, if_pos hd]; exact h
  refine ⟨⟨R.size, R.defs.mono R.bound rfl rfl (fun b h hb => ?_), fun b hb => ?_, fun l v h => ?_, fun k v h => ?_, fun c v h => ?_, fun n e hg => (R.globs n e hg).mono hc, fun b h => ?_, fun n ob hg => ?_⟩, F.size, fun b hb h => ?_, fun d k hd => F.ad d k (by omega), F.io, F.room, rfl⟩
  · have hh : x.hide.ow b = x.ow b := by simp [Cx.hide, h]
    obtain ⟨h2, h3⟩ := F.same b hb (by rw [hh]; exact .inr h)
    refine ⟨?_, h2 (fun e => ?_)⟩
    · rw [hh] at h3
      simp [Cx.unhide, h, h3]
    · have := (hK (e ▸ hb)).1; rw [← e] at this; rw [h] at this; cases this
  · by_cases hx : x.ow b = none
    · refine L.bound b fun e => hb (hyn b hx e)
    · exact Nat.lt_of_lt_of_le (R.bound b hx) F.size
  · cases l with
    | slot k =>
      have h' : lk (dropBor dep e) k = some v := h
      rw [lk_dropBor] at h'
      simp only [Option.map_eq_some_iff] at h'
      obtain ⟨v0, h0, rfl⟩ := h'
      obtain ⟨u, hu, hr⟩ := R.locs (.slot k) v0 h0
      refine ⟨u, hu, ?_⟩
      have hback : ∀ l' z es, St.get ⟨dropBor dep e, cutMem dep m'⟩ (.slot l') = some (.own false z es) → St.get ⟨e, m⟩ (.slot l') = some (.own false z es) := fun l' z es h1 => by
        have h2 : lk (dropBor dep e) l' = some (.own false z es) := h1
        rw [lk_dropBor] at h2
        simp only [Option.map_eq_some_iff] at h2
        obtain ⟨v1, h3, h4⟩ := h2
        show lk e l' = _
        rw [h3]
        unfold V.unbor at h4
        split at h4
        · cases h4
        · cases h4
        · split at h4
          · rw [h4]
          · cases h4
      unfold V.unbor
      split
      · rename_i l' off n
        cases hr with
        | bor _ _ _ _ b o' cap' hcap h1 =>
        refine .bor _ _ _ _ _ _ _ hcap fun z es hs => ?_
        obtain ⟨o, L', C, g1, g2, g3, g4⟩ := h1 z es (hback _ z es hs)
        exact ⟨o, L', C, g1, g2, g3, fun j hj => let ⟨⟨u, hu⟩, hf⟩ := g4 j hj; F.room b _ u hu hf⟩
      · rename_i l' i off
        cases hr with
        | bref _ _ _ _ b o' h1 =>
        refine .bref _ _ _ _ _ _ fun z es hs => ?_
        exact h1 z es (hback _ z es hs)
      · split
        · rename_i hup'
          refine hr.move (dep + 1) hc F.room (fun d k hd h1 => ⟨hal d k (by omega) (halive ⟨d, k, 0⟩ (by show d < dep + 1; omega) h1), F.ad d k (by omega)⟩) (fun l0 e0 b hb => ?_) hup'
          cases e0
          have hbl := R.bound b (by rw [hb]; simp)
          exact ⟨by simp [Cx.unhide, hb], fun o u h1 => by rw [cell_of_heap (hout b hbl (.inl ⟨k, hb⟩)).1]; exact h1⟩
        · exact .junk _ _
    | cell c =>
      obtain ⟨hd, hm'⟩ := hcm c v h
      obtain ⟨u, hu, hr⟩ := L.locs (.cell c) v hm'
      refine ⟨u, hu, ?_⟩
      have hv : v.upTo (dep + 1) = true := by
        have := List.all_eq_true.1 hup _ (lk_mem h)
        exact this
      refine hr.move (dep + 1) (fun b o u h1 h2 => ⟨hy b none h1 (by simp) (by simp) (by simp), h2⟩) (.refl _) (fun d k hd h1 => ⟨hal d k (by omega) h1, rfl⟩) (fun l0 e0 b hb => ?_) hv
      cases e0
      exact ⟨hy b _ hb (by simp) (by simp) (by simp), fun o u h => h⟩
  · have h' : lk (dropBor dep e) k = some v := h
    rw [lk_dropBor] at h'
    simp only [Option.map_eq_some_iff] at h'
    obtain ⟨v0, h0, rfl⟩ := h'
    exact R.slotN k v0 h0
  · obtain ⟨hd, hm'⟩ := hcm c v h
    obtain ⟨h1, h2, h3⟩ := L.box c v hm'
    exact ⟨hy _ _ h1 (by simp) (by simp) (by simp), hal c.d c.k hd h2, h3⟩
  · simp only [Cx.unhide] at h
    have no : ∀ {X : Prop} {o : Option Own}, Held o → o = some .outer → X := fun h e => by rw [e] at h; rcases h with h | ⟨_, h⟩ <;> cases h
    split at h
    · rename_i k e
      have hlt := R.bound b (by rw [e]; simp)
      exact (R.nofz b (by rw [e]; exact .inr ⟨_, rfl⟩)).heap (hout b hlt (.inl ⟨k, e⟩)).1
    · exact no h rfl
    · split at h
      · exact no h rfl
      · rename_i e; exact L.nofz b (by rw [e]; exact .inl rfl)
      · exact L.nofz b h
  · obtain ⟨g1, g2⟩ := R.gobj n ob hg
    obtain ⟨g3, g4⟩ := hnone n g2.lt g1
    obtain ⟨t, fr, g5⟩ := g2
    exact ⟨hyn n g1 g4, HoldsG.heap ⟨t, fr, g5⟩ (g3 (fun e => by
      subst e
      exact (hK (Array.getElem?_eq_some_iff.1 g5).1).2 _ _ _ g5))⟩
  · have hh : x.hide.ow b = x.ow b := by rcases h with h | h <;> simp [Cx.hide, h]
    obtain ⟨h2, h3⟩ := F.same b hb (by rw [hh]; exact h)
    refine ⟨h2, ?_⟩
    rw [hh] at h3
    rcases h with h | h <;> simp [Cx.unhide, h, h3]

/-- the caller's state behind a call that was handed boxes -/
theorem Rel.backM {e : List (Nat × V)} {m m' : List (Cel × V)} (R : Rel cfg x N (St.get ⟨e, m⟩) a w) {x' : Cx} {w' : World} {r : V} {v : Value} (L : Leaves cfg x.hide x' (dep + 1) m m' r v w w')
    (hup : (cutMem dep m').all (fun p => p.2.upTo (dep + 1)) = true) (res : Option Own) (hres : ∀ k, res ≠ some (.at (.slot k))) :
    Rel cfg (x.unhide x' dep res) N (St.get ⟨dropBor dep e, cutMem dep m'⟩) a w' ∧ Fr dep x (x.unhide x' dep res) w w' := by
  obtain ⟨h1, h2⟩ := R.backK (K := w.heap.size) (fun h => absurd h (Nat.lt_irrefl _)) L.rel (L.fr.toK _) L.alive hup res hres
  exact ⟨h1, h2.toFr (Nat.le_refl _)⟩

theorem lk_st {α β : Type} [DecidableEq α] (k : α) (v : β) (k' : α) : ∀ m : List (α × β), lk (Go.Ev.st m k v) k' = if k' = k then some v else lk m k'
  | [] => by
    simp only [Go.Ev.st, lk]
    by_cases e : k = k'
    · simp [e]
    · simp [e, Ne.symm e]
  | (k0, v0) :: r => by
    simp only [Go.Ev.st]
    split
    · rename_i e
      subst e
      simp only [lk]
      by_cases e : k0 = k'
      · simp [e]
      · simp [e, Ne.symm e]
    · rename_i e
      simp only [lk, lk_st k v k' r]
      by_cases e' : k0 = k'
      · subst e'; simp [e]
      · simp [e']

theorem get_set (s : St) (l : Loc) (v : V) : (s.set l v).get = fun l' => if l' = l then some v else s.get l' := by
  funext l'
  cases l with
  | slot k =>
    cases l' with
    | slot k' =>
      show lk (Go.Ev.st s.env k v) k' = _
      rw [lk_st]
      simp only [Loc.slot.injEq]
      rfl
    | cell c => simp only [reduceCtorEq, if_false]; rfl
  | cell c =>
    cases l' with
    | slot k' => simp only [reduceCtorEq, if_false]; rfl
    | cell c' =>
      show lk (Go.Ev.st s.mem c v) c' = _
      rw [lk_st]
      simp only [Loc.cell.injEq]
      rfl

theorem get_upd : ∀ (u : List (Loc × V)) (s : St), (s.upd u).get = updG s.get u
  | [], s => rfl
  | (l, v) :: r, s => by
    show ((s.set l v).upd r).get = updG (fun l' => if l' = l then some v else s.get l') r
    rw [get_upd r, get_set]

theorem sim_callM {orc : Orc} (hO : OrcOk P cfg orc) {st : St} (R : Rel cfg x N st.get a w) {o : Oper} {k : Nat} (hd : o.dst = some k) (hk : k < N) {f : FuncId} {args : Array Value} {vs : List V} (hrun : (execOp a.eval o).run P w = (callFunc f args).run P w)
    (hsz : args.size = vs.length) (hargs : ∀ (i : Nat) v y, args[i]? = some v → vs[i]? = some y → ∃ l, RdV x st.get (conc x a w) w l v y) {own : Bool} {st' : St} (hu : callM orc dep st o.dst own f vs = some st') : Walks P cfg x N dep st'.get a w o := by
  obtain ⟨e, m⟩ := st
  unfold callM at hu
  split at hu
  · rename_i hq
    simp only [Bool.and_eq_true] at hq
    split at hu
    · rename_i r m' hor
      split at hu
      · rename_i hup
        have hE : Enters cfg x.hide vs m args w := by
          refine ⟨R.enterM, hsz, fun i v y h1 h2 => ?_⟩
          obtain ⟨l, hr⟩ := hargs i v y h1 h2
          have hp : y.plainV = true := List.all_eq_true.1 hq.2 _ (List.mem_of_getElem? h2)
          have hno : y.isOwn = false := by cases y <;> first | rfl | simp [V.plainV] at hp
          refine ResOk.of_rd ((hr.reloc (l' := none) hno).mono (fun b o u h1 h2 => ⟨hide_none h1, h2⟩) (fun b o u h1 h2 => ⟨⟨u, h1⟩, h2⟩) (fun l' z es hs => ?_) (fun d k h => ⟨h, rfl⟩) (fun l0 e0 => by cases e0)) hno
          cases l' with
          | slot k => cases hs
          | cell c' => exact ⟨es, hs, rfl, fun b o L C h => ⟨L, C, h⟩⟩
        have hdoes := hO f (dep + 1) vs m r m' hor _ w args hE
        have hfree : ∀ (x' : Cx) (v : Value) w' res, Leaves cfg x.hide x' (dep + 1) m m' r v w w' → ∀ b o, x'.ow b = o → (o = none ∨ o = some .res) → (x.unhide x' dep res).ow b = if o = none then none else res := by
          intro x' v w' res L b o h ho
          have hno : ∀ o', x.ow b = some o' → (∃ k, o' = .at (.slot k)) ∨ o' = .res → False := fun o' e1 e2 => by
            have hb := R.bound b (by rw [e1]; simp)
            have h1 : x.hide.ow b = some .outer := by rcases e2 with ⟨k, rfl⟩ | rfl <;> simp [Cx.hide, e1]
            have := (L.fr.same b hb (.inr h1)).2
            rw [h, h1] at this
            rcases ho with ho | ho <;> rw [ho] at this <;> cases this
          simp only [Cx.unhide]
          split
          · rename_i k e1; exact (hno _ e1 (.inl ⟨k, rfl⟩)).elim
          · rename_i e1; exact (hno _ e1 (.inr rfl)).elim
          · rw [h]
            rcases ho with rfl | rfl <;> simp
        have hmono : ∀ (x' : Cx) (v : Value) w' res, Leaves cfg x.hide x' (dep + 1) m m' r v w w' → ∀ b o u, freeB x' b → w'.cell? (ad3 b o) = some u → freeB (x.unhide x' dep res) b ∧ w'.cell? (ad3 b o) = some u :=
          fun x' v w' res L b o u h1 h2 => ⟨by have := hfree x' v w' res L b none h1 (.inl rfl); simpa [freeB] using this, h2⟩
        split at hu
        · rename_i u hl
          cases hu
          rw [get_upd]
          refine hdoes.walks hrun (fun v w' hex => ?_)
          obtain ⟨x', L⟩ := hex
          rw [hd] at hl ⊢
          unfold landed at hl
          split at hl
          · rename_i y
            split at hl
            · cases hl
            · cases hl
              obtain ⟨R2, F2⟩ := R.backM L hup none (by simp)
              have hr : Rd (freeB x') w' v y := RdV.d_inv L.res
              exact ⟨_, R2.put hk rfl (l := none) (.d _ _ _ (by split; exact hr.mono (hmono x' v w' none L); exact (hr.mono (hmono x' v w' none L)).canon)), F2⟩
          · rename_i nw z es
            split at hl
            · cases hl
            · cases hl
              have hres := L.res
              obtain ⟨b, of, cap, rfl, q2, q3, A⟩ : ∃ b o cap, v = .slice (some (ad3 b o)) es.length cap ∧ x'.ow b = some .res ∧ es.length ≤ cap ∧ Arr (freeB x') w' b o cap z es := hres
              have hA : ∀ res, Arr (freeB (x.unhide x' dep res)) w' b of cap z es := fun res => A.mono (hmono x' _ w' res L) (fun _ _ h => h) (fun _ _ _ h => h)
              cases own
              · obtain ⟨R2, F2⟩ := R.backM L hup none (by simp)
                refine ⟨_, R2.put hk rfl (l := none) (.d _ _ _ ((hA none).rd ?_ rfl q3)), F2⟩
                have := hfree x' _ w' none L b _ q2 (.inr rfl)
                simpa [freeB] using this
              · obtain ⟨R2, F2⟩ := R.backM L hup (some .res) (by simp)
                have how : (x.unhide x' dep (some .res)).ow b = some .res := by
                  have := hfree x' _ w' (some .res) L b _ q2 (.inr rfl)
                  simpa using this
                exact ⟨_, R2.place hk how (hA _) rfl q3, F2.trans (Fr.giveRes how _)⟩
          · cases hl
        · rename_i hl
          split at hu
          · rename_i hq2
            simp only [Bool.and_eq_true] at hq2
            cases hu
            rw [get_upd]
            refine hdoes.walks hrun (fun v w' hex => ?_)
            obtain ⟨x', L⟩ := hex
            rw [hd]
            have hno : r.isOwn = false := by cases r <;> first | rfl | simp [V.plainV] at hq2
            have hr : RdV x' (get0 m') (conc x' act0 w') w' none v r := by
              have := L.res
              cases r <;> first | exact this | simp [V.isOwn] at hno
            obtain ⟨R2, F2⟩ := R.backM L hup none (by simp)
            refine ⟨_, R2.put hk hno (l := none) ?_, F2⟩
            refine hr.move (dep + 1) (fun b o u h1 h2 => hmono x' v w' none L b o u h1 h2) (.refl _) (fun d k hd h1 => ⟨?_, rfl⟩) (fun l0 e0 => by cases e0) hq2.1
            show (lk (cutMem dep m') _).isSome
            rw [lk_cutMem, if_pos (show _ ≤ _ by simp only; omega)]; exact h1
          · cases hu
      · cases hu
    · cases hu
  · cases hu

end
end Go.Ev

/-! EvTell -/
/- Functions that are ranged over. Own work. -/
namespace Go.Ev
open Go Go.RowKit

/-- a function that hands the values xs to the loop's rounds, one after the other; Kp: what a round must leave as it is -/
def Tells (P : Program) (f : FuncId) (lb : Array Value) (xs : List (Array Value)) (Kp : World → World → Prop) (w : World) : Prop :=
  ∀ (l : Nat) (J : Nat → World → Prop) (Jx : World → Prop) (W : World), Below w.heap.size w W → (∀ i X Y, J i X → X.grownBy Y none → J i Y) → (∀ X Y, Jx X → X.grownBy Y none → Jx Y) →
    (∀ i x X, xs[i]? = some x → J i X → YieldAt Fence.wide 0 P l x X fun e Y => (e = .returned (.bool true) ∧ J (i + 1) Y ∧ Kp X Y) ∨ (e = .returned (.bool false) ∧ Jx Y)) →
    J 0 W → CallsIn Fence.wide 0 P f (#[.func (.yield l) #[] #[]] ++ lb) W fun e Y => (∃ v, e = .returned v) ∧ (J xs.length Y ∨ Jx Y)

/-- blocks of F that lay in w stay as they are -/
def KpOf (F : Nat → Prop) (w X Y : World) : Prop := ∀ b, F b → b < w.heap.size → Y.heap[b]? = X.heap[b]?

/-- the functions that are ranged over tell what is said of them -/
def IterOk (P : Program) (cfg : Cfg) : Prop :=
  ∀ f g, cfg.iter f = some g → (∀ args w, (callFunc f args).run P w = .ok (.enter f args) w) ∧ ∀ ds its, g ds = some its → ∀ (F : Nat → Prop) (lb : Array Value) (w : World), lb.size = ds.length →
    (∀ (i : Nat) v d, lb[i]? = some v → ds[i]? = some d → Rd F w v d) → ∃ xs : List (Array Value), xs.length = its.length ∧
      (∀ (i : Nat) x it, xs[i]? = some x → its[i]? = some it → x.size = it.length ∧ ∀ (j : Nat) v d, x[j]? = some v → it[j]? = some d → Rd F w v d) ∧ Tells P f lb xs (KpOf F w) w

end Go.Ev

/-! EvZa -/
/- One operation, calls and guards too. Own work. -/
namespace Go.Ev
open Go

/-- methods are found as the table says -/
def MethOk (P : Program) (cfg : Cfg) : Prop :=
  ∀ t name f, cfg.meth t name = some f → ∀ v w, (method (P.types.size + Made.depth) t v name).run P w = .ok (f, v) w

/-- functions that hand a slice back, with no more room than it is long -/
def ClipOk (P : Program) (cfg : Cfg) : Prop :=
  ∀ f, cfg.clip f = true → ∀ ad len cap w, len ≤ cap → Does P f #[.slice ad len cap] w fun v w' => v = .slice ad len len ∧ w' = w

structure CfgOk (P : Program) (cfg : Cfg) : Prop where
  intTy : IntTyOk P cfg
  meth : MethOk P cfg
  clip : ClipOk P cfg
  iter : IterOk P cfg

section
variable {P : Program} {cfg : Cfg} {x : Cx} {N dep : Nat} {s : Get} {a : Act} {w : World}

theorem vals_rd (R : Rel cfg x N s a w) : ∀ {Xs : List Operand} {is : List IOpd} {vs : List V}, cOpds Xs = some is → vals cfg s is = some vs → Xs.length = vs.length ∧
    ∀ (i : Nat) X v, Xs[i]? = some X → vs[i]? = some v → ∃ l, RdV x s (conc x a w) w l (a.eval X) v
  | [], is, vs, h1, h2 => by cases h1; cases h2; simp
  | X :: Xs, is, vs, h1, h2 => by
    unfold cOpds at h1
    split at h1
    · rename_i ix is' h3 h4
      cases h1
      unfold vals at h2
      split at h2
      · rename_i v vs' h5 h6
        cases h2
        obtain ⟨g1, g2⟩ := vals_rd R h4 h6
        refine ⟨by simp [g1], fun i X' v' e1 e2 => ?_⟩
        cases i with
        | zero => simp at e1 e2; subst e1; subst e2; obtain ⟨l, hr, _⟩ := val_rd R h3 h5; exact ⟨l, hr⟩
        | succ i => simp at e1 e2; exact g2 i X' v' e1 e2
      · cases h2
    · cases h1

/-- arguments of a call, related one by one -/
def ArgsRd (x : Cx) (s : Get) (a : Act) (w : World) (args : List Value) (vs : List V) : Prop :=
  args.length = vs.length ∧ ∀ (i : Nat) v y, args[i]? = some v → vs[i]? = some y → ∃ l, RdV x s (conc x a w) w l v y

theorem ArgsRd.append {p q : List Value} {vs us : List V} (h : ArgsRd x s a w p vs) (k : ArgsRd x s a w q us) : ArgsRd x s a w (p ++ q) (vs ++ us) := by
  refine ⟨by simp [h.1, k.1], fun i v y h1 h2 => ?_⟩
  rw [List.getElem?_append] at h1 h2
  rw [h.1] at h1
  split at h1
  · rename_i hlt
    rw [if_pos hlt] at h2
    exact h.2 i v y h1 h2
  · rename_i hlt
    rw [if_neg hlt] at h2
    exact k.2 _ v y h1 h2

theorem ArgsRd.of_vals (R : Rel cfg x N s a w) {c : Array Operand} {is : List IOpd} {vs : List V} (h1 : cOpds c.toList = some is) (h2 : vals cfg s is = some vs) : ArgsRd x s a w (c.map a.eval).toList vs := by
  obtain ⟨g1, g2⟩ := vals_rd R h1 h2
  refine ⟨by simpa using g1, fun i v y e1 e2 => ?_⟩
  rw [Array.toList_map, List.getElem?_map] at e1
  cases hX : c.toList[i]? with
  | none => rw [hX] at e1; cases e1
  | some X => rw [hX] at e1; cases e1; exact g2 i X y hX e2

theorem target_run (hM : MethOk P cfg) (R : Rel cfg x N s a w) {o : Oper} {own0 : Bool} {io : IOp} (hop : cOp P own0 o.op = some io) (hcall : isCallOp io = true) {own : Bool} {f : FuncId} {vs : List V} (ht : target cfg s io = some (own, f, vs)) :
    ∃ args : List Value, (execOp a.eval o).run P w = (callFunc f args.toArray).run P w ∧ ArgsRd x s a w args vs := by
  cases ho : o.op with
  | call c =>
    rw [ho] at hop
    simp only [cOp] at hop
    split at hop
    · rename_i is his
      cases hcal : c.callee with
      | value X =>
        rw [hcal] at hop
        have hgen : ∀ p, io = .callv own0 p is → cOpd X = some p → ∃ args : List Value, (execOp a.eval o).run P w = (callFunc f args.toArray).run P w ∧ ArgsRd x s a w args vs := by
          rintro p rfl hX
          simp only [target] at ht
          split at ht
          · rename_i f' vs' hv hvs
            cases ht
            refine ⟨_, ?_, ArgsRd.of_vals R his hvs⟩
            have e := (val_d R hX hv).fn_inv
            rw [Array.toArray_toList]
            simp [execOp, ho, resolve, hcal, e, Deferred.ofValue, invoke]
          · rename_i f' va vb vs' hv hvs
            split at ht
            case isFalse => cases ht
            cases ht
            obtain ⟨l, hr, _⟩ := val_rd R hX hv
            generalize hev : a.eval X = v at hr
            cases hr with
            | clo _ _ ua ub _ _ hl hl' h h' =>
            refine ⟨ua ++ (c.args.map a.eval).toList ++ ub, ?_, ?_⟩
            · have e2 : (ua ++ (c.args.map a.eval).toList ++ ub).toArray = ua.toArray ++ c.args.map a.eval ++ ub.toArray := by apply Array.ext'; simp
              rw [e2]
              simp [execOp, ho, resolve, hcal, hev, Deferred.ofValue, invoke]
            · exact (ArgsRd.append ⟨hl, fun i v y h1 h2 => ⟨_, h i v y h1 h2⟩⟩ (ArgsRd.of_vals R his hvs)).append ⟨hl', fun i v y h1 h2 => ⟨_, h' i v y h1 h2⟩⟩
          · cases ht
        cases X with
        | func f0 =>
          cases hop
          simp only [target, Option.map_eq_some_iff] at ht
          obtain ⟨vs', hvs, he⟩ := ht
          cases he
          refine ⟨_, ?_, ArgsRd.of_vals R his hvs⟩
          rw [Array.toArray_toList]
          have e : a.eval (.func f) = .func (.func f) #[] #[] := rfl
          simp [execOp, ho, resolve, hcal, e, Deferred.ofValue, invoke]
        | tmp t =>
          simp only [Option.map_eq_some_iff] at hop
          obtain ⟨p, hX, rfl⟩ := hop
          exact hgen p rfl hX
        | const v =>
          simp only [Option.map_eq_some_iff] at hop
          obtain ⟨p, hX, rfl⟩ := hop
          exact hgen p rfl hX
        | global g =>
          simp only [Option.map_eq_some_iff] at hop
          obtain ⟨p, hX, rfl⟩ := hop
          exact hgen p rfl hX
      | invoke r m =>
        rw [hcal] at hop
        simp only [Option.map_eq_some_iff] at hop
        obtain ⟨p, hX, rfl⟩ := hop
        have hrun : ∀ t v f', a.eval r = .iface t v → cfg.meth t m = some f' → (execOp a.eval o).run P w = (callFunc f' (v :: (c.args.map a.eval).toList).toArray).run P w := fun t v f' e hm => by
          have hm' := hM t m f' hm v w
          generalize hA : c.args.map a.eval = A
          have e2 : (v :: A.toList).toArray = #[v] ++ A := by apply Array.ext'; simp
          have e3 : (#[Value.iface t v] ++ A)[0]? = some (.iface t v) := by rw [Array.getElem?_append_left (by simp)]; rfl
          have e4 : (#[Value.iface t v] ++ A).extract 1 (#[Value.iface t v] ++ A).size = A := by apply Array.ext'; simp
          rw [e2]
          simp only [execOp, ho, resolve, hcal, hA, e, pure_bind, invoke, e3, e4, callMethod, Sem.run_bind, run_program, Result.andThen_ok, hm']
        simp only [target] at ht
        split at ht
        · rename_i t d vs' hv hvs
          simp only [Option.map_eq_some_iff] at ht
          obtain ⟨f', hm, he⟩ := ht
          cases he
          have hr := val_d R hX hv
          generalize hev : a.eval r = v0 at hr
          cases hr with
          | ifc _ v _ h =>
          exact ⟨_, hrun t v f hev hm, ArgsRd.append (p := [v]) (vs := [.d d]) ⟨rfl, fun i v' y h1 h2 => by
            cases i with
            | zero => simp at h1 h2; subst h1; subst h2; exact ⟨none, .d _ _ _ h⟩
            | succ i => simp at h1⟩ (ArgsRd.of_vals R his hvs)⟩
        · rename_i t y vs' hv hvs
          split at ht
          case isFalse => cases ht
          simp only [Option.map_eq_some_iff] at ht
          obtain ⟨f', hm, he⟩ := ht
          cases he
          obtain ⟨l, hr, _⟩ := val_rd R hX hv
          generalize hev : a.eval r = v0 at hr
          cases hr with
          | ifc _ _ v _ h =>
          exact ⟨_, hrun t v f hev hm, ArgsRd.append (p := [v]) (vs := [y]) ⟨rfl, fun i v' y' h1 h2 => by
            cases i with
            | zero => simp at h1 h2; subst h1; subst h2; exact ⟨none, h⟩
            | succ i => simp at h1⟩ (ArgsRd.of_vals R his hvs)⟩
        · cases ht
      | builtin b =>
        rw [hcal] at hop
        have hop' : cBuiltin P b is c.argTypes.toList = some io := hop
        exfalso
        unfold cBuiltin at hop'
        repeat' split at hop'
        all_goals first | (cases hop'; done) | (cases hop'; simp [isCallOp] at hcall)
    · cases hop
  | makeFunc f0 A B =>
    exfalso
    rw [ho] at hop
    cases f0 with
    | func f1 =>
      simp only [cOp] at hop
      split at hop
      · cases hop; simp [isCallOp] at hcall
      · cases hop
    | _ => simp [cOp] at hop
  | _ =>
    exfalso
    rw [ho] at hop
    simp only [cOp] at hop
    repeat' split at hop
    all_goals first | (cases hop; done) | (cases hop; simp [isCallOp] at hcall; done) | (simp only [Option.map_eq_some_iff] at hop; obtain ⟨_, _, rfl⟩ := hop; simp [isCallOp] at hcall)

end
end Go.Ev

/-! EvZ0 -/
/- Calls that are given an array. Own work. -/
namespace Go.Ev
open Go

/-- how a call that is given block gb sees the memory -/
def Cx.pureG (x : Cx) (sh : Bool) (gb : Option Nat) : Cx := { x with ow := fun b => if gb = some b then some .res else (x.pure sh).ow b }

/-- how its caller sees it behind the call -/
def Cx.backG (x x' : Cx) (n : Nat) (gb : Option Nat) (res : Option Own) : Cx := { x with ow := fun b => if b < n ∧ gb ≠ some b then x.ow b else match x'.ow b with
  | none => none
  | some .res => res
  | some _ => some .outer }

theorem pureG_ne {x : Cx} {sh : Bool} {gb : Option Nat} {b : Nat} (h : gb ≠ some b) : (x.pureG sh gb).ow b = (x.pure sh).ow b := by simp [Cx.pureG, h]
theorem pureG_eq {x : Cx} {sh : Bool} {b : Nat} : (x.pureG sh (some b)).ow b = some .res := by simp [Cx.pureG]

section
variable {P : Program} {cfg : Cfg} {x : Cx} {N dep : Nat} {s : Get} {a : Act} {w : World}

theorem pureG_none {sh : Bool} {gb : Option Nat} (hgb : ∀ b, gb = some b → x.ow b = some .res) {b : Nat} (h : x.ow b = none) : (x.pureG sh gb).ow b = none := by
  rw [pureG_ne (fun e => by rw [hgb b e] at h; cases h)]
  exact pure_none h

theorem Rel.enterPureG (R : Rel cfg x N s a w) (sh : Bool) {gb : Option Nat} (hgb : ∀ b, gb = some b → x.ow b = some .res) : Rel cfg (x.pureG sh gb) 0 (get0 []) act0 w := by
  refine ⟨rfl, .nil rfl, fun b hb => R.bound b (fun e => hb (pureG_none hgb e)), fun l v h => ?_, fun k v h => ?_, fun c v h => ?_, fun n e hg => ?_, fun b h => ?_, fun n ob hg => ⟨pureG_none hgb (R.gobj n ob hg).1, (R.gobj n ob hg).2⟩⟩
  · cases l <;> cases h
  · cases h
  · cases h
  · exact (R.globs n e hg).mono fun b o u h1 h2 => ⟨pureG_none hgb h1, h2⟩
  · by_cases e : gb = some b
    · exact R.nofz b (.inl (hgb b e))
    · rw [pureG_ne e] at h
      rcases pure_cases x sh b with e | e <;> rw [e] at h <;> rcases h with h | ⟨_, h⟩ <;> cases h

/-- the caller's state behind a call that was given a block -/
theorem Rel.backPureG (R : Rel cfg x N s a w) {sh : Bool} {gb : Option Nat} (hgb : ∀ b, gb = some b → x.ow b = some .res) {x' : Cx} {w' : World} {N' : Nat} {s' : Get} {a' : Act} {dep' : Nat} (hF : Fr dep' (x.pureG sh gb) x' w w') (R' : Rel cfg x' N' s' a' w') (res : Option Own) :
    Rel cfg (x.backG x' w.heap.size gb res) N s a w' ∧ Fr dep x (x.backG x' w.heap.size gb res) w w' := by
  have hheap : ∀ b, b < w.heap.size → gb ≠ some b → w'.heap[b]? = w.heap[b]? := fun b hb hg => (hF.same b hb (by rw [pureG_ne hg]; exact pure_cases x sh b)).1
  have hcell : ∀ b o u, gb ≠ some b → w.cell? (ad3 b o) = some u → b < w.heap.size ∧ w'.cell? (ad3 b o) = some u := fun b o u hg h => by
    have hlt : b < w.heap.size := by simpa using World.block_lt_of_cell? _ _ h
    exact ⟨hlt, by rw [cell_of_heap (hheap b hlt hg)]; exact h⟩
  have how : ∀ b, b < w.heap.size → gb ≠ some b → (x.backG x' w.heap.size gb res).ow b = x.ow b := fun b hb hg => by simp [Cx.backG, hb, hg]
  have hng : ∀ b, x.ow b ≠ some .res → gb ≠ some b := fun b h e => h (hgb b e)
  refine ⟨R.step [] R.size rfl rfl ?_ ?_ (fun l hl => by simp at hl) (fun k hk => by simp at hk) ?_ hF.room (fun l hl => by simp at hl) (fun d k h => ⟨h, rfl⟩) ?_ ?_ ?_ (fun b h hb => have hn := hng b (by rcases h with h | h <;> rw [h] <;> simp); ⟨how b hb hn, hheap b hb hn⟩), ?_, ?_, ?_, hF.io, hF.room, rfl⟩
  · intro b hb
    by_cases hlt : b < w.heap.size
    · exact Nat.lt_of_lt_of_le hlt hF.size
    · refine R'.bound b fun e => hb ?_
      simp [Cx.backG, hlt, e]
  · intro l _ v hv
    refine ⟨hv, fun u hu => ?_⟩
    cases l with
    | slot k => exact hu
    | cell c =>
      obtain ⟨h1, _, _⟩ := R.box c v hv
      exact (hcell _ _ _ (hng _ (by rw [h1]; simp)) hu).2
  · intro b o u h1 h2
    have hg := hng b (by rw [h1]; simp)
    obtain ⟨h3, h4⟩ := hcell b o u hg h2
    exact ⟨by rw [how b h3 hg]; exact h1, h4⟩
  · intro l0 _ b hb
    have hlt := R.bound b (by rw [hb]; simp)
    have hg := hng b (by rw [hb]; simp)
    exact ⟨by rw [how b hlt hg]; exact hb, fun o u h => (hcell b o u hg h).2⟩
  · intro c v hc
    obtain ⟨h1, h2, h3⟩ := R.box c v hc
    have hlt := R.bound _ (by rw [h1]; simp)
    have hg := hng _ (by rw [h1]; simp)
    exact ⟨by rw [show (x.backG x' w.heap.size gb res).ad = x.ad from rfl, how _ hlt hg]; exact h1, h2, by rw [show (x.backG x' w.heap.size gb res).ad = x.ad from rfl, froz_of_heap (hheap _ hlt hg)]; exact h3⟩
  · intro b hb
    by_cases hlt : b < w.heap.size ∧ gb ≠ some b
    · rw [how b hlt.1 hlt.2] at hb
      exact (R.nofz b hb).heap (hheap b hlt.1 hlt.2)
    · refine R'.nofz b ?_
      simp only [Cx.backG, if_neg hlt] at hb
      split at hb
      · rcases hb with h | ⟨_, h⟩ <;> cases h
      · rename_i e; exact .inl e
      · rcases hb with h | ⟨_, h⟩ <;> cases h
  · exact hF.size
  · intro b hb h
    have hg : gb ≠ some b := hng b (by rcases h with h | h <;> rw [h] <;> simp)
    exact ⟨hheap b hb hg, how b hb hg⟩
  · intro d k _
    rfl

theorem argD_rdF (R : Rel cfg x N s a w) {v : Value} {y : V} {d : D} {sh1 : Bool} (h : argD s y = some (d, sh1)) {l : Option Loc} (hr : RdV x s (conc x a w) w l v y) {F : Nat → Prop} (h0 : ∀ b, freeB x b → F b) (hsh : sh1 = true → ∀ b l, x.ow b = some (.at l) → F b) : Rd F w v d := by
  have hm : ∀ b o u, freeB x b → w.cell? (ad3 b o) = some u → F b ∧ w.cell? (ad3 b o) = some u := fun b o u h1 h2 => ⟨h0 b h1, h2⟩
  unfold argD at h
  split at h
  · cases h
    exact hr.d_inv.canon.mono hm
  · cases h
    exact hr.iptr_rd.mono hm
  · cases h
    have hsh := hsh rfl
    obtain ⟨l0, b, o, cap, _, e, how, hcap, A⟩ := hr.own_inv
    rw [e]
    exact (A.mono hm (fun _ _ h => h) (fun _ _ _ h => h)).rd (hsh b l0 how) rfl hcap
  · rename_i l off n
    split at h
    · rename_i z es hs
      cases h
      have hsh := hsh rfl
      obtain ⟨b, o', cap', e, how, q3, q4, A⟩ := R.bor_at hr hs
      have hlen : ((es.drop off).take n).length = n := by simp; omega
      rw [e]
      exact (A.mono hm (fun _ _ h => h) (fun _ _ _ h => h)).rd (hsh b _ how) hlen q4
    · cases h
  · cases h

theorem argsD_rdF (R : Rel cfg x N s a w) {F : Nat → Prop} (h0 : ∀ b, freeB x b → F b) : ∀ {vs : List V} {ds : List D} {sh : Bool}, argsD s vs = some (ds, sh) → (sh = true → ∀ b l, x.ow b = some (.at l) → F b) → ds.length = vs.length ∧
    ∀ (i : Nat) y d, vs[i]? = some y → ds[i]? = some d → ∀ l v, RdV x s (conc x a w) w l v y → Rd F w v d
  | [], ds, sh, h, _ => by cases h; simp
  | y :: vs, ds, sh, h, hs => by
    unfold argsD at h
    split at h
    · rename_i d s1 ds' s2 h1 h2
      cases h
      obtain ⟨g1, g2⟩ := argsD_rdF R h0 h2 (fun e => hs (by simp [e]))
      refine ⟨by simp [g1], fun i y' d' e1 e2 l v hr => ?_⟩
      cases i with
      | zero => simp at e1 e2; subst e1; subst e2; exact argD_rdF R h1 hr h0 (fun e => hs (by simp [e]))
      | succ i => exact g2 i y' d' (by simpa using e1) (by simpa using e2) l v hr
    · cases h

theorem cOpds_set : ∀ {Xs : List Operand} {is : List IOpd} {i : Nat} {X : Operand} {ix : IOpd}, cOpds Xs = some is → cOpd X = some ix → cOpds (Xs.set i X) = some (is.set i ix)
  | [], is, i, X, ix, h, _ => by cases h; rfl
  | Y :: Xs, is, i, X, ix, h, hX => by
    unfold cOpds at h
    split at h
    · rename_i iy is' h1 h2
      cases h
      cases i with
      | zero => simp [cOpds, hX, h2]
      | succ i => simp [cOpds, h1, cOpds_set (i := i) h2 hX]
    · cases h

theorem cOpds_at : ∀ {Xs : List Operand} {is : List IOpd}, cOpds Xs = some is → Xs.length = is.length ∧ ∀ (i : Nat) ix, is[i]? = some ix → ∃ X, Xs[i]? = some X ∧ cOpd X = some ix
  | [], is, h => by cases h; simp
  | Y :: Xs, is, h => by
    unfold cOpds at h
    split at h
    · rename_i iy is' h1 h2
      cases h
      obtain ⟨g1, g2⟩ := cOpds_at h2
      refine ⟨by simp [g1], fun i ix hi => ?_⟩
      cases i with
      | zero => simp at hi; subst hi; exact ⟨Y, rfl, h1⟩
      | succ i => exact g2 i ix (by simpa using hi)
    · cases h

/-- what is given -/
theorem givenV_ok (R : Rel cfg x N s a w) {X : Operand} {ix : IOpd} (hX : cOpd X = some ix) {v : V} (hv : val cfg s ix = some v) {g : List (Loc × V) × V} (hg : givenV s ix v = some g) :
    ∃ x1 gb, Rel cfg x1 N (updG s g.1) a w ∧ Fr dep x x1 w w ∧ (∀ b, gb = some b → x1.ow b = some .res) ∧
      ((∃ y, g.2 = .d y ∧ Rd (freeB x1) w (a.eval X) y) ∨ ∃ b o cap z es, g.2 = .own false z es ∧ gb = some b ∧ a.eval X = .slice (some (ad3 b o)) es.length cap ∧ es.length ≤ cap ∧ Arr (freeB x1) w b o cap z es) := by
  obtain ⟨l, hr, hl⟩ := val_rd R hX hv
  have give : ∀ {l0 : Loc} {nw : Bool} {z : Nat} {es0 es : List D} {b o cap : Nat}, s l0 = some (.own nw z es0) → x.ow b = some (.at l0) → Arr (freeB x) w b o cap z es → es.length ≤ cap → a.eval X = .slice (some (ad3 b o)) es.length cap → g = ([(l0, .junk)], .own false z es) →
      ∃ x1 gb, Rel cfg x1 N (updG s g.1) a w ∧ Fr dep x x1 w w ∧ (∀ b, gb = some b → x1.ow b = some .res) ∧
      ((∃ y, g.2 = .d y ∧ Rd (freeB x1) w (a.eval X) y) ∨ ∃ b o cap z es, g.2 = .own false z es ∧ gb = some b ∧ a.eval X = .slice (some (ad3 b o)) es.length cap ∧ es.length ≤ cap ∧ Arr (freeB x1) w b o cap z es) := by
    rintro l0 nw z es0 es b o cap h0 how hA hc he rfl
    refine ⟨x.give b (some .res), some b, R.take h0 how, Fr.give how _, (fun b' e => by cases e; simp), .inr ⟨b, o, cap, z, es, rfl, rfl, he, hc, hA.mono (fun b' o' u h1 h2 => ⟨?_, h2⟩) (fun _ _ h => h) (fun _ _ _ h => h)⟩⟩
    show (x.give b (some .res)).ow b' = none
    rw [Cx.give_ne]; · exact h1
    intro e; rw [freeB, e, how] at h1; cases h1
  unfold givenV at hg
  split at hg
  · cases hg
    exact ⟨x, none, R, .refl _ _ _, (fun b e => by cases e), .inl ⟨_, rfl, hr.d_inv⟩⟩
  · cases hg
    exact ⟨x, none, R, .refl _ _ _, (fun b e => by cases e), .inl ⟨_, rfl, hr.d_inv.canon⟩⟩
  · rename_i k nw z es
    cases hg
    obtain ⟨hl1, rfl⟩ := hl k rfl
    have h0 : s (.slot k) = some (.own nw z es) := hv
    obtain ⟨b, o, cap, h1, how, hcap, hA⟩ := R.own_at h0
    exact give h0 how hA hcap (by simpa [conc, Act.eval] using h1) rfl
  · rename_i l' off n
    split at hg
    · rename_i z es hs
      split at hg
      · rename_i hq
        cases hg
        obtain ⟨rfl, hn⟩ := hq
        obtain ⟨b, o', cap', e, how, q3, q4, A⟩ := R.bor_at hr hs
        rw [List.drop_zero] at A
        have hlen : (es.take n).length = n := by simp; omega
        exact give hs how A (by omega) (by rw [e, hlen]) rfl
      · cases hg
    · cases hg
  · cases hg

theorem sim_callG {orc : Orc} (hO : OrcOk P cfg orc) (R : Rel cfg x N s a w) {o : Oper} {k : Nat} (hd : o.dst = some k) (hk : k < N) {c : Call} (ho : o.op = .call c) {f : FuncId} (hcal : c.callee = .value (.func f)) {args : List IOpd} (his : cOpds c.args.toList = some args)
    {own : Bool} {i : Nat} {u : List (Loc × V)} (hu : callG cfg orc s o.dst own f args i = some u) : Walks P cfg x N dep (updG s u) a w o := by
  have hrun : (execOp a.eval o).run P w = (callFunc f (c.args.map a.eval)).run P w := by
    have e : a.eval (.func f) = .func (.func f) #[] #[] := rfl
    simp [execOp, ho, resolve, hcal, e, Deferred.ofValue, invoke]
  unfold callG at hu
  simp only [Option.bind_eq_some_iff, Option.map_eq_some_iff] at hu
  obtain ⟨ix, hix, v, hv, g, hg, vs, hvs, ⟨ds, sh⟩, hds, ⟨r, m⟩, hor, u', hl, rfl⟩ := hu
  obtain ⟨hlen, hat⟩ := cOpds_at his
  obtain ⟨X, hX, hcX⟩ := hat i ix hix
  obtain ⟨x1, gb, R1, F1, hgb, hgv⟩ := givenV_ok (dep := dep) R hcX hv hg
  have hset := cOpds_set (i := i) (X := .const (.slice none 0 0)) (ix := .c .nilS) his rfl
  obtain ⟨n1, n2⟩ := vals_rd R1 hset hvs
  have hfr : ∀ b, freeB x1 b → freeB (x1.pureG sh gb) b := fun b h => pureG_none hgb h
  obtain ⟨g1, g2⟩ := argsD_rdF R1 (F := freeB (x1.pureG sh gb)) hfr hds (fun e b l h => by
    show (x1.pureG sh gb).ow b = none
    rw [pureG_ne (fun e' => by rw [hgb b e'] at h; cases h)]
    simp [Cx.pure, e])
  have hn : c.args.toList.length = vs.length := by simpa using n1
  have hE : Enters cfg (x1.pureG sh gb) ((ds.map V.d).set i g.2) [] (c.args.map a.eval) w := by
    refine ⟨R1.enterPureG sh hgb, by simp; simp at hn; omega, fun j v' y h1 h2 => ?_⟩
    have h1' : (c.args.toList.map a.eval)[j]? = some v' := by rw [← Array.toList_map, Array.getElem?_toList]; exact h1
    rw [List.getElem?_map] at h1'
    rw [List.getElem?_set] at h2
    by_cases hj : i = j
    · subst hj
      rw [if_pos rfl] at h2
      rw [hX] at h1'
      cases h1'
      have hy : y = g.2 := by
        split at h2
        · cases h2; rfl
        · cases h2
      subst hy
      rcases hgv with ⟨y, e, he⟩ | ⟨b, o', cap, z, es, e, rfl, he, hc, hA⟩
      · rw [e]; exact RdV.d _ _ _ (he.mono fun b o u h1 h2 => ⟨hfr b h1, h2⟩)
      · rw [e, he]
        exact ⟨b, o', cap, rfl, pureG_eq, hc, hA.mono (fun b o u h1 h2 => ⟨hfr b h1, h2⟩) (fun _ _ h => h) (fun _ _ _ h => h)⟩
    · rw [if_neg hj, List.getElem?_map] at h2
      cases hd' : ds[j]? with
      | none => rw [hd'] at h2; cases h2
      | some d =>
        rw [hd'] at h2
        cases h2
        have hlt : j < vs.length := by rw [← g1]; exact (List.getElem?_eq_some_iff.1 hd').1
        cases hXj : c.args.toList[j]? with
        | none => rw [hXj] at h1'; cases h1'
        | some Xj =>
          rw [hXj] at h1'
          cases h1'
          obtain ⟨l, hr⟩ := n2 j Xj _ (by rw [List.getElem?_set_ne hj]; exact hXj) (List.getElem?_eq_getElem hlt)
          exact RdV.d _ _ _ (g2 j _ d (List.getElem?_eq_getElem hlt) hd' l _ hr)
  have hdoes := hO f 0 _ [] r m hor _ w _ hE
  have hback : ∀ (x' : Cx) w' res, Fr 0 (x1.pureG sh gb) x' w w' → ∀ b, x'.ow b = some .res → (x1.backG x' w.heap.size gb res).ow b = res := fun x' w' res F b hb => by
    simp only [Cx.backG]
    split
    · rename_i hlt
      have h3 := (F.same b hlt.1 (by rw [pureG_ne hlt.2]; exact pure_cases x1 sh b)).2
      rw [pureG_ne hlt.2] at h3
      rcases pure_cases x1 sh b with h | h <;> rw [hb, h] at h3 <;> cases h3
    · rw [hb]
  have hfree : ∀ (x' : Cx) w' res, Fr 0 (x1.pureG sh gb) x' w w' → sh = false → ∀ b o u, freeB x' b → w'.cell? (ad3 b o) = some u → freeB (x1.backG x' w.heap.size gb res) b ∧ w'.cell? (ad3 b o) = some u := by
    intro x' w' res F hsh b o u h1 h2
    refine ⟨?_, h2⟩
    subst hsh
    have h1' : x'.ow b = none := h1
    simp only [freeB, Cx.backG]
    split
    · rename_i hlt
      have h3 := (F.same b hlt.1 (by rw [pureG_ne hlt.2]; exact pure_cases x1 false b)).2
      rw [h1', pureG_ne hlt.2] at h3
      cases hx : x1.ow b with
      | none => rfl
      | some o => simp [Cx.pure, hx] at h3
    · rw [h1']
  rw [updG_append]
  dsimp only at hl
  unfold landed at hl
  split at hl
  · rename_i y
    split at hl
    · cases hl
    · rename_i hq
      cases hl
      refine hdoes.walks hrun (fun v w' hex => ?_)
      obtain ⟨x', L⟩ := hex
      rw [hd]
      obtain ⟨R2, F2⟩ := R1.backPureG (dep := dep) hgb L.fr L.rel none
      have hr : Rd (freeB x') w' v y := RdV.d_inv L.res
      have hr2 : Rd (freeB (x1.backG x' w.heap.size gb none)) w' v y := by
        cases hsh : sh with
        | false => exact hr.mono (hfree x' w' none L.fr hsh)
        | true =>
          rw [hsh] at hq
          simp at hq
          exact hr.plain hq
      exact ⟨_, R2.put hk rfl (l := none) (.d _ _ _ (by split; exact hr2; exact hr2.canon)), F1.trans F2⟩
  · rename_i nw z es
    split at hl
    · cases hl
    · rename_i hq
      cases hl
      refine hdoes.walks hrun (fun v w' hex => ?_)
      obtain ⟨x', L⟩ := hex
      rw [hd]
      obtain ⟨b, of, cap, rfl, q2, q3, A⟩ : ∃ b o cap, v = .slice (some (ad3 b o)) es.length cap ∧ x'.ow b = some .res ∧ es.length ≤ cap ∧ Arr (freeB x') w' b o cap z es := L.res
      have hA : ∀ res, Arr (freeB (x1.backG x' w.heap.size gb res)) w' b of cap z es := fun res => by
        cases hsh : sh with
        | false => exact A.mono (hfree x' w' res L.fr hsh) (fun _ _ h => h) (fun _ _ _ h => h)
        | true =>
          rw [hsh] at hq
          simp only [Bool.true_and, Bool.not_eq_true', Bool.not_eq_false] at hq
          refine ⟨A.pos, A.room, A.wid, A.cel, fun i e he j c hc => ?_⟩
          obtain ⟨v, h1, h2⟩ := A.els i e he j c hc
          exact ⟨v, h1, h2.plain (plain_cell (plains_mem hq (List.mem_of_getElem? he)) (List.mem_of_getElem? hc))⟩
      cases own
      · obtain ⟨R2, F2⟩ := R1.backPureG (dep := dep) hgb L.fr L.rel none
        exact ⟨_, R2.put hk rfl (l := none) (.d _ _ _ ((hA none).rd (hback x' w' none L.fr b q2) rfl q3)), F1.trans F2⟩
      · obtain ⟨R2, F2⟩ := R1.backPureG (dep := dep) hgb L.fr L.rel (some .res)
        have how := hback x' w' (some .res) L.fr b q2
        exact ⟨_, R2.place hk how (hA _) rfl q3, (F1.trans F2).trans (Fr.giveRes how _)⟩
  · cases hl

/-- a call by name -/
theorem call_of {own0 own : Bool} {f : FuncId} {args : List IOpd} {op : Op} (hop' : cOp P own0 op = some (.call own f args)) : ∃ c, op = .call c ∧ c.callee = .value (.func f) ∧ cOpds c.args.toList = some args := by
  cases op with
  | call c =>
    simp only [cOp] at hop'
    split at hop'
    · rename_i is his
      cases hcal : c.callee with
      | value X =>
        rw [hcal] at hop'
        cases X with
        | func f0 =>
          simp only [Option.some.injEq, IOp.call.injEq] at hop'
          obtain ⟨_, rfl, rfl⟩ := hop'
          exact ⟨c, rfl, hcal, his⟩
        | _ =>
          simp only [Option.map_eq_some_iff] at hop'
          obtain ⟨_, _, h⟩ := hop'
          cases h
      | invoke r m =>
        rw [hcal] at hop'
        simp only [Option.map_eq_some_iff] at hop'
        obtain ⟨_, _, h⟩ := hop'
        cases h
      | builtin b =>
        exfalso
        rw [hcal] at hop'
        have hop2 : cBuiltin P b is c.argTypes.toList = some (.call own f args) := hop'
        unfold cBuiltin at hop2
        repeat' split at hop2
        all_goals (cases hop2; done)
    · cases hop'
  | makeFunc f0 A B =>
    exfalso
    cases f0 with
    | func f1 =>
      simp only [cOp] at hop'
      split at hop' <;> cases hop'
    | _ => simp [cOp] at hop'
  | _ =>
    exfalso
    simp only [cOp] at hop'
    repeat' split at hop'
    all_goals first | (cases hop'; done) | (simp only [Option.map_eq_some_iff] at hop'; obtain ⟨_, _, h⟩ := hop'; cases h)

/-- the compiler makes no call that is given an array, but for the advice -/
theorem cOp_noG {own0 own : Bool} {f : FuncId} {args : List IOpd} {i : Nat} {op : Op} (hop' : cOp P own0 op = some (.callg own f args i)) : False := by
  cases op with
  | call c =>
    simp only [cOp] at hop'
    split at hop'
    · rename_i is his
      cases hcal : c.callee with
      | value X =>
        rw [hcal] at hop'
        cases X with
        | func f0 => cases hop'
        | _ =>
          simp only [Option.map_eq_some_iff] at hop'
          obtain ⟨_, _, h⟩ := hop'
          cases h
      | invoke r m =>
        rw [hcal] at hop'
        simp only [Option.map_eq_some_iff] at hop'
        obtain ⟨_, _, h⟩ := hop'
        cases h
      | builtin b =>
        rw [hcal] at hop'
        have hop2 : cBuiltin P b is c.argTypes.toList = some (.callg own f args i) := hop'
        unfold cBuiltin at hop2
        repeat' split at hop2
        all_goals (cases hop2; done)
    · cases hop'
  | makeFunc f0 A B =>
    cases f0 with
    | func f1 =>
      simp only [cOp] at hop'
      split at hop' <;> cases hop'
    | _ => simp [cOp] at hop'
  | _ =>
    simp only [cOp] at hop'
    repeat' split at hop'
    all_goals first | (cases hop'; done) | (simp only [Option.map_eq_some_iff] at hop'; obtain ⟨_, _, h⟩ := hop'; cases h)

theorem gOp_else {g : Option Nat} {X io : IOp} (h : gOp g X = io) (hn : ∀ own f args i, io ≠ .callg own f args i) : X = io := by
  unfold gOp at h
  split at h
  · exact absurd h.symm (hn _ _ _ _)
  · exact h
theorem gOp_g {g : Option Nat} {own0 : Bool} {op : Op} {own : Bool} {f : FuncId} {args : List IOpd} {i : Nat} (h : gOp g ((cOp P own0 op).getD .bad) = .callg own f args i) : cOp P own0 op = some (.call own f args) := by
  cases hq : cOp P own0 op with
  | none =>
    rw [hq] at h
    simp [gOp] at h
  | some X =>
    rw [hq] at h
    simp only [Option.getD_some] at h
    unfold gOp at h
    split at h
    · cases h; rfl
    · subst h; exact (cOp_noG hq).elim

end
end Go.Ev

/-! EvZb -/
/- Steps with guards; regions in their order. Own work. -/
namespace Go.Ev
open Go

section
variable {P : Program} {cfg : Cfg} {x : Cx} {N dep : Nat} {s : Get} {a : Act} {w : World}

theorem Arr.less {F : Nat → Prop} {b o cap cap' z : Nat} {es : List D} (A : Arr F w b o cap z es) (h : cap' ≤ cap) : Arr F w b o cap' z es :=
  ⟨A.pos, fun j hj => A.room j (Nat.lt_of_lt_of_le hj (Nat.mul_le_mul_right z h)), A.wid, A.cel, A.els⟩

theorem evMv_other (dst : Option Nat) (p : IOpd) {y : V} (h : y.isOwn = false) : evMv dst p y = some (put1 dst y) := by
  cases y with
  | own nw z es => simp [V.isOwn] at h
  | _ => cases p <;> rfl

/-- a slice handed back with no more room than it is long -/
theorem sim_clip (hC : ClipOk P cfg) (R : Rel cfg x N s a w) {o : Oper} {f : FuncId} (hf : cfg.clip f = true) {k : Nat} (hd : o.dst = some k) (hk : k < N) {c : Call} (hcal : c.callee = .value (.func f)) (ho : o.op = .call c) {p : IOpd} (hargs : cOpds c.args.toList = some [p])
    {y : V} (hy : val cfg s p = some y) {u : List (Loc × V)} (hu : evClip (some k) p y = some u) : Walks P cfg x N dep (updG s u) a w o := by
  obtain ⟨X, hXl, hX⟩ := mk1 (X := .tmp 0) hargs
  obtain ⟨l, hr, hl⟩ := val_rd R hX hy
  have hA : c.args.map a.eval = #[a.eval X] := by
    have : c.args = #[X] := by apply Array.ext'; simpa using hXl
    rw [this]; simp
  have hrun : (execOp a.eval o).run P w = (callFunc f #[a.eval X]).run P w := by
    have e : a.eval (.func f) = .func (.func f) #[] #[] := rfl
    simp [execOp, ho, resolve, hcal, e, hA, Deferred.ofValue, invoke]
  have go : ∀ ad len cap, a.eval X = .slice ad len cap → len ≤ cap → (∃ x', Rel cfg x' N (updG s u) (a.put o.dst (.slice ad len len)) w ∧ Fr dep x x' w w) → Walks P cfg x N dep (updG s u) a w o := by
    intro ad len cap he hle hx
    rw [he] at hrun
    refine (hC f hf ad len cap w hle).walks hrun (fun v w' h => ?_)
    obtain ⟨rfl, rfl⟩ := h
    exact hx
  unfold evClip at hu
  split at hu
  · -- nil
    obtain ⟨ad, e⟩ := hr.d_inv.nilS_inv
    refine go ad 0 0 e (Nat.le_refl _) ⟨x, ?_, .refl _ _ _⟩
    rw [hd]
    rw [evMv_other _ _ rfl] at hu
    cases hu
    exact R.put hk rfl (l := none) (.d _ _ _ (.nilS ad))
  · -- data
    rename_i es
    have hrd := hr.d_inv
    generalize hev : a.eval X = v at hrd
    cases hrd with
    | slA ad cap =>
      refine go ad 0 cap hev (Nat.zero_le _) ⟨x, ?_, .refl _ _ _⟩
      rw [hd]
      rw [evMv_other _ _ rfl] at hu
      cases hu
      exact R.put hk rfl (l := none) (.d _ _ _ (.slA _ _))
    | sl b of len cap z _ vs hlen hcap hz hc hm h =>
    refine go _ _ _ hev hcap ⟨x, ?_, .refl _ _ _⟩
    rw [hd]
    have hput : u = put1 (some k) (.d (.sl es)) := by
      rw [evMv_other _ _ rfl] at hu
      cases hu; rfl
    rw [hput]
    exact R.put hk rfl (l := none) (.d _ _ _ (.sl b of len len z es vs hlen (Nat.le_refl _) hz hc hm h))
  · -- own
    rename_i nw z es
    have hslot : ∃ j, p = .t j := by
      cases p with
      | t j => exact ⟨j, rfl⟩
      | c d => simp [val] at hy
      | g n => simp [val] at hy
    obtain ⟨j, rfl⟩ := hslot
    obtain ⟨hl1, rfl⟩ := hl j rfl
    have he : s (.slot j) = some (.own nw z es) := hy
    obtain ⟨b, o', cap, g1, g2, g3, g4⟩ := R.own_at he
    have hv : a.eval (.tmp j) = .slice (some (ad3 b o')) es.length cap := by simpa [conc, Act.eval] using g1
    have g4' := g4.less g3
    cases nw
    · have hput : u = put1 (some k) (.bor (.slot j) 0 es.length) := by simpa [evMv] using hu.symm
      refine go _ _ _ hv g3 ⟨x, ?_, .refl _ _ _⟩
      rw [hd, hput]
      refine R.put hk rfl (l := none) (.bor _ _ _ _ _ _ _ (Nat.le_refl _) fun z' es' hs => ?_)
      rw [he] at hs
      cases hs
      exact ⟨o', _, cap, g1, by omega, .inr (by omega), g4'.room⟩
    · have hput : u = put1 (some k) (.own true z es) ++ [(.slot j, .junk)] := by simpa [evMv] using hu.symm
      refine go _ _ _ hv g3 ⟨x.give b (some (.at (.slot k))), ?_, Fr.give g2 _⟩
      rw [hd, hput]
      exact R.handAny hk he g2 g4' rfl (Nat.le_refl _)
  · -- borrowed
    rename_i l' off n
    have hput : u = put1 (some k) (.bor l' off n) := by
      rw [evMv_other _ _ rfl] at hu
      cases hu; rfl
    generalize hev : a.eval X = v at hr
    cases hr with
    | bor _ _ _ _ b o' cap' hcap h =>
    refine go _ _ _ hev hcap ⟨x, ?_, .refl _ _ _⟩
    rw [hd, hput]
    refine R.put hk rfl (l := none) (.bor _ _ _ _ _ _ _ (Nat.le_refl _) fun z es hs => ?_)
    obtain ⟨o, L, C, h1, h2, h3, h4⟩ := h z es hs
    refine ⟨o, L, C, h1, h2, ?_, fun j hj => h4 j (Nat.lt_of_lt_of_le hj (Nat.mul_le_mul_right z hcap))⟩
    rcases h3 with h3 | h3
    · exact .inl ⟨h3.1, h3.1⟩
    · exact .inr h3
  · cases hu

/-- the compiled operation -/
structure COper (P : Program) (N : Nat) (ops : Array Oper) (o : Oper) (io : IOper) : Prop where
  dst : io.dst = o.dst
  lt : ∀ k, o.dst = some k → k < N
  op : ∃ own g, gOp g ((cOp P own o.op).getD .bad) = io.op
  guard : match o.guard with
    | none => io.guard = none
    | some (j, b) => ∃ k, (ops[j]?).bind (·.dst) = some k ∧ io.guard = some (k, b)

theorem guard_wanted (R : Rel cfg x N s a w) {ops : Array Oper} {o : Oper} {io : IOper} (hc : COper P N ops o io) {t : Bool} (hg : guardOk s io.guard = some t) : Region.wanted o (yielded ops a.tmps) = t := by
  have h := hc.guard
  unfold Region.wanted
  cases hog : o.guard with
  | none =>
    rw [hog] at h
    simp only at h
    rw [h] at hg
    cases hg
    rfl
  | some jb =>
    obtain ⟨j, b⟩ := jb
    rw [hog] at h
    simp only at h ⊢
    obtain ⟨k, h1, h2⟩ := h
    rw [h2] at hg
    unfold guardOk at hg
    simp only at hg
    split at hg
    · rename_i c hs
      cases hg
      obtain ⟨u, hu, hr⟩ := R.locs _ _ hs
      have e := hr.d_inv.bool_inv
      subst e
      have hk := R.slotN _ _ hs
      have hget : a.tmps[k]? = some (.bool c) := by
        have : a.tmps.getD k undef = .bool c := by simpa [conc] using hu
        rw [Array.getD_eq_getD_getElem?] at this
        rw [← R.size] at hk
        rw [Array.getElem?_eq_getElem hk] at this ⊢
        exact congrArg some this
      simp only [yielded, h1, Option.bind_some, hget]
      cases c <;> cases b <;> rfl
    · rename_i hs
      cases hg
      obtain ⟨u, hu, hr⟩ := R.locs _ _ hs
      have hk := R.slotN _ _ hs
      have hr' := hr.d_inv
      cases hr' with
      | tup vs cs hl h =>
      have hget : a.tmps[k]? = some (.tuple vs.toArray) := by
        have : a.tmps.getD k undef = .tuple vs.toArray := by simpa [conc] using hu
        rw [Array.getD_eq_getD_getElem?] at this
        rw [← R.size] at hk
        rw [Array.getElem?_eq_getElem hk] at this ⊢
        exact congrArg some this
      simp only [yielded, h1, Option.bind_some, hget]
      rfl
    · cases hg

theorem undef_rd (F : Nat → Prop) (w : World) : Rd F w undef (.tup []) := by
  have := Rd.tup (F := F) (w := w) [] [] rfl (fun i v c h => by simp at h)
  exact this

theorem giveL_mem {s : Get} : ∀ {l : List IOpd} {p : Loc × V}, p ∈ giveL s l → ∃ k nw z es, IOpd.t k ∈ l ∧ s p.1 = some (.own nw z es) ∧ p.2 = .d (.sl es) ∧ (p.1 = .slot k ∨ ∃ o n, s (.slot k) = some (.bor p.1 o n))
  | [], p, h => by cases h
  | .c _ :: r, p, h => by
    obtain ⟨k, nw, z, es, h4, h⟩ := giveL_mem (l := r) h
    exact ⟨k, nw, z, es, List.mem_cons_of_mem _ h4, h⟩
  | .g _ :: r, p, h => by
    obtain ⟨k, nw, z, es, h4, h⟩ := giveL_mem (l := r) h
    exact ⟨k, nw, z, es, List.mem_cons_of_mem _ h4, h⟩
  | .t k :: r, p, h => by
    have more : p ∈ giveL s r → ∃ k' nw z es, IOpd.t k' ∈ .t k :: r ∧ s p.1 = some (.own nw z es) ∧ p.2 = .d (.sl es) ∧ (p.1 = .slot k' ∨ ∃ o n, s (.slot k') = some (.bor p.1 o n)) := fun h => by
      obtain ⟨k, nw, z, es, h4, h⟩ := giveL_mem (l := r) h
      exact ⟨k, nw, z, es, List.mem_cons_of_mem _ h4, h⟩
    unfold giveL at h
    split at h
    · rename_i nw z es hk
      rcases List.mem_cons.1 h with e | h
      · subst e
        exact ⟨k, nw, z, es, List.mem_cons_self, hk, rfl, .inl rfl⟩
      · exact more h
    · rename_i l o n hk
      split at h
      · rename_i z es hl
        rcases List.mem_cons.1 h with e | h
        · subst e
          exact ⟨k, false, z, es, List.mem_cons_self, hl, rfl, .inr ⟨o, n, hk⟩⟩
        · exact more h
      · exact more h
    · exact more h

theorem giveP_mem {s : Get} : ∀ {l : List IOpd} {p : Loc × V}, p ∈ giveP s l → ∃ k l' o n z es, IOpd.t k ∈ l ∧ p = (.slot k, .d (.sl ((es.drop o).take n))) ∧ s (.slot k) = some (.bor l' o n) ∧ s l' = some (.own false z es) ∧ (l', V.d (.sl es)) ∈ giveL s l
  | [], p, h => by cases h
  | .c _ :: r, p, h => by
    obtain ⟨k, l', o, n, z, es, h4, h⟩ := giveP_mem (l := r) h
    exact ⟨k, l', o, n, z, es, List.mem_cons_of_mem _ h4, h⟩
  | .g _ :: r, p, h => by
    obtain ⟨k, l', o, n, z, es, h4, h⟩ := giveP_mem (l := r) h
    exact ⟨k, l', o, n, z, es, List.mem_cons_of_mem _ h4, h⟩
  | .t k :: r, p, h => by
    have sup : ∀ q, q ∈ giveL s r → q ∈ giveL s (.t k :: r) := fun q hq => by
      unfold giveL
      split
      · exact List.mem_cons_of_mem _ hq
      · split
        · exact List.mem_cons_of_mem _ hq
        · exact hq
      · exact hq
    have more : p ∈ giveP s r → ∃ k' l' o n z es, IOpd.t k' ∈ .t k :: r ∧ p = (.slot k', .d (.sl ((es.drop o).take n))) ∧ s (.slot k') = some (.bor l' o n) ∧ s l' = some (.own false z es) ∧ (l', V.d (.sl es)) ∈ giveL s (.t k :: r) := fun h => by
      obtain ⟨k, l', o, n, z, es, h4, h1, h2, h3, h5⟩ := giveP_mem (l := r) h
      exact ⟨k, l', o, n, z, es, List.mem_cons_of_mem _ h4, h1, h2, h3, sup _ h5⟩
    unfold giveP at h
    split at h
    · rename_i l o n hk
      split at h
      · rename_i z es hl
        rcases List.mem_cons.1 h with e | h
        · exact ⟨k, l, o, n, z, es, List.mem_cons_self, e, hk, hl, by unfold giveL; rw [hk]; simp only [hl]; exact List.mem_cons_self⟩
        · exact more h
      · exact more h
    · exact more h

theorem Rel.givesL : ∀ (u : List (Loc × V)) {s : Get} {x : Cx}, Rel cfg x N s a w → (∀ p ∈ u, ∃ es, p.2 = .d (.sl es) ∧ (s p.1 = some (.d (.sl es)) ∨ ∃ nw z, s p.1 = some (.own nw z es))) → ∃ x', Rel cfg x' N (updG s u) a w ∧ Fr dep x x' w w ∧
    (∀ b, x.ow b = none → x'.ow b = none) ∧ x'.ad = x.ad ∧ (∀ p ∈ u, (∃ nw z es, s p.1 = some (.own nw z es)) → ∀ b o L C, conc x a w p.1 = some (.slice (some (ad3 b o)) L C) → x'.ow b = none)
  | [], s, x, R, _ => ⟨x, R, .refl _ _ _, fun _ h => h, rfl, fun _ h => by cases h⟩
  | (l, v) :: u, s, x, R, h => by
    obtain ⟨es, hv, hl⟩ := h (l, v) List.mem_cons_self
    simp only at hv hl
    subst hv
    have hrest2 : ∀ p ∈ u, ∃ es', p.2 = .d (.sl es') ∧ (updG s [(l, .d (.sl es))] p.1 = some (.d (.sl es')) ∨ ∃ nw z, updG s [(l, .d (.sl es))] p.1 = some (.own nw z es')) := fun p hp => by
      obtain ⟨es', h1, h2⟩ := h p (List.mem_cons_of_mem _ hp)
      refine ⟨es', h1, ?_⟩
      by_cases e : p.1 = l
      · rw [updG_one, if_pos e]
        rw [e] at h2
        have : es' = es := by
          rcases hl with hl | ⟨nw, z, hl⟩ <;> rcases h2 with h2 | ⟨nw', z', h2⟩ <;> rw [hl] at h2 <;> cases h2 <;> rfl
        rw [this]
        exact .inl rfl
      · rw [updG_one, if_neg e]
        exact h2
    rcases hl with hl | ⟨nw, z, hl⟩
    · have R1 : Rel cfg x N (updG s [(l, .d (.sl es))]) a w := R.congr fun l' => by
        rw [updG_one]
        split
        · rename_i e; rw [e, hl]
        · rfl
      obtain ⟨x2, R2, F2, g1, g2, g3⟩ := Rel.givesL u R1 hrest2
      refine ⟨x2, R2, F2, g1, g2, fun p hp hown => ?_⟩
      have hpl : p.1 ≠ l := fun e => by obtain ⟨_, _, _, h1⟩ := hown; rw [e, hl] at h1; cases h1
      rcases List.mem_cons.1 hp with rfl | hp
      · exact absurd rfl hpl
      · exact g3 p hp (by rw [updG_one, if_neg hpl]; exact hown)
    · obtain ⟨b, h1, ⟨o0, L0, C0, hb0⟩, R1⟩ := R.release hl
      obtain ⟨x2, R2, F2, g1, g2, g3⟩ := Rel.givesL u R1 hrest2
      have hnone : ∀ b', x.ow b' = none → (x.give b none).ow b' = none := fun b' hb' => by
        by_cases e : b' = b
        · subst e; exact Cx.give_same _ _ _
        · rw [Cx.give_ne _ _ e]; exact hb'
      have hcc : conc (x.give b none) a w = conc x a w := by funext q; cases q <;> rfl
      refine ⟨x2, R2, (Fr.give h1 _).trans F2, fun b' hb' => g1 b' (hnone b' hb'), g2, fun p hp hown b' o L C hcv => ?_⟩
      by_cases hpl : p.1 = l
      · rw [hpl, hb0] at hcv
        cases hcv
        exact g1 _ (Cx.give_same _ _ _)
      · rcases List.mem_cons.1 hp with rfl | hp
        · exact absurd rfl hpl
        · exact g3 p hp (by rw [updG_one, if_neg hpl]; exact hown) b' o L C (by rw [hcc]; exact hcv)

/-- a slot read otherwise -/
theorem Rel.reread {s : Get} (R : Rel cfg x N s a w) {k : Nat} (hk : k < N) {y : D} (hy : Rd (freeB x) w (a.tmps.getD k undef) y) : Rel cfg x N (updG s [(.slot k, .d y)]) a w := by
  have := R.put hk (v := a.tmps.getD k undef) (y := .d y) rfl (l := none) (.d _ _ _ hy)
  have e : a.put (some k) (a.tmps.getD k undef) = a := by
    simp only [Act.put]
    congr 1
    rw [Array.getD_eq_getD_getElem?]
    apply Array.ext_getElem?
    intro i
    by_cases h : k = i
    · subst h
      by_cases hlt : k < a.tmps.size
      · simp [hlt]
      · simp [hlt]
    · simp [Array.getElem?_setIfInBounds, h]
  rwa [e] at this

theorem Rel.givesP : ∀ (u : List (Loc × V)) {s : Get}, Rel cfg x N s a w → (∀ p ∈ u, ∃ k y, p = (.slot k, .d y) ∧ k < N ∧ Rd (freeB x) w (a.tmps.getD k undef) y) → Rel cfg x N (updG s u) a w
  | [], s, R, _ => R
  | p :: u, s, R, h => by
    obtain ⟨k, y, rfl, hk, hy⟩ := h p List.mem_cons_self
    exact Rel.givesP u (R.reread hk hy) (fun p hp => h p (List.mem_cons_of_mem _ hp))

theorem Rel.givesUp {s : Get} {x : Cx} (R : Rel cfg x N s a w) (l : List IOpd) : ∃ x', Rel cfg x' N (updG s (giveUp s l)) a w ∧ Fr dep x x' w w := by
  obtain ⟨x1, R1, F1, g1, g2, g3⟩ := Rel.givesL (dep := dep) (giveL s l) R fun p hp => by
    obtain ⟨k, nw, z, es, _, h1, h2, _⟩ := giveL_mem hp
    exact ⟨es, h2, .inr ⟨nw, z, h1⟩⟩
  refine ⟨x1, ?_, F1⟩
  unfold giveUp
  rw [updG_append]
  refine Rel.givesP _ R1 fun p hp => ?_
  obtain ⟨k, l', o, n, z, es, _, rfl, h1, h2, h3⟩ := giveP_mem hp
  obtain ⟨u, hu, hr⟩ := R.locs _ _ h1
  simp only [conc, Option.some.injEq] at hu
  subst hu
  obtain ⟨b, o', cap', hv, ⟨o2, L2, C2, hcv⟩, hle, hcap, hA⟩ := R.bor_at' hr h2
  have hb1 := g3 (l', V.d (.sl es)) h3 ⟨false, z, es, h2⟩ b o2 L2 C2 hcv
  refine ⟨k, _, rfl, R.slotN _ _ h1, ?_⟩
  rw [hv]
  exact (hA.mono (fun b o u h1 h2 => ⟨g1 b h1, h2⟩) (fun _ _ h => h) (fun _ _ _ h => h)).rd hb1 (by simp; omega) hcap

theorem sim_opD (hI : IntTyOk P cfg) (R : Rel cfg x N s a w) {o : Oper} {own : Bool} {io : IOp} (hop : cOp P own o.op = some io) (hk : ∀ k, o.dst = some k → k < N) (hds : o.dst = none → io.isStore = true)
    {u : List (Loc × V)} (hu : evOpD cfg dep s o.dst io = some u) : Goes P cfg x N dep (updG s u) a w o := by
  unfold evOpD at hu
  split at hu
  · rw [Option.map_eq_some_iff] at hu
    obtain ⟨u1, h1, h2⟩ := hu
    subst h2
    obtain ⟨x1, R1, F1⟩ := R.givesUp (dep := dep) (upds io)
    obtain ⟨v, w', x', g1, g2, g3⟩ := sim_op hI R1 hop hk hds h1
    rw [updG_append]
    exact ⟨v, w', x', g1, g2, F1.trans g3⟩
  · exact sim_op hI R hop hk hds hu

theorem sim_stepU {orc : Orc} (hC : CfgOk P cfg) (hO : OrcOk P cfg orc) (R : Rel cfg x N s a w) {ops : Array Oper} {o : Oper} {io : IOper} (hc : COper P N ops o io) (hg : guardOk s io.guard = some true) {u : List (Loc × V)} (hu : stepU cfg orc dep s io = some u) :
    Walks P cfg x N dep (updG s u) a w o := by
  unfold stepU at hu
  rw [hg] at hu
  simp only at hu
  obtain ⟨own0, gv, hop⟩ := hc.op
  have hopS : io.op ≠ .bad → (∀ own f args i, io.op ≠ .callg own f args i) → cOp P own0 o.op = some io.op := fun h hg' => by
    have hop := gOp_else hop hg'
    cases hq : cOp P own0 o.op with
    | none => rw [hq] at hop; exact absurd hop.symm h
    | some q => rw [hq] at hop; exact congrArg some hop
  split at hu
  · cases hu
  · rename_i hds
    split at hu
    · rename_i hcall
      have hop' := hopS (fun e => by rw [e] at hcall; simp [isCallOp] at hcall) (fun _ _ _ _ e => by rw [e] at hcall; simp [isCallOp] at hcall)
      have hst : io.op.isStore = false := by cases h : io.op <;> rw [h] at hcall <;> first | rfl | simp [isCallOp] at hcall
      have hd : ∃ k, o.dst = some k := by
        rw [hst, hc.dst] at hds
        cases h : o.dst with
        | none => simp [h] at hds
        | some k => exact ⟨k, rfl⟩
      obtain ⟨k, hd⟩ := hd
      have hk := hc.lt k hd
      split at hu
      · rename_i p hclip
        simp only [Option.bind_eq_some_iff] at hu
        obtain ⟨y, hy, hu⟩ := hu
        unfold clipArg at hclip
        split at hclip
        · rename_i own f p' hio
          split at hclip
          · rename_i hf
            cases hclip
            rw [hio] at hop'
            -- a call by name
            obtain ⟨c, ho, hcal, his⟩ := call_of hop'
            rw [hc.dst, hd] at hu
            exact sim_clip hC.clip R hf hd hk hcal ho his hy hu
          · cases hclip
        · cases hclip
      · split at hu
        · rename_i own f vs ht
          obtain ⟨args, h1, h2⟩ := target_run hC.meth R hop' hcall ht
          rw [hc.dst] at hu
          split at hu
          · rename_i u' hcu
            cases hu
            exact sim_callU hO R hd hk h1 (by simpa using h2.1) (fun i v y e1 e2 => h2.2 i v y (by simpa using e1) e2) hcu
          · unfold callR at hu
            split at hu
            · rename_i own' f' args' hio
              have hu : callT cfg orc s o.dst own' f' args' = some u := by
                split at hu
                · split at hu
                  · exact hu
                  · cases hu
                · cases hu
              unfold callT at hu
              simp only [Option.bind_eq_some_iff, Option.map_eq_some_iff] at hu
              obtain ⟨vs', hvs', u', hu', rfl⟩ := hu
              obtain ⟨x', R', F'⟩ := R.givesUp (dep := dep) args'
              have ht' : target cfg (updG s (giveUp s args')) io.op = some (own', f', vs') := by rw [hio]; simp only [target, hvs', Option.map_some]
              obtain ⟨args2, k1, k2⟩ := target_run hC.meth R' hop' hcall ht'
              rw [updG_append]
              exact (sim_callU hO R' hd hk k1 (by simpa using k2.1) (fun i v y e1 e2 => k2.2 i v y (by simpa using e1) e2) hu').pre F'
            · cases hu
        · cases hu
    · unfold evOpG at hu
      split at hu
      · rename_i own f args i hio
        rw [hio] at hop
        obtain ⟨c, ho, hcal, his⟩ := call_of (gOp_g hop)
        rw [hc.dst] at hu hds
        rw [hio] at hds
        have hd : ∃ k, o.dst = some k := by
          cases h : o.dst with
          | none => simp [h, IOp.isStore] at hds
          | some k => exact ⟨k, rfl⟩
        obtain ⟨k, hd⟩ := hd
        exact sim_callG hO R hd (hc.lt k hd) ho hcal his hu
      · rename_i hng
        by_cases hbad : io.op = .bad
        · rw [hbad] at hu; cases hu
        · rw [hc.dst] at hu hds
          refine (sim_opD hC.intTy R (hopS hbad hng) hc.lt (fun h => ?_) hu).walks
          rw [h] at hds
          simpa using hds

theorem sim_stepM {orc : Orc} (hC : CfgOk P cfg) (hO : OrcOk P cfg orc) {st st' : St} (R : Rel cfg x N st.get a w) {ops : Array Oper} {o : Oper} {io : IOper} (hc : COper P N ops o io) (hu : stepM cfg orc dep st io = some st') :
    guardOk st.get io.guard = some true ∧ Walks P cfg x N dep st'.get a w o := by
  unfold stepM at hu
  split at hu
  · rename_i hg
    refine ⟨hg, ?_⟩
    split at hu
    · rename_i hq
      simp only [Bool.and_eq_true] at hq
      obtain ⟨⟨hds, hcall⟩, _⟩ := hq
      obtain ⟨own0, gv, hop⟩ := hc.op
      have hop := gOp_else hop (fun _ _ _ _ e => by rw [e] at hcall; simp [isCallOp] at hcall)
      have hop' : cOp P own0 o.op = some io.op := by
        cases hq : cOp P own0 o.op with
        | none => rw [hq] at hop; rw [← hop] at hcall; simp [isCallOp] at hcall
        | some q => rw [hq] at hop; exact congrArg some hop
      rw [hc.dst] at hds
      obtain ⟨k, hd⟩ := Option.isSome_iff_exists.1 hds
      split at hu
      · rename_i own f vs ht
        obtain ⟨args, h1, h2⟩ := target_run hC.meth R hop' hcall ht
        rw [hc.dst] at hu
        exact sim_callM hO R hd (hc.lt k hd) h1 (by simpa using h2.1) (fun i v y e1 e2 => h2.2 i v y (by simpa using e1) e2) hu
      · cases hu
    · cases hu
  · cases hu

/-- one operation of a region: whatever comes behind it -/
theorem step_wp {orc : Orc} (hC : CfgOk P cfg) (hO : OrcOk P cfg orc) {st st' : St} (R : Rel cfg x N st.get a w) {ops : Array Oper} {o : Oper} {io : IOper} (hc : COper P N ops o io) (hu : evStep cfg orc dep st io = some st')
    {next : Act → World → Prop} {Q : Exit → Act → World → Prop} (hn : ∀ v w' x', Rel cfg x' N st'.get (a.put o.dst v) w' → Fr dep x x' w w' → next (a.put o.dst v) w') :
    (Region.wanted o (yielded ops a.tmps) = true ∧ o.wp P a w next Q) ∨ (Region.wanted o (yielded ops a.tmps) = false ∧ next (a.put o.dst undef) w) := by
  unfold evStep at hu
  split at hu
  · rename_i u hsu
    cases hu
    rw [get_upd] at hn
    cases hg : guardOk st.get io.guard with
    | none => unfold stepU at hsu; rw [hg] at hsu; cases hsu
    | some t =>
      cases t
      · refine .inr ⟨guard_wanted R hc hg, ?_⟩
        unfold stepU at hsu
        rw [hg] at hsu
        cases hsu
        refine hn undef w x ?_ (.refl _ _ _)
        rw [hc.dst]
        cases hd : o.dst with
        | none => exact R
        | some k => exact R.put (hc.lt k hd) rfl (l := none) (.d _ _ _ (undef_rd _ _))
      · exact .inl ⟨guard_wanted R hc hg, sim_stepU hC hO R hc hg hsu next Q hn⟩
  · obtain ⟨hg, hw⟩ := sim_stepM hC hO R hc hu
    exact .inl ⟨guard_wanted R hc hg, hw next Q hn⟩

theorem wpOps_ev {orc : Orc} (hC : CfgOk P cfg) (hO : OrcOk P cfg orc) {ops : Array Oper} {Q : Exit → Act → World → Prop} : ∀ (l : List IOper) (i : Nat) (x : Cx) (a : Act) (w : World) (st st' : St), Rel cfg x N st.get a w →
    (∀ j io, l[j]? = some io → ∃ o, ops[i + j]? = some o ∧ COper P N ops o io) → evOps cfg orc dep l st = some st' →
    (∀ a' w' x', Rel cfg x' N st'.get a' w' → Fr dep x x' w w' → Q .normal a' w') → wpOps P ops Q (List.range' i l.length) a w
  | [], i, x, a, w, st, st', R, _, h, hQ => by
    cases h
    exact hQ a w x R (.refl _ _ _)
  | io :: l, i, x, a, w, st, st', R, hl, h, hQ => by
    obtain ⟨o, ho, hc⟩ := hl 0 io rfl
    unfold evOps at h
    split at h
    · rename_i st1 hst
      have hrest : ∀ v w' x', Rel cfg x' N st1.get (a.put o.dst v) w' → Fr dep x x' w w' → wpOps P ops Q (List.range' (i + 1) l.length) (a.put o.dst v) w' := fun v w' x' R' F =>
        wpOps_ev hC hO l (i + 1) x' _ w' st1 st' R' (fun j io' hj => by
          obtain ⟨o', h1, h2⟩ := hl (j + 1) io' (by simpa using hj)
          exact ⟨o', by rw [show i + 1 + j = i + (j + 1) by omega]; exact h1, h2⟩) h (fun a' w'' x'' R'' F' => hQ a' w'' x'' R'' (F.trans F'))
      rw [List.length_cons, List.range'_succ]
      simp only [Nat.add_zero] at ho
      unfold wpOps
      rw [ho]
      simp only
      rcases step_wp hC hO R hc hst (Q := Q) hrest with ⟨h1, h2⟩ | ⟨h1, h2⟩
      · rw [if_pos h1]; exact .inl h2
      · rw [if_neg (by rw [h1]; simp)]; exact h2
    · cases h

end
end Go.Ev

/-! EvZc -/
/- What an operation looks at. Own work. -/
namespace Go.Ev
open Go

section
variable {cfg : Cfg} {dep n : Nat} {s s' : Get}

theorem val_loc {x : IOpd} (h : ∀ l ∈ opdLocs s n x, s' l = s l) : val cfg s' x = val cfg s x := by
  cases x with
  | t k => exact h (.slot k) (by simp [opdLocs])
  | c d => rfl
  | g k => rfl

theorem bor_in {x : IOpd} {l : Loc} {o m : Nat} (h : val cfg s x = some (.bor l o m)) : l ∈ opdLocs s n x := by
  cases x with
  | t k =>
    have h' : s (.slot k) = some (.bor l o m) := h
    simp [opdLocs, h']
  | c d => simp [val] at h
  | g k => simp [val] at h

theorem bref_in {x : IOpd} {l : Loc} {o m : Nat} (h : val cfg s x = some (.bref l o m)) : l ∈ opdLocs s n x := by
  cases x with
  | t k =>
    have h' : s (.slot k) = some (.bref l o m) := h
    simp [opdLocs, h']
  | c d => simp [val] at h
  | g k => simp [val] at h

theorem span_in : ∀ (n d k off : Nat) (j : Nat), j < n → Loc.cell ⟨d, k, off + j⟩ ∈ spanLocs d k off n
  | n + 1, d, k, off, 0, _ => by simp [spanLocs]
  | n + 1, d, k, off, j + 1, h => by
    have := span_in n d k (off + 1) j (by omega)
    rw [show off + 1 + j = off + (j + 1) by omega] at this
    simp [spanLocs, this]

theorem ref_in {x : IOpd} {d k off : Nat} (h : val cfg s x = some (.ref d k off)) : ∀ j, j < n → Loc.cell ⟨d, k, off + j⟩ ∈ opdLocs s n x := by
  intro j hj
  cases x with
  | t k' =>
    have h' : s (.slot k') = some (.ref d k off) := h
    simp only [opdLocs, h']
    exact List.mem_cons_of_mem _ (span_in n d k off j hj)
  | c d => simp [val] at h
  | g k => simp [val] at h

theorem dat_loc {x : IOpd} (h : ∀ l ∈ opdLocs s n x, s' l = s l) : dat cfg s' x = dat cfg s x := by unfold dat; rw [val_loc h]

theorem cont_loc {x : IOpd} {v : V} (hv : val cfg s x = some v) (h : ∀ l ∈ opdLocs s n x, s' l = s l) : cont s' v = cont s v := by
  cases v with
  | bor l o m => simp only [cont]; rw [h l (bor_in hv)]
  | d y => cases y <;> rfl
  | _ => rfl

theorem argD_loc {x : IOpd} {v : V} (hv : val cfg s x = some v) (h : ∀ l ∈ opdLocs s n x, s' l = s l) : argD s' v = argD s v := by
  cases v with
  | bor l o m => simp only [argD]; rw [h l (bor_in hv)]
  | iptr e o => cases o <;> rfl
  | _ => rfl

theorem valc_loc {x : IOpd} (h : ∀ l ∈ opdLocs s n x, s' l = s l) : (val cfg s' x).bind (cont s') = (val cfg s x).bind (cont s) := by
  rw [val_loc h]
  cases hv : val cfg s x with
  | none => rfl
  | some v => simp only [Option.bind_some]; exact cont_loc hv h

theorem dats_loc : ∀ {xs : List IOpd}, (∀ l ∈ xs.flatMap (opdLocs s n), s' l = s l) → dats cfg s' xs = dats cfg s xs
  | [], _ => rfl
  | x :: xs, h => by
    simp only [dats]
    rw [dat_loc (n := n) (x := x) (fun l hl => h l (by simp [hl])), dats_loc (fun l hl => h l (by
      rw [List.flatMap_cons]; exact List.mem_append_right _ hl))]

theorem vals_loc : ∀ {xs : List IOpd}, (∀ l ∈ xs.flatMap (opdLocs s n), s' l = s l) → vals cfg s' xs = vals cfg s xs
  | [], _ => rfl
  | x :: xs, h => by
    simp only [vals]
    rw [val_loc (n := n) (x := x) (fun l hl => h l (by simp [hl])), vals_loc (fun l hl => h l (by
      rw [List.flatMap_cons]; exact List.mem_append_right _ hl))]

theorem parts2_loc : ∀ {ps : List (Nat × IOpd)}, (∀ l ∈ (ps.map fun p => p.2).flatMap (opdLocs s n), s' l = s l) → parts2 cfg s' ps = parts2 cfg s ps
  | [], _ => rfl
  | (i, x) :: xs, h => by
    simp only [parts2]
    rw [dat_loc (n := n) (x := x) (fun l hl => h l (by simp [hl])), parts2_loc (fun l hl => h l (by
      rw [List.map_cons, List.flatMap_cons]; exact List.mem_append_right _ hl))]

theorem parts3_loc : ∀ {ps : List (Nat × Nat × IOpd)}, (∀ l ∈ (ps.map fun p => p.2.2).flatMap (opdLocs s n), s' l = s l) → parts3 cfg s' ps = parts3 cfg s ps
  | [], _ => rfl
  | (i, j, x) :: xs, h => by
    simp only [parts3]
    rw [dat_loc (n := n) (x := x) (fun l hl => h l (by simp [hl])), parts3_loc (fun l hl => h l (by
      rw [List.map_cons, List.flatMap_cons]; exact List.mem_append_right _ hl))]

theorem gather_loc : ∀ (m d k off : Nat), (∀ j, j < m → s' (.cell ⟨d, k, off + j⟩) = s (.cell ⟨d, k, off + j⟩)) → gather s' d k off m = gather s d k off m
  | 0, _, _, _, _ => rfl
  | m + 1, d, k, off, h => by
    have h0 := h 0 (by omega)
    simp only [Nat.add_zero] at h0
    have ih := gather_loc m d k (off + 1) (fun j hj => by
      have := h (j + 1) (by omega)
      rwa [show off + (j + 1) = off + 1 + j by omega] at this)
    simp only [gather, h0, ih]

theorem alive_loc : ∀ (m d k off : Nat), (∀ j, j < m → s' (.cell ⟨d, k, off + j⟩) = s (.cell ⟨d, k, off + j⟩)) → alive s' d k off m = alive s d k off m
  | 0, _, _, _, _ => rfl
  | m + 1, d, k, off, h => by
    have h0 := h 0 (by omega)
    simp only [Nat.add_zero] at h0
    have ih := alive_loc m d k (off + 1) (fun j hj => by
      have := h (j + 1) (by omega)
      rwa [show off + (j + 1) = off + 1 + j by omega] at this)
    simp only [alive, h0, ih]

theorem evAsg_loc {x : IOpd} {v : V} (dst : Option Nat) (hv : val cfg s x = some v) (h : ∀ l ∈ opdLocs s n x, s' l = s l) : evAsg s' dst x v = evAsg s dst x v := by
  cases v with
  | bor l o m => cases x <;> simp only [evAsg] <;> rw [h l (bor_in hv)]
  | d y => cases y <;> cases x <;> rfl
  | own nw z0 es0 => cases nw <;> cases x <;> rfl
  | _ => cases x <;> rfl

theorem evLoad_loc {x : IOpd} {v : V} (dst z : Option Nat) (hn : n = z.getD 1) (hv : val cfg s x = some v) (h : ∀ l ∈ opdLocs s n x, s' l = s l) : evLoad s' dst z v = evLoad s dst z v := by
  cases v with
  | bref l i o => simp only [evLoad]; rw [h l (bref_in hv)]
  | ref d k off =>
    have hr := fun j hj => h _ (ref_in (n := n) hv j hj)
    cases z with
    | none =>
      have := hr 0 (by rw [hn]; decide)
      simp only [Nat.add_zero] at this
      simp only [evLoad, this]
    | some m =>
      simp only [Option.getD_some] at hn
      subst hn
      simp only [evLoad, gather_loc n d k off hr]
  | d y => cases y <;> rfl
  | _ => rfl

theorem evStore_loc {p x : IOpd} {va v : V} (hp : val cfg s p = some va) (hv : val cfg s x = some v) (h : ∀ l ∈ opdLocs s n p, s' l = s l) (h' : ∀ l ∈ opdLocs s n x, s' l = s l) : evStore s' n va x v = evStore s n va x v := by
  cases va with
  | bref l i o => simp only [evStore]; rw [h l (bref_in hp)]
  | ref d k off =>
    have hr := fun j hj => h _ (ref_in (n := n) hp j hj)
    simp only [evStore, alive_loc n d k off hr]
    cases v with
    | bor l o m => cases x <;> simp only [] <;> rw [h' l (bor_in hv)]
    | d y => cases y <;> cases x <;> rfl
    | own nw z0 es0 => cases nw <;> cases x <;> rfl
    | _ => cases x <;> rfl
  | d y => cases y <;> rfl
  | _ => rfl

theorem sbounds_loc {lo hi : Option IOpd} (len : Nat) (h : ∀ l ∈ (lo.toList ++ hi.toList).flatMap (opdLocs s n), s' l = s l) : sbounds cfg s' len lo hi = sbounds cfg s len lo hi := by
  have hlo : ∀ x, lo = some x → dat cfg s' x = dat cfg s x := fun x e => dat_loc (n := n) (fun l hl => h l (by subst e; simp [hl]))
  have hhi : ∀ x, hi = some x → dat cfg s' x = dat cfg s x := fun x e => dat_loc (n := n) (fun l hl => h l (by subst e; simp [hl]))
  cases lo <;> cases hi <;> simp only [sbounds]
  · rw [hhi _ rfl]
  · rw [hlo _ rfl]
  · rw [hlo _ rfl, hhi _ rfl]

theorem topOf_loc {mx : Option IOpd} (len : Nat) (h : ∀ l ∈ mx.toList.flatMap (opdLocs s n), s' l = s l) : topOf cfg s' len mx = topOf cfg s len mx := by
  cases mx with
  | none => rfl
  | some x => simp only [topOf]; rw [dat_loc (n := n) (fun l hl => h l (by simp [hl]))]

theorem evSlice_loc {x : IOpd} {v : V} {lo hi mx : Option IOpd} (dst : Option Nat) (z : Nat) (hv : val cfg s x = some v) (h : ∀ l ∈ opdLocs s n x, s' l = s l) (h' : ∀ l ∈ (lo.toList ++ hi.toList).flatMap (opdLocs s n), s' l = s l)
    (h'' : ∀ l ∈ mx.toList.flatMap (opdLocs s n), s' l = s l) : evSlice cfg s' dst z x v lo hi mx = evSlice cfg s dst z x v lo hi mx := by
  unfold evSlice
  rw [cont_loc hv h]
  cases cont s v with
  | none => rfl
  | some es =>
    simp only [topOf_loc es.length h'']
    cases topOf cfg s es.length mx with
    | none => rfl
    | some top =>
      simp only [sbounds_loc top h']
      cases sbounds cfg s top lo hi with
      | none => rfl
      | some lh =>
        simp only
        cases v with
        | bor l o m => cases x <;> simp only [] <;> rw [h l (bor_in hv)]
        | d y => cases y <;> cases x <;> rfl
        | own nw z0 es0 => cases nw <;> cases x <;> rfl
        | _ => cases x <;> rfl

theorem evIdx_loc {x : IOpd} {v : V} (dst : Option Nat) (z : Nat) (j : Int) (hv : val cfg s x = some v) (h : ∀ l ∈ opdLocs s n x, s' l = s l) : evIdx s' dst z x v j = evIdx s dst z x v j := by
  unfold evIdx
  cases v with
  | bor l o m => cases x <;> simp only [] <;> rw [h l (bor_in hv)]
  | d y => cases y <;> cases x <;> rfl
  | own nw z0 es0 => cases nw <;> cases x <;> rfl
  | _ => cases x <;> rfl

theorem evAppend_loc {x : IOpd} {v : V} (dst : Option Nat) (z b : Nat) (ys : List D) (hv : val cfg s x = some v) (h : ∀ l ∈ opdLocs s n x, s' l = s l) : evAppend s' dst z b x v ys = evAppend s dst z b x v ys := by
  unfold evAppend
  cases v with
  | bor l o m => cases x <;> simp only [] <;> rw [h l (bor_in hv)]
  | d y => cases y <;> cases x <;> rfl
  | own nw z0 es0 => cases nw <;> cases x <;> rfl
  | _ => cases x <;> rfl

theorem evCopy_loc {x : IOpd} {v : V} (dst : Option Nat) (z : Nat) (ys : List D) (hv : val cfg s x = some v) (h : ∀ l ∈ opdLocs s n x, s' l = s l) : evCopy s' dst z x v ys = evCopy s dst z x v ys := by
  unfold evCopy
  cases v with
  | bor l o m => cases x <;> simp only [] <;> rw [h l (bor_in hv)]
  | own nw z' es =>
    cases x with
    | t k =>
      cases nw
      · simp only
        rw [h (.slot k) (by simp [opdLocs])]
      · rfl
    | _ => rfl
  | d y => cases y <;> cases x <;> rfl
  | _ => cases x <;> rfl

end
end Go.Ev
