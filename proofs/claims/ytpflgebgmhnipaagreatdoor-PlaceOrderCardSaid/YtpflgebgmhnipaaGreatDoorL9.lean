/- The evaluator of Go code and its proofs, part 9. Own work. -/
import Derived.Test.YtpflgebgmhnipaaGreatDoorL8
set_option linter.unusedVariables false
set_option linter.unusedSimpArgs false
set_option linter.unusedSectionVars false
/-! EvZl -/
/- Functions. Own work. -/
namespace Go.Ev
open Go

section
variable {P : Program} {cfg : Cfg} {x : Cx} {N dep : Nat} {a : Act} {w : World}

/-- the run of one result -/
def resRun (tmps : Array Value) : ResultVar → Sem Value
  | .tmp t => pure (tmps.getD t undef)
  | .cell a t => do loadVar t (← asAddr (tmps.getD a undef))

theorem mapM_run {P : Program} {w : World} {f : ResultVar → Sem Value} : ∀ {l : List ResultVar} {vs : List Value}, l.length = vs.length → (∀ (i : Nat) r v, l[i]? = some r → vs[i]? = some v → (f r).run P w = .ok v w) →
    (l.mapM f).run P w = .ok vs w
  | [], [], _, _ => rfl
  | r :: l, v :: vs, hl, h => by
    rw [List.mapM_cons]
    simp only [Sem.run_bind, h 0 r v rfl rfl, Result.andThen_ok]
    rw [mapM_run (l := l) (vs := vs) (by simpa using hl) (fun i r v h1 h2 => h (i + 1) r v (by simpa using h1) (by simpa using h2))]
    rfl
  | [], _ :: _, h, _ => by cases h
  | _ :: _, [], h, _ => by cases h

def tupled : List Value → Value
  | [v] => v
  | vs => .tuple vs.toArray

theorem run_results {P : Program} {w : World} {fn : Func} {tmps : Array Value} {vs : List Value} (hl : fn.results.toList.length = vs.length)
    (h : ∀ (i : Nat) r v, fn.results.toList[i]? = some r → vs[i]? = some v → (resRun tmps r).run P w = .ok v w) :
    (results fn tmps).run P w = .ok (tupled vs) w := by
  have e : ∀ g : ResultVar → Sem Value, (∀ r, g r = resRun tmps r) → (fn.results.mapM g).run P w = .ok vs.toArray w := fun g hg => by
    have : g = resRun tmps := funext hg
    subst this
    rw [Array.mapM_eq_mapM_toList, map_eq_pure_bind]
    simp only [Sem.run_bind, mapM_run hl h, Result.andThen_ok, Sem.run_pure]
  unfold results
  rw [Sem.run_bind, e _ (fun r => by cases r <;> rfl), Result.andThen_ok]
  match vs with
  | [] => rfl
  | [v] => rfl
  | _ :: _ :: _ => simp [tupled]

/-- what a result's value is -/
def ResIs (x : Cx) (s : Get) (cv : Loc → Option Value) (w : World) (dep : Nat) (v : Value) : V → Prop
  | .own _ z es => ∃ l b o cap, v = .slice (some (ad3 b o)) es.length cap ∧ x.ow b = some (.at l) ∧ goneL dep l = true ∧ es.length ≤ cap ∧ Arr (freeB x) w b o cap z es
  | .d y => Rd (freeB (x.leave dep none)) w v y
  | r => RdV x s cv w none v r

def ResMatch (P : Program) : ResultVar → IRes → Prop
  | .tmp t, .t k => k = t
  | .cell a t, .cell k z => k = a ∧ zOpt P t = some z
  | _, _ => False

theorem cRes_spec : ∀ {l : List ResultVar} {is : List IRes}, cRes P l = some is → l.length = is.length ∧ ∀ (i : Nat) rv ir, l[i]? = some rv → is[i]? = some ir → ResMatch P rv ir
  | [], is, h => by cases h; simp
  | .tmp t :: r, is, h => by
    simp only [cRes, Option.map_eq_some_iff] at h
    obtain ⟨l, h1, rfl⟩ := h
    obtain ⟨g1, g2⟩ := cRes_spec h1
    refine ⟨by simp [g1], fun i rv ir e1 e2 => ?_⟩
    cases i with
    | zero => simp at e1 e2; subst e1; subst e2; rfl
    | succ i => exact g2 i rv ir (by simpa using e1) (by simpa using e2)
  | .cell a t :: r, is, h => by
    simp only [cRes] at h
    split at h
    · rename_i z l hz h1
      cases h
      obtain ⟨g1, g2⟩ := cRes_spec h1
      refine ⟨by simp [g1], fun i rv ir e1 e2 => ?_⟩
      cases i with
      | zero => simp at e1 e2; subst e1; subst e2; exact ⟨rfl, hz⟩
      | succ i => exact g2 i rv ir (by simpa using e1) (by simpa using e2)
    · cases h

theorem plainV_own {v : V} (h : v.plainV = true) : v.isOwn = false := by cases v <;> first | rfl | simp [V.plainV] at h

/-- a plain value as a result -/
theorem res_plain {s : Get} {cv : Loc → Option Value} {l : Option Loc} {v : Value} {r : V} (h : RdV x s cv w l v r) (hp : r.plainV = true) (dep : Nat) : ResIs x s cv w dep v r := by
  cases r with
  | d y => exact (RdV.d_inv h).mono fun b o u h1 h2 => ⟨leave_none h1, h2⟩
  | own nw z es => simp [V.plainV] at hp
  | bor => simp [V.plainV] at hp
  | bref => simp [V.plainV] at hp
  | junk => simp [V.plainV] at hp
  | iptr e off => exact h.reloc rfl
  | ref d k off => exact h.reloc rfl
  | clo f a b => exact h.reloc rfl
  | ifc t v => exact h.reloc rfl

theorem res_own {s : Get} {cv : Loc → Option Value} {l : Loc} {v : Value} {nw nw' : Bool} {z : Nat} {es : List D} (h : RdV x s cv w (some l) v (.own nw z es)) (hl : goneL dep l = true) : ResIs x s cv w dep v (.own nw' z es) := by
  cases h with
  | own _ b o len cap _ _ _ how hlen hcap A =>
    subst hlen
    exact ⟨l, b, o, cap, rfl, how, hl, hcap, A⟩

theorem resCell_rd {s : Get} {cv : Loc → Option Value} {v : Value} {r : V} {y : D} (h : ResIs x s cv w dep v r) (hr : resCell r = some y) : Rd (freeB (x.leave dep none)) w v y := by
  unfold resCell at hr
  split at hr
  · cases hr; exact Rd.canon h
  · cases hr
    obtain ⟨l, b, o, cap, rfl, how, hl, hcap, A⟩ := h
    exact (A.mono (fun b o u h1 h2 => ⟨leave_none h1, h2⟩) (fun _ _ h => h) (fun _ _ _ h => h)).rd (leave_gone how hl) rfl hcap
  · cases hr
    have h' : RdV x s cv w none v _ := h
    exact h'.iptr_rd.mono fun b o u h1 h2 => ⟨leave_none h1, h2⟩
  · cases hr

theorem gatherR_ok {s : Get} (R : Rel cfg x N s a w) {d k : Nat} (hd : dep ≤ d) : ∀ (n off : Nat) {cs : List D}, gatherR s d k off n = some cs → cs.length = n ∧ (∀ c ∈ cs, c.isCell = true) ∧
    ∀ (j : Nat) c, cs[j]? = some c → ∃ v, w.cell? (ad3 (x.ad d k) (off + j)) = some v ∧ Rd (freeB (x.leave dep none)) w v c
  | 0, off, cs, h => by cases h; simp
  | n + 1, off, cs, h => by
    unfold gatherR at h
    split at h
    · rename_i y r h1 h2
      split at h
      · rename_i hcell
        cases h
        obtain ⟨g0, g1, g2⟩ := gatherR_ok R hd n (off + 1) h2
        refine ⟨by simp [g0], ?_, fun j c hj => ?_⟩
        · intro c hc
          rcases List.mem_cons.1 hc with rfl | hc
          · exact hcell
          · exact g1 c hc
        · cases j with
          | zero =>
            simp at hj
            subst hj
            obtain ⟨v0, h3, h4⟩ := Option.bind_eq_some_iff.1 h1
            obtain ⟨u, hu, hr⟩ := R.locs (.cell ⟨d, k, off⟩) v0 h3
            refine ⟨u, hu, ?_⟩
            cases v0 with
            | own nw z es => exact resCell_rd (res_own (nw' := nw) hr (dep := dep) (by simp [goneL]; exact hd)) h4
            | d y => exact resCell_rd (res_plain hr rfl dep) h4
            | iptr e o => exact resCell_rd (res_plain hr rfl dep) h4
            | _ => cases h4
          | succ j =>
            obtain ⟨v, h5, h6⟩ := g2 j c (by simpa using hj)
            exact ⟨v, by rw [← h5]; congr 2; omega, h6⟩
      · cases h
    · cases h

theorem resV_ok {s : Get} (R : Rel cfg x N s a w) {rv : ResultVar} {ir : IRes} (hm : ResMatch P rv ir) {r : V} (h : resV dep s ir = some r) :
    ∃ v, (resRun a.tmps rv).run P w = .ok v w ∧ ResIs x s (conc x a w) w dep v r := by
  cases rv with
  | tmp t =>
    cases ir with
    | cell k z => exact hm.elim
    | t k =>
      have hm' : k = t := hm
      subst hm'
      have hloc : ∀ v0, s (.slot k) = some v0 → RdV x s (conc x a w) w (some (.slot k)) (a.tmps.getD k undef) v0 := fun v0 h0 => by
        obtain ⟨u, hu, hr⟩ := R.locs (.slot k) v0 h0
        simp only [conc, Option.some.injEq] at hu
        rw [hu]; exact hr
      refine ⟨a.tmps.getD k undef, rfl, ?_⟩
      simp only [resV] at h
      split at h
      · rename_i nw z es h0
        cases h
        exact res_own (hloc _ h0) rfl
      · rename_i v0 h0
        split at h
        · rename_i hp
          cases h
          exact res_plain (hloc _ ‹_›) hp dep
        · cases h
      · cases h
  | cell b t =>
    cases ir with
    | t k => exact hm.elim
    | cell k z =>
      obtain ⟨rfl, hz⟩ := hm
      simp only [resV] at h
      split at h
      · rename_i d j off h0
        split at h
        · rename_i hd
          obtain ⟨u, hu, hr⟩ := R.locs (.slot k) _ h0
          simp only [conc, Option.some.injEq] at hu
          cases hr with
          | ref _ _ _ _ hal =>
          have hrun : ∀ v, (loadVar t (ad3 (x.ad d j) off)).run P w = .ok v w → (resRun a.tmps (.cell k t)).run P w = .ok v w := fun v h1 => by
            simp only [resRun, Sem.run_bind, hu, asAddr, Sem.run_pure, Result.andThen_ok, h1]
          cases z with
          | none =>
            have hld : ∀ u, w.cell? (ad3 (x.ad d j) off) = some u → (loadVar t (ad3 (x.ad d j) off)).run P w = .ok u w := fun u hu => by
              simp only [loadVar, Sem.run_bind, (zOpt_none hz).1, Result.andThen_ok, Bool.false_eq_true, if_false, run_load, hu]
            simp only at h
            split at h
            · rename_i nw z es h1
              cases h
              obtain ⟨u, hu, hr⟩ := R.locs (.cell ⟨d, j, off⟩) _ h1
              exact ⟨u, hrun u (hld u hu), res_own hr (by simp [goneL]; exact hd)⟩
            · split at h
              · rename_i hp
                cases h
                obtain ⟨u, hu, hr⟩ := R.locs (.cell ⟨d, j, off⟩) _ ‹_›
                exact ⟨u, hrun u (hld u hu), res_plain hr hp dep⟩
              · cases h
            · cases h
          | some n =>
            simp only [Option.map_eq_some_iff] at h
            obtain ⟨cs, h1, rfl⟩ := h
            obtain ⟨g0, g1, g2⟩ := gatherR_ok R hd n off h1
            obtain ⟨v, h2, h3⟩ := run_load_cells (P := P) (b := x.ad d j) (o := off) (off := 0) (e := .agg cs) (r := .agg cs) hz ⟨g1, g2⟩ (by simp [ldD, D.cells, g0]; subst g0; exact List.take_length)
            exact ⟨v, hrun v h2, h3⟩
        · cases h
      · cases h

theorem resD_ok {s : Get} (R : Rel cfg x N s a w) : ∀ {rvs : List ResultVar} {irs : List IRes}, rvs.length = irs.length → (∀ (i : Nat) rv ir, rvs[i]? = some rv → irs[i]? = some ir → ResMatch P rv ir) → ∀ {ds : List D}, resD dep s irs = some ds →
    ∃ vs : List Value, vs.length = ds.length ∧ rvs.length = vs.length ∧ (∀ (i : Nat) r v, rvs[i]? = some r → vs[i]? = some v → (resRun a.tmps r).run P w = .ok v w) ∧ ∀ (i : Nat) v d, vs[i]? = some v → ds[i]? = some d → Rd (freeB (x.leave dep none)) w v d
  | [], [], _, _, ds, h => by cases h; exact ⟨[], by simp⟩
  | rv :: rvs, ir :: irs, hl, hm, ds, h => by
    unfold resD at h
    split at h
    · rename_i d ds' h1 h2
      cases h
      obtain ⟨r, h3, h4⟩ := Option.bind_eq_some_iff.1 h1
      obtain ⟨v, h5, h6⟩ := resV_ok R (hm 0 rv ir rfl rfl) h3
      obtain ⟨vs, g1, g2, g3, g4⟩ := resD_ok R (rvs := rvs) (irs := irs) (by simpa using hl) (fun i rv ir e1 e2 => hm (i + 1) rv ir (by simpa using e1) (by simpa using e2)) h2
      refine ⟨v :: vs, by simp [g1], by simp [g2], fun i r v' e1 e2 => ?_, fun i v' d' e1 e2 => ?_⟩
      · cases i with
        | zero => simp at e1 e2; subst e1; subst e2; exact h5
        | succ i => exact g3 i r v' (by simpa using e1) (by simpa using e2)
      · cases i with
        | zero => simp at e1 e2; subst e1; subst e2; exact resCell_rd h6 h4
        | succ i => exact g4 i v' d' (by simpa using e1) (by simpa using e2)
    · cases h
  | [], _ :: _, h, _, _, _ => by cases h
  | _ :: _, [], h, _, _, _ => by cases h

/-- all results, and what the call leaves -/
theorem results_ok {st : St} (R : Rel cfg x N st.get a w) {fn : Func} {irs : List IRes} (hc : cRes P fn.results.toList = some irs) {r r' : V} {m' : List (Cel × V)} (h : resAll dep st.get irs = some r) (hl : leaveR dep r st.mem = some (r', m')) :
    ∃ v x', (results fn a.tmps).run P w = .ok v w ∧ Rel cfg x' 0 (get0 m') act0 w ∧ ResOk x' (get0 m') (conc x' act0 w) w v r' ∧ Fr dep x x' w w := by
  obtain ⟨rfl, rfl, hup⟩ := leaveR_spec hl
  obtain ⟨g1, g2⟩ := cRes_spec hc
  have hal : ∀ d k, d < dep → (st.get (.cell ⟨d, k, 0⟩)).isSome → (get0 (leaveM dep st.mem) (.cell ⟨d, k, 0⟩)).isSome := fun d k hd h => by
    show (lk (leaveM dep st.mem) _).isSome
    rw [lk_leaveM, if_pos hd, Option.isSome_map]
    exact h
  have hc0 : ∀ res b o u, x.ow b = none → w.cell? (ad3 b o) = some u → (x.leave dep res).ow b = none ∧ w.cell? (ad3 b o) = some u := fun res b o u h1 h2 => ⟨leave_none h1, h2⟩
  have hmany : ∀ ds, resD dep st.get irs = some ds → irs.length ≠ 1 → r' = .d (.tup ds) → ∃ v x', (results fn a.tmps).run P w = .ok v w ∧ Rel cfg x' 0 (get0 (leaveM dep st.mem)) act0 w ∧ ResOk x' (get0 (leaveM dep st.mem)) (conc x' act0 w) w v r' ∧ Fr dep x x' w w := by
    rintro ds hds hne rfl
    obtain ⟨vs, e1, e2, e3, e4⟩ := resD_ok R g1 g2 hds
    refine ⟨_, x.leave dep none, run_results e2 e3, R.leave dep none, ?_, .leave _ _ _⟩
    have : tupled vs = .tuple vs.toArray := by
      match vs, e2 with
      | [], _ => rfl
      | [v], e2 => exact absurd (g1.symm.trans e2) hne
      | _ :: _ :: _, _ => rfl
    rw [this]
    exact .d _ _ _ (.tup vs ds e1 e4)
  match irs, h, g1, g2, hmany with
  | [], h, g1, g2, hmany =>
    simp only [resAll, Option.map_eq_some_iff] at h
    obtain ⟨ds, h1, h2⟩ := h
    exact hmany ds h1 (by simp) h2.symm
  | _ :: _ :: _, h, g1, g2, hmany =>
    simp only [resAll, Option.map_eq_some_iff] at h
    obtain ⟨ds, h1, h2⟩ := h
    exact hmany ds h1 (by simp) h2.symm
  | [ir], h, g1, g2, _ =>
    have h : resV dep st.get ir = some r' := h
    obtain ⟨rv, hrv⟩ : ∃ rv, fn.results.toList = [rv] := List.length_eq_one_iff.1 g1
    obtain ⟨v, h5, h6⟩ := resV_ok R (g2 0 rv ir (by rw [hrv]; rfl) rfl) h
    have hrun : (results fn a.tmps).run P w = .ok v w := run_results (vs := [v]) (by rw [hrv]; rfl) (fun i r v' e1 e2 => by
      rw [hrv] at e1
      cases i with
      | zero => simp at e1 e2; subst e1; subst e2; exact h5
      | succ i => simp at e1)
    cases r' with
    | own nw z es =>
      obtain ⟨l, b, o, cap, rfl, how, hgl, hcap, A⟩ := h6
      refine ⟨_, x.leave dep (some l), hrun, R.leave dep _, ⟨b, o, cap, rfl, leave_res how hgl, hcap, ?_⟩, .leave _ _ _⟩
      exact A.mono (fun b o u h1 h2 => hc0 _ b o u h1 h2) (fun _ _ h => h) (fun _ _ _ h => h)
    | d y => exact ⟨v, x.leave dep none, hrun, R.leave dep _, .d _ _ _ h6, .leave _ _ _⟩
    | bor l off n => simp [V.upTo] at hup
    | bref l off n => simp [V.upTo] at hup
    | junk => exact ⟨v, x.leave dep none, hrun, R.leave dep _, .junk _ _, .leave _ _ _⟩
    | iptr e off => exact ⟨v, x.leave dep none, hrun, R.leave dep _, RdV.move dep h6 (hc0 _) (.refl _) (fun d k hd h => ⟨hal d k hd h, rfl⟩) (fun l0 e => by cases e) hup, .leave _ _ _⟩
    | ref d k off => exact ⟨v, x.leave dep none, hrun, R.leave dep _, RdV.move dep h6 (hc0 _) (.refl _) (fun d k hd h => ⟨hal d k hd h, rfl⟩) (fun l0 e => by cases e) hup, .leave _ _ _⟩
    | clo f p q => exact ⟨v, x.leave dep none, hrun, R.leave dep _, RdV.move dep h6 (hc0 _) (.refl _) (fun d k hd h => ⟨hal d k hd h, rfl⟩) (fun l0 e => by cases e) hup, .leave _ _ _⟩
    | ifc t y => exact ⟨v, x.leave dep none, hrun, R.leave dep _, RdV.move dep h6 (hc0 _) (.refl _) (fun d k hd h => ⟨hal d k hd h, rfl⟩) (fun l0 e => by cases e) hup, .leave _ _ _⟩

theorem lk_entry : ∀ (vs : List V) (i k : Nat), lk (entry i vs) k = if i ≤ k then vs[k - i]? else none
  | [], i, k => by simp [entry, lk]
  | v :: vs, i, k => by
    simp only [entry, lk]
    split
    · rename_i e; subst e; simp
    · rename_i e
      rw [lk_entry vs (i + 1) k]
      by_cases h : i ≤ k
      · rw [if_pos h, if_pos (by omega)]
        have : k - i = (k - (i + 1)) + 1 := by omega
        rw [this]; rfl
      · rw [if_neg h, if_neg (by omega)]

/-- the state at a function's head -/
theorem Rel.enter {vs : List V} {m : List (Cel × V)} {args : Array Value} (E : Enters cfg x vs m args w) (hpl : ∀ (k : Nat) (v : V), vs[k]? = some v → v.isOwn = false) {n : Nat} (hn : vs.length ≤ n) :
    Rel cfg x n (St.get ⟨entry 0 vs, m⟩) ⟨args ++ Array.replicate (n - args.size) undef, []⟩ w := by
  have hslot : ∀ k v, St.get ⟨entry 0 vs, m⟩ (.slot k) = some v → vs[k]? = some v := fun k v h => by
    have h' : lk (entry 0 vs) k = some v := h
    rw [lk_entry, if_pos (Nat.zero_le _)] at h'
    exact h'
  have hmono : ∀ l v y, RdV x (get0 m) (conc x act0 w) w l v y → RdV x (St.get ⟨entry 0 vs, m⟩) (conc x ⟨args ++ Array.replicate (n - args.size) undef, []⟩ w) w l v y := fun l v y h => by
    refine h.mono (fun b o u h1 h2 => ⟨h1, h2⟩) (fun b o u h1 h2 => ⟨⟨u, h1⟩, h2⟩) (fun l' z es hs => ?_) (fun d k h => ⟨h, rfl⟩) (fun l0 _ b hb => ⟨hb, fun o u h => h⟩)
    cases l' with
    | slot k => have := hpl k _ (hslot k _ hs); simp [V.isOwn] at this
    | cell c => exact ⟨es, hs, rfl, fun b o L C h => ⟨L, C, h⟩⟩
  have hsz := E.size
  refine ⟨by simp; omega, .nil rfl, E.rel.bound, fun l v h => ?_, fun k v h => ?_, fun c v h => E.rel.box c v h, E.rel.globs, E.rel.nofz, E.rel.gobj⟩
  · cases l with
    | slot k =>
      have h1 := hslot k v h
      have hk : k < vs.length := (List.getElem?_eq_some_iff.1 h1).1
      refine ⟨args[k]'(by omega), ?_, ((hmono _ _ _ ((E.args k _ v (Array.getElem?_eq_getElem (by omega)) h1).rd (hpl k v h1))).reloc (hpl k v h1))⟩
      simp only [conc, Option.some.injEq]
      rw [Array.getD_eq_getD_getElem?, Array.getElem?_append_left (by omega), Array.getElem?_eq_getElem (by omega)]
      rfl
    | cell c =>
      obtain ⟨u, hu, hr⟩ := E.rel.locs (.cell c) v h
      exact ⟨u, hu, hmono _ _ _ hr⟩
  · have h1 := hslot k v h
    have hk : k < vs.length := (List.getElem?_eq_some_iff.1 h1).1
    omega

theorem oneOwn_spec : ∀ {vs : List V}, oneOwn vs = true → ∃ i z es, vs[i]? = some (.own false z es) ∧ ∀ (j : Nat) v, vs[j]? = some v → j ≠ i → ∃ d, v = .d d
  | [], h => by simp [oneOwn] at h
  | v :: vs, h => by
    unfold oneOwn at h
    split at h
    · rename_i z es r e
      cases e
      refine ⟨0, z, es, rfl, fun j v hj hne => ?_⟩
      cases j with
      | zero => exact absurd rfl hne
      | succ j =>
        have := List.all_eq_true.1 h v (List.mem_of_getElem? hj)
        cases v <;> first | exact ⟨_, rfl⟩ | simp [V.isD] at this
    · rename_i d r e
      cases e
      obtain ⟨i, z, es, h1, h2⟩ := oneOwn_spec h
      refine ⟨i + 1, z, es, h1, fun j v hj hne => ?_⟩
      cases j with
      | zero => cases hj; exact ⟨_, rfl⟩
      | succ j => exact h2 j v hj (by omega)
    · cases h

/-- the state at a function's head; one argument may be an array that it is given -/
theorem Rel.enterG {vs : List V} {m : List (Cel × V)} {args : Array Value} (E : Enters cfg x vs m args w) (hp : argsOk vs m = true) {n : Nat} (hn : vs.length ≤ n) :
    ∃ x', Rel cfg x' n (St.get ⟨entry 0 vs, m⟩) ⟨args ++ Array.replicate (n - args.size) undef, []⟩ w ∧ Fr dep x x' w w := by
  unfold argsOk at hp
  rw [Bool.or_eq_true] at hp
  rcases hp with hp | hp
  · exact ⟨x, Rel.enter E (fun k v h => plainV_own (List.all_eq_true.1 hp _ (List.mem_of_getElem? h))) hn, .refl _ _ _⟩
  · rw [Bool.and_eq_true, List.isEmpty_iff] at hp
    obtain ⟨rfl, hp⟩ := hp
    obtain ⟨i, z, es, hi, hd⟩ := oneOwn_spec hp
    have hsz := E.size
    have hlt : i < vs.length := (List.getElem?_eq_some_iff.1 hi).1
    obtain ⟨b, o, cap, hv, how, hcap, hA⟩ : ∃ b o cap, args[i]'(by omega) = .slice (some (ad3 b o)) es.length cap ∧ x.ow b = some .res ∧ es.length ≤ cap ∧ Arr (freeB x) w b o cap z es := E.args i _ _ (Array.getElem?_eq_getElem (by omega)) hi
    have hbn : ∀ b', x.ow b' ≠ x.ow b → b' ≠ b := fun b' h e => h (e ▸ rfl)
    have hmono : ∀ b' o' u, freeB x b' → w.cell? (ad3 b' o') = some u → freeB (x.give b (some (.at (.slot i)))) b' ∧ w.cell? (ad3 b' o') = some u := fun b' o' u h1 h2 => by
      refine ⟨?_, h2⟩
      show (x.give b _).ow b' = none
      rw [Cx.give_ne _ _ (hbn b' (by rw [how, show x.ow b' = none from h1]; simp))]
      exact h1
    have hslot : ∀ k v, St.get ⟨entry 0 vs, []⟩ (.slot k) = some v → vs[k]? = some v := fun k v h => by
      have h' : lk (entry 0 vs) k = some v := h
      rw [lk_entry, if_pos (Nat.zero_le _)] at h'
      exact h'
    refine ⟨x.give b (some (.at (.slot i))), ⟨by simp; omega, .nil rfl, fun b' hb' => ?_, fun l v h => ?_, fun k v h => ?_, (fun c v h => by cases h), fun n e hg => (E.rel.globs n e hg).mono hmono, E.rel.nofz_give (fun _ => .inl how), fun n ob hg => ?_⟩, Fr.giveRes how _⟩
    · by_cases e : b' = b
      · subst e; exact E.rel.bound _ (by rw [how]; simp)
      · rw [Cx.give_ne _ _ e] at hb'; exact E.rel.bound _ hb'
    · cases l with
      | cell c => cases h
      | slot k =>
        have h1 := hslot k v h
        have hk : k < vs.length := (List.getElem?_eq_some_iff.1 h1).1
        refine ⟨args[k]'(by omega), ?_, ?_⟩
        · simp only [conc, Option.some.injEq]
          rw [Array.getD_eq_getD_getElem?, Array.getElem?_append_left (by omega), Array.getElem?_eq_getElem (by omega)]
          rfl
        · by_cases e : k = i
          · subst e
            rw [hi] at h1
            cases h1
            rw [hv]
            exact .own _ b o _ cap z false es (by simp) rfl hcap (hA.mono hmono (fun _ _ h => h) (fun _ _ _ h => h))
          · obtain ⟨d, rfl⟩ := hd k v h1 e
            have := RdV.d_inv (E.args k _ _ (Array.getElem?_eq_getElem (by omega)) h1)
            exact .d _ _ _ (this.mono hmono)
    · have h1 := hslot k v h
      have hk : k < vs.length := (List.getElem?_eq_some_iff.1 h1).1
      omega
    · obtain ⟨g1, g2⟩ := E.rel.gobj n ob hg
      exact ⟨by rw [Cx.give_ne _ _ (hbn n (by rw [g1, how]; simp))]; exact g1, g2⟩

theorem run_enter {f : FuncId} {fn : Func} {c : Code} (hf : P.funcs[f]? = some fn) (hname : (fn.name == "runtime.NumGoroutine") = false) (hb : fn.body = some c) (args : Array Value) (w : World) :
    (callFunc f args).run P w = .ok (.enter f args) w := by
  have h1 : fn.name ≠ "runtime.NumGoroutine" := by simpa using hname
  simp [callFunc, hf, h1, hb]

/-- the table of functions is the program's -/
def FuncsOk (P : Program) (cfg : Cfg) : Prop :=
  ∀ f fn, cfg.funcs f = some fn → ∃ F ad c, P.funcs[f]? = some F ∧ (F.name == "runtime.NumGoroutine") = false ∧ F.body = some c ∧ cFunc P ad F = some fn

/-- functions that are taken by their contracts -/
def ExtOk (P : Program) (cfg : Cfg) : Prop :=
  ∀ f g, cfg.ext f = some g → ∀ ds r, g ds = some r → ∀ (F : Nat → Prop) (args : Array Value) (w : World), args.size = ds.length → (∀ (i : Nat) v d, args[i]? = some v → ds[i]? = some d → Rd F w v d) → (∀ n e, cfg.glob n = some e → PtrAt F w n 0 e) → (∀ n ob, cfg.gobj n = some ob → HoldsG w n ob) →
    Does P f args w fun v w' => w.heap.size ≤ w'.heap.size ∧ (∀ b, b < w.heap.size → w'.heap[b]? = w.heap[b]?) ∧ SameIO w w' ∧
      match r with
      | .own _ z es => ∃ b o cap, v = .slice (some (ad3 b o)) es.length cap ∧ w.heap.size ≤ b ∧ b < w'.heap.size ∧ es.length ≤ cap ∧ NoFz w' b ∧ Arr (fun b' => (F b' ∧ b' < w.heap.size) ∨ (w.heap.size ≤ b' ∧ b' ≠ b)) w' b o cap z es
      | .d y => Rd (fun b' => F b' ∨ w.heap.size ≤ b') w' v y
      | .clo g [] ys => ∃ (vb : List Value) (es : List D), ys = es.map .d ∧ v = .func (.func g) #[] vb.toArray ∧ vb.length = es.length ∧ ∀ (i : Nat) u e, vb[i]? = some u → es[i]? = some e → Rd (fun b' => F b' ∨ w.heap.size ≤ b') w' u e
      | _ => False

theorem Rel.older {s : Get} (R : Rel cfg x N s a w) {w' : World} (hz : w.heap.size ≤ w'.heap.size) (hh : ∀ b, b < w.heap.size → w'.heap[b]? = w.heap[b]?) (hio : SameIO w w')
    {x' : Cx} (hx : ∀ b, b < w.heap.size → x'.ow b = x.ow b) (hx' : ∀ b, x'.ow b ≠ none → b < w'.heap.size) (had : x'.ad = x.ad) (hbs : x'.base = x.base) (hZ : ∀ b, w.heap.size ≤ b → Held (x'.ow b) → NoFz w' b) : Rel cfg x' N s a w' ∧ Fr dep x x' w w' := by
  have hlt : ∀ b o u, w.cell? (ad3 b o) = some u → b < w.heap.size := fun b o u h => by simpa using World.block_lt_of_cell? _ _ h
  have hcell : ∀ b o u, w.cell? (ad3 b o) = some u → w'.cell? (ad3 b o) = some u := fun b o u h => by rw [cell_of_heap (hh b (hlt b o u h))]; exact h
  have hroom : Room w w' := fun b o u h1 h2 => ⟨⟨u, hcell b o u h1⟩, by rw [froz_of_heap (hh b (hlt b o u h1))]; exact h2⟩
  refine ⟨R.step [] R.size rfl hbs hx' (fun l _ v hv => ⟨hv, fun u hu => ?_⟩) (fun l hl => by simp at hl) (fun k hk => by simp at hk) (fun b o u h1 h2 => ⟨by rw [hx b (hlt b o u h2)]; exact h1, hcell b o u h2⟩) hroom (fun l hl => by simp at hl)
    (fun d k h => ⟨h, by rw [had]⟩) (fun l0 _ b hb => ⟨by rw [hx b (R.bound b (by rw [hb]; simp))]; exact hb, fun o u h => hcell b o u h⟩) (fun c v hc => ?_) (fun b h => ?_) (fun b _ hb => ⟨hx b hb, hh b hb⟩), hz, fun b hb _ => ⟨hh b hb, hx b hb⟩, fun _ _ _ => by rw [had], hio, hroom, hbs⟩
  · cases l with
    | slot k => exact hu
    | cell c => show w'.cell? (ad3 (x'.ad _ _) _) = _; rw [had]; exact hcell _ _ _ hu
  · obtain ⟨h1, h2, h3⟩ := R.box c v hc
    have hb := R.bound _ (by rw [h1]; simp)
    exact ⟨by rw [had, hx _ hb]; exact h1, h2, by rw [had, froz_of_heap (hh _ hb)]; exact h3⟩
  · by_cases hb : b < w.heap.size
    · rw [hx b hb] at h
      exact (R.nofz b h).heap (hh b hb)
    · exact hZ b (by omega) h

end
end Go.Ev

/-! EvZm -/
/- The evaluator is sound. Own work. -/
namespace Go.Ev
open Go

section
variable {P : Program} {cfg : Cfg}

theorem ext_ok (hX : ExtOk P cfg) {f : FuncId} {g : List D → Option V} (hf : cfg.ext f = some g) {dep : Nat} {vs : List V} {m : List (Cel × V)} {r : V} (h : (allD vs).bind g = some r) {x : Cx} {w : World} {args : Array Value}
    (E : Enters cfg x vs m args w) : Does P f args w fun v w' => ∃ x', Leaves cfg x x' dep m m r v w w' := by
  obtain ⟨ds, h1, h2⟩ := Option.bind_eq_some_iff.1 h
  have hvs := allD_spec h1
  subst hvs
  have hfree : ∀ b, w.heap.size ≤ b → x.ow b = none := fun b hb => by
    by_cases e : x.ow b = none
    · exact e
    · have := E.rel.bound b e; omega
  refine (hX f g hf ds r h2 (freeB x) args w (by simpa using E.size) (fun i v d e1 e2 => ?_) ?_ (fun n ob h => (E.rel.gobj n ob h).2)).mono ?_
  · exact RdV.d_inv (E.args i v (.d d) e1 (by rw [List.getElem?_map, e2]; rfl))
  · exact E.rel.globs
  · rintro v w' ⟨hz, hh, hio, hr⟩
    cases r with
    | d y =>
      obtain ⟨R', F'⟩ := E.rel.older (dep := dep) (x' := x) hz hh hio (fun _ _ => rfl) (fun b hb => Nat.lt_of_lt_of_le (E.rel.bound b hb) hz) rfl rfl (fun b hb h => by rw [hfree b hb] at h; rcases h with h | ⟨_, h⟩ <;> cases h)
      refine ⟨x, R', .d _ _ _ (Rd.mono hr fun b o u h1 h2 => ⟨?_, h2⟩), F', fun c _ h => h⟩
      rcases h1 with h1 | h1
      · exact h1
      · exact hfree b h1
    | own nw z es =>
      obtain ⟨b, o, cap, rfl, hb, hb', hcap, hnf, A⟩ := hr
      obtain ⟨R', F'⟩ := E.rel.older (dep := dep) (x' := x.give b (some .res)) hz hh hio (fun b' hlt => Cx.give_ne _ _ (by omega)) (fun b' hne => by
        by_cases e : b' = b
        · omega
        · rw [Cx.give_ne _ _ e] at hne
          exact Nat.lt_of_lt_of_le (E.rel.bound b' hne) hz) rfl rfl (fun b' hb' h => by
        by_cases e : b' = b
        · subst e; exact hnf
        · rw [Cx.give_ne _ _ e, hfree b' hb'] at h; rcases h with h | ⟨_, h⟩ <;> cases h)
      refine ⟨_, R', ⟨b, o, cap, rfl, by simp [Cx.give], hcap, A.mono (fun b' o' u h1 h2 => ⟨?_, h2⟩) (fun _ _ h => h) (fun _ _ _ h => h)⟩, F', fun c _ h => h⟩
      rcases h1 with ⟨h1, h3⟩ | ⟨h1, h3⟩
      · show (x.give b _).ow b' = none
        rw [Cx.give_ne _ _ (by omega)]; exact h1
      · show (x.give b _).ow b' = none
        rw [Cx.give_ne _ _ h3]; exact hfree b' h1
    | clo g xs ys =>
      cases xs with
      | cons _ _ => exact hr.elim
      | nil =>
      obtain ⟨vb, es, rfl, rfl, hl, hv⟩ := hr
      obtain ⟨R', F'⟩ := E.rel.older (dep := dep) (x' := x) hz hh hio (fun _ _ => rfl) (fun b hb => Nat.lt_of_lt_of_le (E.rel.bound b hb) hz) rfl rfl (fun b hb h => by rw [hfree b hb] at h; rcases h with h | ⟨_, h⟩ <;> cases h)
      refine ⟨x, R', RdV.clo none g [] vb [] (es.map .d) rfl (by simpa using hl) (fun i v y h => by simp at h) (fun i u y h1 h2 => ?_), F', fun c _ h => h⟩
      rw [List.getElem?_map, Option.map_eq_some_iff] at h2
      obtain ⟨e, h3, rfl⟩ := h2
      refine .d _ _ _ (Rd.mono (hv i u e h1 h3) fun b o u h1 h2 => ⟨?_, h2⟩)
      rcases h1 with h1 | h1
      · exact h1
      · exact hfree b h1
    | _ => exact hr.elim

theorem cFunc_spec {ad : Advice} {F : Func} {fn : IFunc} (h : cFunc P ad F = some fn) {c : Code} (hb : F.body = some c) :
    cRot P ad F.ntmps c = some fn.body ∧ cRes P F.results.toList = some fn.results ∧ fn.arity ≤ F.ntmps := by
  unfold cFunc at h
  rw [hb] at h
  simp only at h
  split at h
  · rename_i b rs h1 h2
    split at h
    · rename_i hle
      cases h
      exact ⟨h1, h2, hle⟩
    · cases h
  · cases h

theorem body_ok (hm : P.follows .mixedOrders = true) (hC : CfgOk P cfg) {orc : Orc} (hO : OrcOk P cfg orc) (hA : OrcAlive orc) {n : Nat} {f : FuncId} {F : Func} {ad : Advice} {c : Code} {fn : IFunc} (hf : P.funcs[f]? = some F) (hname : (F.name == "runtime.NumGoroutine") = false)
    (hb : F.body = some c) (hc : cFunc P ad F = some fn) {dep : Nat} {vs : List V} {m m' : List (Cel × V)} {r : V} (h : evBody cfg orc n fn dep vs m = some (r, m')) (halive : ∀ c : Cel, c.d < dep → (lk m c).isSome → (lk m' c).isSome) {x : Cx} {w : World} {args : Array Value}
    (E : Enters cfg x vs m args w) : Does P f args w fun v w' => ∃ x', Leaves cfg x x' dep m m' r v w w' := by
  obtain ⟨hcode, hres, har⟩ := cFunc_spec hc hb
  unfold evBody at h
  split at h
  · rename_i hv
    obtain ⟨x0, R0, F0⟩ := Rel.enterG (dep := dep) E hv.2 (n := F.ntmps) (by omega)
    have key : ∀ {e st v}, exitOf e = .normal ∨ exitOf e = .ret → evCode cfg orc dep n fn.body ⟨entry 0 vs, m⟩ = some (e, st) → resAll dep st.get fn.results = some v → leaveR dep v st.mem = some (r, m') → Does P f args w fun v w' => ∃ x', Leaves cfg x x' dep m m' r v w w' := by
      intro e st v he hev h1 h2
      refine .inr ⟨run_enter hf hname hb args w, callsIn_wide.1 (CallsIn.mono (n := 0) (R := fun e w' => ∃ v, e = .returned v ∧ ∃ x', Leaves cfg x x' dep m m' r v w w') (callsIn_of_wp_marks hf hb trivial (wpIn_wide.2 ?_)) (fun e w' h => by obtain ⟨v, rfl, h⟩ := h; exact h))⟩
      refine rot_wp hm hC hO hA c fn.body hcode hev (R0.from rfl w.heap.size) (Nat.le_refl _) (fun a' w' x' R' F' => ?_)
      obtain ⟨l, hl, hnd, hD⟩ := R'.defs
      obtain ⟨w2, R2, k1, k2, k3, k4, k5⟩ := Rel.shut (P := P) (fn := F) (T := fun e w' => ∃ v, e = .returned v ∧ ∃ x', Leaves cfg x x' dep m m' r v w w') l w' R'.undefer hnd hD
      obtain ⟨u, x'', g1, g2, g3, g4⟩ := results_ok R2 hres h1 h2
      have hb' : x'.base = w.heap.size := F'.base
      have FT : Fr dep (x0.from w.heap.size) x'' w w2 := ⟨Nat.le_trans F'.size k1, fun b hb ho => by
        obtain ⟨q1, q2⟩ := F'.same b hb ho
        have q3 := (g4.same b (Nat.lt_of_lt_of_le hb (Nat.le_trans F'.size k1)) (by rw [q2]; exact ho)).2
        exact ⟨(k2 b (by rw [hb']; exact hb)).trans q1, q3.trans q2⟩, fun d k hd => (g4.ad d k hd).trans (F'.ad d k hd), F'.io.trans k3, F'.room.trans k4, g4.base.trans F'.base⟩
      have hp : LeavesInM Fence.wide 0 P F a'.tmps (fun e w' => ∃ v, e = .returned v ∧ ∃ x', Leaves cfg x x' dep m m' r v w w') a'.defers .returning w' := by
        rw [hl]
        refine k5 ⟨u, g1, u, rfl, x''.from x.base, ⟨g2.from rfl _, ?_, F0.trans (by have := FT.from; rwa [F0.base] at this), halive⟩⟩
        rw [conc_from]
        exact g3.from _
      rcases he with he | he <;> rw [he] <;> exact hp
    split at h
    · rename_i st hev
      obtain ⟨v, h1, h2⟩ := Option.bind_eq_some_iff.1 h
      exact key (.inl rfl) hev h1 h2
    · rename_i st hev
      obtain ⟨v, h1, h2⟩ := Option.bind_eq_some_iff.1 h
      exact key (.inr rfl) hev h1 h2
    · cases h
  · cases h

theorem fn_ok (hm : P.follows .mixedOrders = true) (hC : CfgOk P cfg) (hF : FuncsOk P cfg) (hX : ExtOk P cfg) : ∀ n, OrcOk P cfg (evFn cfg n)
  | 0 => fun _ _ _ _ _ _ h => by cases h
  | n + 1 => fun f dep vs m r m' h x w args E => by
    have halive := alive_fn cfg (n + 1) f dep vs m r m' h
    unfold evFn at h
    split at h
    · rename_i g hg
      simp only [Option.map_eq_some_iff] at h
      obtain ⟨v, h1, he⟩ := h
      cases he
      exact ext_ok hX hg h1 E
    · split at h
      · rename_i fn hfn
        obtain ⟨F, ad, c, h1, h2, h3, h4⟩ := hF f fn hfn
        exact body_ok hm hC (fn_ok hm hC hF hX n) (alive_fn cfg n) h1 h2 h3 h4 h halive E
      · cases h

end
end Go.Ev

/-! EvZn -/
/- More fuel, same answer. Own work. -/
namespace Go.Ev
open Go

def Le (o o' : Orc) : Prop := ∀ f d vs m r, o f d vs m = some r → o' f d vs m = some r

section
variable {cfg : Cfg} {o o' : Orc} {dep : Nat}

theorem callU_le (h : Le o o') {s : Get} {dst : Option Nat} {own : Bool} {f : FuncId} {vs : List V} {u} (hu : callU o s dst own f vs = some u) : callU o' s dst own f vs = some u := by
  unfold callU at hu ⊢
  split at hu
  · rename_i ds sh hd
    split at hu
    · rename_i r m hr
      simp only [h _ _ _ _ _ hr]
      exact hu
    · cases hu
  · cases hu

theorem callT_le (h : Le o o') {s : Get} {dst : Option Nat} {own : Bool} {f : FuncId} {args : List IOpd} {u} (hu : callT cfg o s dst own f args = some u) : callT cfg o' s dst own f args = some u := by
  unfold callT at hu ⊢
  simp only [Option.bind_eq_some_iff, Option.map_eq_some_iff] at hu ⊢
  obtain ⟨vs, h1, u', h2, h3⟩ := hu
  exact ⟨vs, h1, u', callU_le h h2, h3⟩

theorem callR_inv {s : Get} {dst : Option Nat} {op : IOp} {vs : List V} {u} (hu : callR cfg o s dst op vs = some u) : ∃ own f args ds r, op = .call own f args ∧ argsD s vs = some (ds, true) ∧ o f 0 (ds.map .d) [] = some r ∧ callT cfg o s dst own f args = some u := by
  unfold callR at hu
  split at hu
  · rename_i own f args
    split at hu
    · rename_i ds hd
      split at hu
      · rename_i r hr
        exact ⟨own, f, args, ds, r, rfl, hd, hr, hu⟩
      · cases hu
    · cases hu
  · cases hu

theorem callR_of {s : Get} {dst : Option Nat} {own : Bool} {f : FuncId} {args : List IOpd} {vs : List V} {ds : List D} {r} (hd : argsD s vs = some (ds, true)) (hr : o f 0 (ds.map .d) [] = some r) :
    callR cfg o s dst (.call own f args) vs = callT cfg o s dst own f args := by
  unfold callR
  simp only [hd, hr]

/-- a call that lends: the answer as it is, or with the arrays given up -/
theorem callUR_le (h : Le o o') {s : Get} {dst : Option Nat} {own : Bool} {f : FuncId} {op : IOp} {vs : List V} (hop : ∀ own' f' args, op = .call own' f' args → f' = f) {u} (hu : (match callU o s dst own f vs with | some u => some u | none => callR cfg o s dst op vs) = some u) :
    (match callU o' s dst own f vs with | some u => some u | none => callR cfg o' s dst op vs) = some u := by
  split at hu
  · rename_i u' h1
    simp only [callU_le h h1]
    exact hu
  · rename_i h1
    obtain ⟨own', f', args, ds, r, rfl, hd, hr, ht⟩ := callR_inv hu
    cases hop _ _ _ rfl
    have h2 : callU o' s dst own f vs = none := by
      unfold callU at h1 ⊢
      simp only [hd, hr] at h1
      simp only [hd, h _ _ _ _ _ hr]
      exact h1
    simp only [h2]
    rw [callR_of hd (h _ _ _ _ _ hr)]
    exact callT_le h ht

theorem callG_le (h : Le o o') {s : Get} {dst : Option Nat} {own : Bool} {f : FuncId} {args : List IOpd} {i : Nat} {u} (hu : callG cfg o s dst own f args i = some u) : callG cfg o' s dst own f args i = some u := by
  unfold callG at hu ⊢
  simp only [Option.bind_eq_some_iff] at hu ⊢
  obtain ⟨ix, hix, v, hv, g, hg, vs, hvs, q, hq, ⟨r, m⟩, hor, hl⟩ := hu
  exact ⟨ix, hix, v, hv, g, hg, vs, hvs, q, hq, ⟨r, m⟩, h _ _ _ _ _ hor, hl⟩

theorem evOpG_le (h : Le o o') {s : Get} {dst : Option Nat} {op : IOp} {u} (hu : evOpG cfg o dep s dst op = some u) : evOpG cfg o' dep s dst op = some u := by
  unfold evOpG at hu ⊢
  split at hu
  · exact callG_le h hu
  · exact hu

theorem stepU_le (h : Le o o') {s : Get} {io : IOper} {u} (hu : stepU cfg o dep s io = some u) : stepU cfg o' dep s io = some u := by
  unfold stepU at hu ⊢
  split at hu
  · cases hu
  · exact hu
  · split at hu
    · cases hu
    · rename_i hno
      rw [if_neg hno]
      split at hu
      · rename_i hcl
        rw [if_pos hcl]
        split at hu
        · exact hu
        · split at hu
          · rename_i own f vs ht
            refine callUR_le h (fun own' f' args e => ?_) hu
            rw [e] at ht
            simp only [target, Option.map_eq_some_iff] at ht
            obtain ⟨_, _, h⟩ := ht
            cases h; rfl
          · cases hu
      · rename_i hcl
        rw [if_neg hcl]; exact evOpG_le h hu

theorem callM_le (h : Le o o') {s : St} {dst : Option Nat} {own : Bool} {f : FuncId} {vs : List V} {s'} (hu : callM o dep s dst own f vs = some s') : callM o' dep s dst own f vs = some s' := by
  unfold callM at hu ⊢
  split at hu
  · rename_i hc
    rw [if_pos hc]
    split at hu
    · rename_i r m hr
      simp only [h _ _ _ _ _ hr]
      exact hu
    · cases hu
  · cases hu

theorem stepM_inv {s s' : St} {io : IOper} (hu : stepM cfg o dep s io = some s') : ∃ own f vs, guardOk s.get io.guard = some true ∧ (io.dst.isSome && isCallOp io.op && (clipArg cfg io.op).isNone) = true ∧ target cfg s.get io.op = some (own, f, vs) ∧
    callM o dep s io.dst own f vs = some s' := by
  unfold stepM at hu
  split at hu
  · rename_i hg
    split at hu
    · rename_i hc
      split at hu
      · rename_i own f vs ht
        exact ⟨own, f, vs, hg, hc, ht, hu⟩
      · cases hu
    · cases hu
  · cases hu

theorem stepM_le (h : Le o o') {s s' : St} {io : IOper} (hu : stepM cfg o dep s io = some s') : stepM cfg o' dep s io = some s' := by
  obtain ⟨own, f, vs, hg, hc, ht, hm⟩ := stepM_inv hu
  unfold stepM
  simp only [hg, hc, ht, if_true]
  exact callM_le h hm

/-- never both -/
theorem stepU_none {o'' : Orc} {s s' : St} {io : IOper} (hu : stepM cfg o dep s io = some s') : stepU cfg o'' dep s.get io = none := by
  obtain ⟨own, f, vs, hg, hc, ht, hm⟩ := stepM_inv hu
  simp only [Bool.and_eq_true, Option.isNone_iff_eq_none] at hc
  obtain ⟨⟨h1, h2⟩, h3⟩ := hc
  have hn : argsD s.get vs = none := by
    unfold callM at hm
    split at hm
    · rename_i hq
      simp only [Bool.and_eq_true, Option.isNone_iff_eq_none] at hq
      exact hq.1
    · cases hm
  unfold stepU
  have h1' : io.dst.isNone = false := by cases hd : io.dst <;> simp_all
  simp only [hg, h1', Bool.false_and, Bool.false_eq_true, if_false, h2, if_true, h3, ht, callU, hn]
  cases hr : callR cfg o'' s.get io.dst io.op vs with
  | none => rfl
  | some u =>
    obtain ⟨_, _, _, _, _, _, hd, _⟩ := callR_inv hr
    rw [hn] at hd; cases hd

theorem evStep_le (h : Le o o') {s s' : St} {io : IOper} (hu : evStep cfg o dep s io = some s') : evStep cfg o' dep s io = some s' := by
  unfold evStep at hu ⊢
  split at hu
  · rename_i u h1
    simp only [stepU_le h h1]
    exact hu
  · simp only [stepU_none (o'' := o') hu]
    exact stepM_le h hu

theorem evOps_le (h : Le o o') : ∀ (l : List IOper) {s s' : St}, evOps cfg o dep l s = some s' → evOps cfg o' dep l s = some s'
  | [], _, _, hu => hu
  | io :: l, s, s', hu => by
    unfold evOps at hu ⊢
    split at hu
    · rename_i s1 h1
      simp only [evStep_le h h1]
      exact evOps_le h l hu
    · cases hu

theorem evOpsU_le (h : Le o o') : ∀ (l : List IOper) {s : St} {r}, evOpsU cfg o dep l s = some r → evOpsU cfg o' dep l s = some r
  | [], _, _, hu => hu
  | io :: l, s, r, hu => by
    unfold evOpsU at hu ⊢
    split at hu
    · rename_i u h1
      split at hu
      · rename_i l' s' h2
        simp only [stepU_le h h1, evOpsU_le h l h2]
        exact hu
      · cases hu
    · cases hu

theorem evRegion_le (h : Le o o') {l : List IOper} {un : List (Nat × Nat)} {s s' : St} (hu : evRegion cfg o dep l un s = some s') : evRegion cfg o' dep l un s = some s' := by
  unfold evRegion at hu ⊢
  split at hu
  · exact evOps_le h l hu
  · split at hu
    · rename_i l' s1 h1
      simp only [evOpsU_le h _ h1]
      exact hu
    · cases hu

theorem evLoop_le {f g : St → Option (Ex × St)} (h : ∀ s r, f s = some r → g s = some r) : ∀ {n n' : Nat}, n ≤ n' → ∀ {s : St} {r}, evLoop f n s = some r → evLoop g n' s = some r
  | 0, _, _, _, _, hu => by cases hu
  | n + 1, n', hn, s, r, hu => by
    obtain ⟨k, rfl⟩ : ∃ k, n' = k + 1 := ⟨n' - 1, by omega⟩
    unfold evLoop at hu ⊢
    split at hu
    · rename_i s1 h1
      simp only [h _ _ h1]
      exact evLoop_le h (by omega) hu
    · rename_i hno
      cases hf : f s with
      | none => rw [hf] at hu; cases hu
      | some q =>
        rw [hf] at hu
        cases hu
        rw [h _ _ hf]
        split
        · rename_i s1 he
          cases he
          exact absurd hf (hno s1)
        · rfl

theorem evEach_le {f g : List D → List (Cel × V) → Option (Ex × List (Cel × V))} (h : ∀ x m r, f x m = some r → g x m = some r) : ∀ (l : List (List D)) {m : List (Cel × V)} {r}, evEach f l m = some r → evEach g l m = some r
  | [], _, _, hu => hu
  | x :: l, m, r, hu => by
    unfold evEach at hu ⊢
    split at hu
    · rename_i m1 h1
      simp only [h _ _ _ h1]
      exact evEach_le h l hu
    · rename_i hno
      rw [h _ _ _ hu]
      split
      · rename_i m1 he; cases he; exact absurd hu (hno m1)
      · rfl

theorem evRound_le {ca cb ca' cb' : St → Option (Ex × St)} (ha : ∀ s r, ca s = some r → ca' s = some r) (hb : ∀ s r, cb s = some r → cb' s = some r) {dep : Nat} {ps : List Nat} {e : List (Nat × V)} {x : List D} {m : List (Cel × V)} {r} (h : evRound ca cb dep ps e x m = some r) :
    evRound ca' cb' dep ps e x m = some r := by
  unfold evRound at h ⊢
  split at h
  · rename_i e1 _
    split at h
    · rename_i s1 h1
      simp only [ha _ _ h1]
      split at h
      · rename_i q s2 h2
        simp only [hb _ _ h2]
        exact h
      · cases h
    · cases h
  · cases h

theorem evCode_le (h : Le o o') {n n' : Nat} (hn : n ≤ n') : ∀ (c : ICode) {dep : Nat} {s : St} {r}, evCode cfg o dep n c s = some r → evCode cfg o' dep n' c s = some r := by
  intro c
  induction c with
  | skip => intro dep s r hu; simpa only [evCode] using hu
  | region ops un keep =>
    intro dep s r hu
    simp only [evCode] at hu ⊢
    split at hu
    · rename_i s1 h1
      simp only [evRegion_le h h1]
      exact hu
    · cases hu
  | seq a b iha ihb =>
    intro dep s r hu
    simp only [evCode] at hu ⊢
    split at hu
    · rename_i s1 h1
      simp only [iha h1]
      exact ihb hu
    · rename_i hno
      have := iha hu
      rw [this]
      split
      · rename_i s1 he
        cases he
        exact absurd hu (hno s1)
      · rfl
  | cond x a b iha ihb =>
    intro dep s r hu
    simp only [evCode] at hu ⊢
    split at hu
    · split at hu
      · rename_i ht; rw [if_pos ht]; exact iha hu
      · rename_i ht; rw [if_neg ht]; exact ihb hu
    · exact bothWays_of (fun r h => iha h) (fun r h => ihb h) hu
    · cases hu
  | block id b ih =>
    intro dep s r hu
    simp only [evCode] at hu ⊢
    split at hu
    · rename_i id' s1 h1
      simp only [ih h1]
      exact hu
    · rename_i hno
      rw [ih hu]
      split
      · rename_i id' s1 he
        cases he
        exact absurd hu (hno _ _)
      · rfl
  | loop b ih =>
    intro dep s r hu
    simp only [evCode] at hu ⊢
    exact evLoop_le (fun s r h => ih h) hn hu
  | exit id => intro dep s r hu; simpa only [evCode] using hu
  | ret => intro dep s r hu; simpa only [evCode] using hu
  | demote ls => intro dep s r hu; simpa only [evCode] using hu
  | give ls => intro dep s r hu; simpa only [evCode] using hu
  | each x ps a b iha ihb =>
    intro dep s r hu
    simp only [evCode] at hu ⊢
    split at hu
    · rename_i l hl
      split at hu
      · rename_i e m h1
        rw [evEach_le (fun x m r h => evRound_le (fun s r h => iha h) (fun s r h => ihb h) h) l h1]
        exact hu
      · cases hu
    · cases hu
  | free k => intro dep s r hu; simpa only [evCode] using hu
  | bad => intro dep s r hu; simp [evCode] at hu

theorem evBody_le (h : Le o o') {n n' : Nat} (hn : n ≤ n') {fn : IFunc} {vs : List V} {m : List (Cel × V)} {r} (hu : evBody cfg o n fn dep vs m = some r) : evBody cfg o' n' fn dep vs m = some r := by
  unfold evBody at hu ⊢
  split at hu
  · rename_i hc
    rw [if_pos hc]
    split at hu
    · rename_i s h1
      simp only [evCode_le h hn _ h1]
      exact hu
    · rename_i s h1
      simp only [evCode_le h hn _ h1]
      exact hu
    · cases hu
  · cases hu

theorem evFn_le (cfg : Cfg) : ∀ {n n' : Nat}, n ≤ n' → Le (evFn cfg n) (evFn cfg n')
  | 0, _, _ => fun _ _ _ _ _ h => by cases h
  | n + 1, n', hn => fun f d vs m r h => by
    obtain ⟨k, rfl⟩ : ∃ k, n' = k + 1 := ⟨n' - 1, by omega⟩
    unfold evFn at h ⊢
    split at h
    · exact h
    · split at h
      · exact evBody_le (evFn_le cfg (by omega)) (by omega) h
      · cases h

/-! the limit -/

open Classical in
noncomputable def Lim {β : Type} (f : Nat → Option β) : Option β := if h : ∃ r n, f n = some r then some h.choose else none

def Up {β : Type} (f : Nat → Option β) : Prop := ∀ n n' r, n ≤ n' → f n = some r → f n' = some r

theorem Lim_iff {β : Type} {f : Nat → Option β} (hf : Up f) {r : β} : Lim f = some r ↔ ∃ n, f n = some r := by
  unfold Lim
  constructor
  · intro h
    split at h
    · rename_i hx
      cases h
      exact hx.choose_spec
    · cases h
  · rintro ⟨n, hn⟩
    have hx : ∃ r n, f n = some r := ⟨r, n, hn⟩
    rw [dif_pos hx]
    obtain ⟨k, hk⟩ := hx.choose_spec
    have h1 := hf n (max n k) _ (Nat.le_max_left _ _) hn
    have h2 := hf k (max n k) _ (Nat.le_max_right _ _) hk
    rw [h1] at h2
    exact h2.symm

/-- what a function answers -/
noncomputable def evL (cfg : Cfg) : Orc := fun f d vs m => Lim fun n => evFn cfg n f d vs m

theorem evL_iff {cfg : Cfg} {f : FuncId} {d : Nat} {vs : List V} {m : List (Cel × V)} {r} : evL cfg f d vs m = some r ↔ ∃ n, evFn cfg n f d vs m = some r :=
  Lim_iff fun n n' r hn h => evFn_le cfg hn _ _ _ _ _ h

theorem evFn_evL (cfg : Cfg) (n : Nat) : Le (evFn cfg n) (evL cfg) := fun _ _ _ _ _ h => evL_iff.2 ⟨n, h⟩

/-! what the limit answers is answered on the way -/

theorem callU_on {s : Get} {dst : Option Nat} {own : Bool} {f : FuncId} {vs : List V} {u} (hu : callU (evL cfg) s dst own f vs = some u) : ∃ k, callU (evFn cfg k) s dst own f vs = some u := by
  unfold callU at hu
  split at hu
  · rename_i ds sh hd
    split at hu
    · rename_i r m hr
      obtain ⟨k, hk⟩ := evL_iff.1 hr
      refine ⟨k, ?_⟩
      unfold callU
      simp only [hd, hk]
      exact hu
    · cases hu
  · cases hu

theorem callUR_on {s : Get} {dst : Option Nat} {own : Bool} {f : FuncId} {op : IOp} {vs : List V} (hop : ∀ own' f' args, op = .call own' f' args → f' = f) {u} (hu : (match callU (evL cfg) s dst own f vs with | some u => some u | none => callR cfg (evL cfg) s dst op vs) = some u) :
    ∃ k, (match callU (evFn cfg k) s dst own f vs with | some u => some u | none => callR cfg (evFn cfg k) s dst op vs) = some u := by
  split at hu
  · rename_i u' h1
    obtain ⟨k, hk⟩ := callU_on h1
    exact ⟨k, by simp only [hk]; exact hu⟩
  · rename_i h1
    obtain ⟨own', f', args, ds, r, rfl, hd, hr, ht⟩ := callR_inv hu
    cases hop _ _ _ rfl
    obtain ⟨k1, hk1⟩ := evL_iff.1 hr
    unfold callT at ht
    simp only [Option.bind_eq_some_iff, Option.map_eq_some_iff] at ht
    obtain ⟨vs', h2, u', h3, h4⟩ := ht
    obtain ⟨k2, hk2⟩ := callU_on h3
    have g1 := evFn_le cfg (Nat.le_max_left k1 k2) _ _ _ _ _ hk1
    refine ⟨max k1 k2, ?_⟩
    have h5 : callU (evFn cfg (max k1 k2)) s dst own f vs = none := by
      unfold callU at h1 ⊢
      simp only [hd, hr] at h1
      simp only [hd, g1]
      exact h1
    simp only [h5]
    rw [callR_of hd g1]
    unfold callT
    simp only [Option.bind_eq_some_iff, Option.map_eq_some_iff]
    exact ⟨vs', h2, u', callU_le (evFn_le cfg (Nat.le_max_right k1 k2)) hk2, h4⟩

theorem callG_on {s : Get} {dst : Option Nat} {own : Bool} {f : FuncId} {args : List IOpd} {i : Nat} {u} (hu : callG cfg (evL cfg) s dst own f args i = some u) : ∃ k, callG cfg (evFn cfg k) s dst own f args i = some u := by
  unfold callG at hu
  simp only [Option.bind_eq_some_iff] at hu
  obtain ⟨ix, hix, v, hv, g, hg, vs, hvs, q, hq, ⟨r, m⟩, hor, hl⟩ := hu
  obtain ⟨k, hk⟩ := evL_iff.1 hor
  refine ⟨k, ?_⟩
  unfold callG
  simp only [Option.bind_eq_some_iff]
  exact ⟨ix, hix, v, hv, g, hg, vs, hvs, q, hq, ⟨r, m⟩, hk, hl⟩

theorem evOpG_on {s : Get} {dst : Option Nat} {op : IOp} {u} (hu : evOpG cfg (evL cfg) dep s dst op = some u) : ∃ k, evOpG cfg (evFn cfg k) dep s dst op = some u := by
  unfold evOpG at hu
  split at hu
  · obtain ⟨k, hk⟩ := callG_on hu
    exact ⟨k, by simp only [evOpG]; exact hk⟩
  · rename_i hng
    refine ⟨0, ?_⟩
    unfold evOpG
    split
    · rename_i own f args i; exact absurd rfl (hng own f args i)
    · exact hu

theorem stepU_on {s : Get} {io : IOper} {u} (hu : stepU cfg (evL cfg) dep s io = some u) : ∃ k, stepU cfg (evFn cfg k) dep s io = some u := by
  have hu' := hu
  unfold stepU at hu
  split at hu
  · cases hu
  · rename_i hg
    refine ⟨0, ?_⟩
    unfold stepU
    simp only [hg]; exact hu
  · rename_i hg
    split at hu
    · cases hu
    · rename_i hno
      split at hu
      · rename_i hcl
        split at hu
        · rename_i x hx
          refine ⟨0, ?_⟩
          unfold stepU
          simp only [hg, hcl, hx, if_true]
          rw [if_neg hno]; exact hu
        · rename_i hx
          split at hu
          · rename_i own f vs ht
            obtain ⟨k, hk⟩ := callUR_on (fun own' f' args e => by
              rw [e] at ht
              simp only [target, Option.map_eq_some_iff] at ht
              obtain ⟨_, _, h⟩ := ht
              cases h; rfl) hu
            refine ⟨k, ?_⟩
            unfold stepU
            simp only [hg, hcl, hx, ht, if_true]
            rw [if_neg hno]; exact hk
          · cases hu
      · rename_i hcl
        obtain ⟨k, hk⟩ := evOpG_on hu
        refine ⟨k, ?_⟩
        unfold stepU
        simp only [hg]
        rw [if_neg hno, if_neg hcl]; exact hk

theorem evStep_on {s s' : St} {io : IOper} (hu : evStep cfg (evL cfg) dep s io = some s') : ∃ k, evStep cfg (evFn cfg k) dep s io = some s' := by
  unfold evStep at hu
  split at hu
  · rename_i u h1
    obtain ⟨k, hk⟩ := stepU_on h1
    refine ⟨k, ?_⟩
    unfold evStep
    simp only [hk]; exact hu
  · obtain ⟨own, f, vs, hg, hc, ht, hm⟩ := stepM_inv hu
    have hm' := hm
    unfold callM at hm
    split at hm
    · rename_i hq
      split at hm
      · rename_i r m hr
        obtain ⟨k, hk⟩ := evL_iff.1 hr
        have h2 : stepM cfg (evFn cfg k) dep s io = some s' := by
          unfold stepM
          simp only [hg, hc, ht, if_true]
          unfold callM
          rw [if_pos hq]
          simp only [hk]
          exact hm
        refine ⟨k, ?_⟩
        unfold evStep
        simp only [stepU_none (o'' := evFn cfg k) h2]
        exact h2
      · cases hm
    · cases hm

theorem evOps_on : ∀ (l : List IOper) {s s' : St}, evOps cfg (evL cfg) dep l s = some s' → ∃ k, evOps cfg (evFn cfg k) dep l s = some s'
  | [], _, _, hu => ⟨0, hu⟩
  | io :: l, s, s', hu => by
    unfold evOps at hu
    split at hu
    · rename_i s1 h1
      obtain ⟨k1, g1⟩ := evStep_on h1
      obtain ⟨k2, g2⟩ := evOps_on l hu
      refine ⟨max k1 k2, ?_⟩
      unfold evOps
      simp only [evStep_le (evFn_le cfg (Nat.le_max_left k1 k2)) g1]
      exact evOps_le (evFn_le cfg (Nat.le_max_right k1 k2)) l g2
    · cases hu

theorem evOpsU_on : ∀ (l : List IOper) {s : St} {r}, evOpsU cfg (evL cfg) dep l s = some r → ∃ k, evOpsU cfg (evFn cfg k) dep l s = some r
  | [], _, _, hu => ⟨0, hu⟩
  | io :: l, s, r, hu => by
    unfold evOpsU at hu
    split at hu
    · rename_i u h1
      split at hu
      · rename_i l' s1 h2
        obtain ⟨k1, g1⟩ := stepU_on h1
        obtain ⟨k2, g2⟩ := evOpsU_on l h2
        refine ⟨max k1 k2, ?_⟩
        unfold evOpsU
        simp only [stepU_le (evFn_le cfg (Nat.le_max_left k1 k2)) g1, evOpsU_le (evFn_le cfg (Nat.le_max_right k1 k2)) l g2]
        exact hu
      · cases hu
    · cases hu

theorem evRegion_on {l : List IOper} {un : List (Nat × Nat)} {s s' : St} (hu : evRegion cfg (evL cfg) dep l un s = some s') : ∃ k, evRegion cfg (evFn cfg k) dep l un s = some s' := by
  unfold evRegion at hu
  split at hu
  · exact evOps_on l hu
  · split at hu
    · rename_i hno l' s1 h1
      obtain ⟨k, hk⟩ := evOpsU_on _ h1
      refine ⟨k, ?_⟩
      unfold evRegion
      simp only [hk]
      exact hu
    · cases hu

theorem evLoop_on {f : St → Option (Ex × St)} {g : Nat → St → Option (Ex × St)} (hup : ∀ k k', k ≤ k' → ∀ s r, g k s = some r → g k' s = some r) (h : ∀ s r, f s = some r → ∃ k, g k s = some r) : ∀ (n : Nat) {s : St} {r}, evLoop f n s = some r → ∃ k, evLoop (g k) n s = some r
  | 0, _, _, hu => by cases hu
  | n + 1, s, r, hu => by
    unfold evLoop at hu
    split at hu
    · rename_i s1 h1
      obtain ⟨k1, g1⟩ := h _ _ h1
      obtain ⟨k2, g2⟩ := evLoop_on hup h n hu
      refine ⟨max k1 k2, ?_⟩
      unfold evLoop
      simp only [hup _ _ (Nat.le_max_left k1 k2) _ _ g1]
      exact evLoop_le (hup _ _ (Nat.le_max_right k1 k2)) (Nat.le_refl _) g2
    · rename_i hno
      obtain ⟨k, hk⟩ := h _ _ hu
      refine ⟨k, ?_⟩
      unfold evLoop
      rw [hk]
      split
      · rename_i s1 he
        cases he
        exact absurd hu (hno s1)
      · rfl

theorem evEach_on {f : List D → List (Cel × V) → Option (Ex × List (Cel × V))} {g : Nat → List D → List (Cel × V) → Option (Ex × List (Cel × V))} (hup : ∀ k k', k ≤ k' → ∀ x m r, g k x m = some r → g k' x m = some r) (h : ∀ x m r, f x m = some r → ∃ k, g k x m = some r) :
    ∀ (l : List (List D)) {m : List (Cel × V)} {r}, evEach f l m = some r → ∃ k, evEach (g k) l m = some r
  | [], _, _, hu => ⟨0, hu⟩
  | x :: l, m, r, hu => by
    unfold evEach at hu
    split at hu
    · rename_i m1 h1
      obtain ⟨k1, g1⟩ := h _ _ _ h1
      obtain ⟨k2, g2⟩ := evEach_on hup h l hu
      refine ⟨max k1 k2, ?_⟩
      unfold evEach
      simp only [hup _ _ (Nat.le_max_left k1 k2) _ _ _ g1]
      exact evEach_le (hup _ _ (Nat.le_max_right k1 k2)) l g2
    · rename_i hno
      obtain ⟨k, hk⟩ := h _ _ _ hu
      refine ⟨k, ?_⟩
      unfold evEach
      rw [hk]
      split
      · rename_i m1 he; cases he; exact absurd hu (hno m1)
      · rfl

theorem evCode_on {n : Nat} : ∀ (c : ICode) {dep : Nat} {s : St} {r}, evCode cfg (evL cfg) dep n c s = some r → ∃ k, evCode cfg (evFn cfg k) dep n c s = some r := by
  intro c
  induction c with
  | region ops un keep =>
    intro dep s r hu
    simp only [evCode] at hu ⊢
    split at hu
    · rename_i s1 h1
      obtain ⟨k, hk⟩ := evRegion_on h1
      exact ⟨k, by simp only [hk]; exact hu⟩
    · cases hu
  | seq a b iha ihb =>
    intro dep s r hu
    simp only [evCode] at hu ⊢
    split at hu
    · rename_i s1 h1
      obtain ⟨k1, g1⟩ := iha h1
      obtain ⟨k2, g2⟩ := ihb hu
      refine ⟨max k1 k2, ?_⟩
      simp only [evCode_le (evFn_le cfg (Nat.le_max_left k1 k2)) (Nat.le_refl n) a g1]
      exact evCode_le (evFn_le cfg (Nat.le_max_right k1 k2)) (Nat.le_refl n) b g2
    · rename_i hno
      obtain ⟨k, hk⟩ := iha hu
      refine ⟨k, ?_⟩
      rw [hk]
      split
      · rename_i s1 he
        cases he
        exact absurd hu (hno s1)
      · rfl
  | cond x a b iha ihb =>
    intro dep s r hu
    simp only [evCode] at hu ⊢
    split at hu
    · split at hu
      · rename_i ht; obtain ⟨k, hk⟩ := iha hu; exact ⟨k, by rw [if_pos ht]; exact hk⟩
      · rename_i ht; obtain ⟨k, hk⟩ := ihb hu; exact ⟨k, by rw [if_neg ht]; exact hk⟩
    · obtain ⟨h1, h2⟩ := bothWays_eq hu
      obtain ⟨k1, g1⟩ := iha h1
      obtain ⟨k2, g2⟩ := ihb h2
      refine ⟨max k1 k2, ?_⟩
      rw [evCode_le (evFn_le cfg (Nat.le_max_left k1 k2)) (Nat.le_refl n) a g1, evCode_le (evFn_le cfg (Nat.le_max_right k1 k2)) (Nat.le_refl n) b g2]
      rw [h1, h2] at hu
      exact hu
    · cases hu
  | block id b ih =>
    intro dep s r hu
    simp only [evCode] at hu ⊢
    split at hu
    · rename_i id' s1 h1
      obtain ⟨k, hk⟩ := ih h1
      exact ⟨k, by simp only [hk]; exact hu⟩
    · rename_i hno
      obtain ⟨k, hk⟩ := ih hu
      refine ⟨k, ?_⟩
      rw [hk]
      split
      · rename_i id' s1 he
        cases he
        exact absurd hu (hno _ _)
      · rfl
  | loop b ih =>
    intro dep s r hu
    simp only [evCode] at hu ⊢
    exact evLoop_on (f := evCode cfg (evL cfg) dep n b) (g := fun k => evCode cfg (evFn cfg k) dep n b) (fun k k' hk s r h => evCode_le (evFn_le cfg hk) (Nat.le_refl n) b h) (fun s r h => ih h) n hu
  | each x ps a b iha ihb =>
    intro dep s r hu
    simp only [evCode] at hu ⊢
    split at hu
    · rename_i l hl
      split at hu
      · rename_i e m h1
        obtain ⟨k, hk⟩ := evEach_on (g := fun k => evRound (evCode cfg (evFn cfg k) (dep + 1) n a) (evCode cfg (evFn cfg k) (dep + 1) n b) dep ps (dropBor dep s.env))
          (fun k k' hk x m r h => evRound_le (fun s r h => evCode_le (evFn_le cfg hk) (Nat.le_refl n) a h) (fun s r h => evCode_le (evFn_le cfg hk) (Nat.le_refl n) b h) h)
          (fun x m r h => by
            obtain ⟨e1, s1, s2, h3, h4, h5, h6⟩ := evRound_spec (e := r.1) (m' := r.2) h
            obtain ⟨k1, g1⟩ := iha h4
            obtain ⟨k2, g2⟩ := ihb h5
            refine ⟨max k1 k2, ?_⟩
            unfold evRound
            simp only [h3, evCode_le (evFn_le cfg (Nat.le_max_left k1 k2)) (Nat.le_refl n) a g1, evCode_le (evFn_le cfg (Nat.le_max_right k1 k2)) (Nat.le_refl n) b g2]
            rw [← h6]) l h1
        exact ⟨k, by rw [hk]; exact hu⟩
      · cases hu
    · cases hu
  | bad => intro dep s r hu; simp [evCode] at hu
  | _ => intro dep s r hu; exact ⟨0, by simpa only [evCode] using hu⟩

/-! without fuel -/

noncomputable def evC (cfg : Cfg) (dep : Nat) (c : ICode) (s : St) : Option (Ex × St) := Lim fun n => evCode cfg (evL cfg) dep n c s

theorem evC_iff {c : ICode} {s : St} {r} : evC cfg dep c s = some r ↔ ∃ n, evCode cfg (evL cfg) dep n c s = some r :=
  Lim_iff fun _ _ _ hn h => evCode_le (fun _ _ _ _ _ h => h) hn c h

theorem evCode_up {n n' : Nat} (hn : n ≤ n') {c : ICode} {s : St} {r} (h : evCode cfg (evL cfg) dep n c s = some r) : evCode cfg (evL cfg) dep n' c s = some r := evCode_le (fun _ _ _ _ _ h => h) hn c h

theorem ext_some {β : Type} {a b : Option β} (h1 : ∀ r, a = some r → b = some r) (h2 : ∀ r, b = some r → a = some r) : a = b := by
  cases a with
  | some r => exact (h1 r rfl).symm
  | none => cases b with
    | some r => exact absurd (h2 r rfl) (by simp)
    | none => rfl

/-- code that needs no fuel -/
theorem evC_flat {c : ICode} {s : St} {X : Option (Ex × St)} (h : ∀ n, evCode cfg (evL cfg) dep n c s = X) : evC cfg dep c s = X :=
  ext_some (fun r hr => by obtain ⟨n, hn⟩ := evC_iff.1 hr; rw [← h n]; exact hn) (fun r hr => evC_iff.2 ⟨0, by rw [h 0]; exact hr⟩)

theorem evC_skip (s : St) : evC cfg dep .skip s = some (.normal, s) := evC_flat fun n => by simp only [evCode]
theorem evC_exit (id : Nat) (s : St) : evC cfg dep (.exit id) s = some (.exit id, s) := evC_flat fun n => by simp only [evCode]
theorem evC_ret (s : St) : evC cfg dep .ret s = some (.ret, s) := evC_flat fun n => by simp only [evCode]
theorem evC_free (k : Nat) (s : St) : evC cfg dep (.free k) s = some (.normal, ⟨freeE dep k s.env, freeM dep k s.mem⟩) := evC_flat fun n => by simp only [evCode]
theorem evC_region (ops : List IOper) (un : List (Nat × Nat)) (keep : List Nat) (s : St) : evC cfg dep (.region ops un keep) s = (match evRegion cfg (evL cfg) dep ops un s with
    | some s' => some (.normal, settle dep keep s')
    | none => none) := evC_flat fun n => by simp only [evCode]; cases evRegion cfg (evL cfg) dep ops un s <;> rfl

theorem evC_cond (x : IOpd) (a b : ICode) (s : St) : evC cfg dep (.cond x a b) s = (match val cfg s.get x with
    | some (.d (.bool t)) => if t then evC cfg dep a s else evC cfg dep b s
    | some (.d .unkB) => bothWays (evC cfg dep a s) (evC cfg dep b s)
    | _ => none) := by
  split
  · rename_i t ht
    refine ext_some (fun r hr => ?_) (fun r hr => ?_)
    · obtain ⟨n, hn⟩ := evC_iff.1 hr
      simp only [evCode, ht] at hn
      cases t
      · exact evC_iff.2 ⟨n, by simpa using hn⟩
      · exact evC_iff.2 ⟨n, by simpa using hn⟩
    · cases t
      · obtain ⟨n, hn⟩ := evC_iff.1 hr
        exact evC_iff.2 ⟨n, by simp only [evCode, ht]; exact hn⟩
      · obtain ⟨n, hn⟩ := evC_iff.1 hr
        exact evC_iff.2 ⟨n, by simp only [evCode, ht]; exact hn⟩
  · rename_i ht
    refine ext_some (fun r hr => ?_) (fun r hr => ?_)
    · obtain ⟨n, hn⟩ := evC_iff.1 hr
      simp only [evCode, ht] at hn
      exact bothWays_of (fun r h => evC_iff.2 ⟨n, h⟩) (fun r h => evC_iff.2 ⟨n, h⟩) hn
    · obtain ⟨h1, h2⟩ := bothWays_eq hr
      obtain ⟨n1, g1⟩ := evC_iff.1 h1
      obtain ⟨n2, g2⟩ := evC_iff.1 h2
      refine evC_iff.2 ⟨max n1 n2, ?_⟩
      simp only [evCode, ht]
      rw [evCode_up (Nat.le_max_left n1 n2) g1, evCode_up (Nat.le_max_right n1 n2) g2]
      rw [h1, h2] at hr
      exact hr
  · rename_i hno hno'
    refine evC_flat fun n => ?_
    simp only [evCode]

theorem evC_seq (a b : ICode) (s : St) : evC cfg dep (.seq a b) s = (match evC cfg dep a s with
    | some (.normal, s') => evC cfg dep b s'
    | r => r) := by
  refine ext_some (fun r hr => ?_) (fun r hr => ?_)
  · obtain ⟨n, hn⟩ := evC_iff.1 hr
    simp only [evCode] at hn
    split at hn
    · rename_i s1 h1
      rw [evC_iff.2 ⟨n, h1⟩]
      exact evC_iff.2 ⟨n, hn⟩
    · rename_i hno
      rw [evC_iff.2 ⟨n, hn⟩]
      split
      · rename_i s1 he
        cases he
        exact absurd hn (hno s1)
      · rfl
  · split at hr
    · rename_i s1 h1
      obtain ⟨n1, g1⟩ := evC_iff.1 h1
      obtain ⟨n2, g2⟩ := evC_iff.1 hr
      refine evC_iff.2 ⟨max n1 n2, ?_⟩
      simp only [evCode, evCode_up (Nat.le_max_left n1 n2) g1]
      exact evCode_up (Nat.le_max_right n1 n2) g2
    · rename_i hno
      obtain ⟨n, hn⟩ := evC_iff.1 hr
      refine evC_iff.2 ⟨n, ?_⟩
      simp only [evCode]
      rw [hn]
      split
      · rename_i s1 he
        cases he
        exact absurd hr (hno s1)
      · rfl

theorem evC_block (id : Nat) (b : ICode) (s : St) : evC cfg dep (.block id b) s = (match evC cfg dep b s with
    | some (.exit id', s') => if id' = id then some (.normal, s') else some (.exit id', s')
    | r => r) := by
  refine ext_some (fun r hr => ?_) (fun r hr => ?_)
  · obtain ⟨n, hn⟩ := evC_iff.1 hr
    simp only [evCode] at hn
    split at hn
    · rename_i id' s1 h1
      rw [evC_iff.2 ⟨n, h1⟩]
      exact hn
    · rename_i hno
      rw [evC_iff.2 ⟨n, hn⟩]
      split
      · rename_i id' s1 he
        cases he
        exact absurd hn (hno _ _)
      · rfl
  · split at hr
    · rename_i id' s1 h1
      obtain ⟨n, hn⟩ := evC_iff.1 h1
      refine evC_iff.2 ⟨n, ?_⟩
      simp only [evCode, hn]
      exact hr
    · rename_i hno
      obtain ⟨n, hn⟩ := evC_iff.1 hr
      refine evC_iff.2 ⟨n, ?_⟩
      simp only [evCode]
      rw [hn]
      split
      · rename_i id' s1 he
        cases he
        exact absurd hr (hno _ _)
      · rfl

theorem evC_loop (b : ICode) (s : St) : evC cfg dep (.loop b) s = (match evC cfg dep b s with
    | some (.normal, s') => evC cfg dep (.loop b) s'
    | r => r) := by
  refine ext_some (fun r hr => ?_) (fun r hr => ?_)
  · obtain ⟨n, hn⟩ := evC_iff.1 hr
    cases n with
    | zero => simp [evCode, evLoop] at hn
    | succ n =>
      simp only [evCode, evLoop] at hn
      split at hn
      · rename_i s1 h1
        rw [evC_iff.2 ⟨n + 1, h1⟩]
        exact evC_iff.2 ⟨n + 1, by simp only [evCode]; exact evLoop_le (fun _ _ h => h) (Nat.le_succ n) hn⟩
      · rename_i hno
        rw [evC_iff.2 ⟨n + 1, hn⟩]
        split
        · rename_i s1 he
          cases he
          exact absurd hn (hno s1)
        · rfl
  · split at hr
    · rename_i s1 h1
      obtain ⟨n1, g1⟩ := evC_iff.1 h1
      obtain ⟨n2, g2⟩ := evC_iff.1 hr
      refine evC_iff.2 ⟨max n1 n2 + 1, ?_⟩
      simp only [evCode, evLoop, evCode_up (show n1 ≤ max n1 n2 + 1 by omega) g1]
      simp only [evCode] at g2
      exact evLoop_le (fun s r h => evCode_up (show n2 ≤ max n1 n2 + 1 by omega) h) (Nat.le_max_right n1 n2) g2
    · rename_i hno
      obtain ⟨n, hn⟩ := evC_iff.1 hr
      refine evC_iff.2 ⟨n + 1, ?_⟩
      simp only [evCode, evLoop]
      rw [evCode_up (Nat.le_succ n) hn]
      split
      · rename_i s1 he
        cases he
        exact absurd hr (hno s1)
      · rfl

/-- a function, by its code -/
noncomputable def evB (cfg : Cfg) (fn : IFunc) (dep : Nat) (vs : List V) (m : List (Cel × V)) : Option (V × List (Cel × V)) :=
  if vs.length = fn.arity ∧ argsOk vs m then
    match evC cfg dep fn.body ⟨entry 0 vs, m⟩ with
    | some (.normal, s) | some (.ret, s) => (resAll dep s.get fn.results).bind fun v => leaveR dep v s.mem
    | _ => none
  else none

theorem evL_fn {f : FuncId} {fn : IFunc} (hx : cfg.ext f = none) (hf : cfg.funcs f = some fn) (dep : Nat) (vs : List V) (m : List (Cel × V)) : evL cfg f dep vs m = evB cfg fn dep vs m := by
  refine ext_some (fun r hr => ?_) (fun r hr => ?_)
  · obtain ⟨n, hn⟩ := evL_iff.1 hr
    cases n with
    | zero => cases hn
    | succ n =>
      simp only [evFn, hx, hf] at hn
      have h2 := evBody_le (evFn_evL cfg n) (Nat.le_refl n) hn
      unfold evBody at h2
      unfold evB
      split at h2
      · rename_i hc
        rw [if_pos hc]
        split at h2
        · rename_i s h1
          rw [evC_iff.2 ⟨n, h1⟩]
          exact h2
        · rename_i s h1
          rw [evC_iff.2 ⟨n, h1⟩]
          exact h2
        · cases h2
      · cases h2
  · unfold evB at hr
    have key : ∀ {n : Nat} {e s}, evCode cfg (evL cfg) dep n fn.body ⟨entry 0 vs, m⟩ = some (e, s) → (vs.length = fn.arity ∧ argsOk vs m = true) → (e = .normal ∨ e = .ret) → ((resAll dep s.get fn.results).bind fun v => leaveR dep v s.mem) = some r → evL cfg f dep vs m = some r := by
      intro n e s h1 hc he h2
      obtain ⟨k, hk⟩ := evCode_on fn.body h1
      refine evL_iff.2 ⟨max k n + 1, ?_⟩
      simp only [evFn, hx, hf]
      unfold evBody
      rw [if_pos hc, evCode_le (evFn_le cfg (Nat.le_max_left k n)) (Nat.le_max_right k n) fn.body hk]
      rcases he with rfl | rfl <;> exact h2
    split at hr
    · rename_i hc
      split at hr
      · rename_i s h1
        obtain ⟨n, hn⟩ := evC_iff.1 h1
        exact key hn hc (.inl rfl) hr
      · rename_i s h1
        obtain ⟨n, hn⟩ := evC_iff.1 h1
        exact key hn hc (.inr rfl) hr
      · cases hr
    · cases hr

/-- the limit is sound -/
theorem evL_ok {P : Program} (hm : P.follows .mixedOrders = true) (hC : CfgOk P cfg) (hF : FuncsOk P cfg) (hX : ExtOk P cfg) : OrcOk P cfg (evL cfg) :=
  fun f dep vs m r m' h x w args E => by
    obtain ⟨n, hn⟩ := evL_iff.1 h
    exact fn_ok hm hC hF hX n f dep vs m r m' hn x w args E


theorem evC_each (x : IOpd) (ps : List Nat) (a b : ICode) (s : St) : evC cfg dep (.each x ps a b) s = (match (val cfg s.get x).bind (itemsOf cfg) with
    | some l => match evEach (evRound (evC cfg (dep + 1) a) (evC cfg (dep + 1) b) dep ps (dropBor dep s.env)) l s.mem with
      | some (e, m) => some (e, ⟨dropBor dep s.env, m⟩)
      | none => none
    | none => none) := by
  cases hl : (val cfg s.get x).bind (itemsOf cfg) with
  | none => exact evC_flat fun n => by simp only [evCode, hl]
  | some l =>
    refine ext_some (fun r hr => ?_) (fun r hr => ?_)
    · obtain ⟨n, hn⟩ := evC_iff.1 hr
      simp only [evCode, hl] at hn
      split at hn
      · rename_i e m h1
        simp only [evEach_le (fun x m r h => evRound_le (fun s r h => evC_iff.2 ⟨n, h⟩) (fun s r h => evC_iff.2 ⟨n, h⟩) h) l h1]
        exact hn
      · cases hn
    · simp only at hr
      split at hr
      · rename_i e m h1
        obtain ⟨n, hn⟩ := evEach_on (g := fun n => evRound (evCode cfg (evL cfg) (dep + 1) n a) (evCode cfg (evL cfg) (dep + 1) n b) dep ps (dropBor dep s.env))
          (fun k k' hk x m r h => evRound_le (fun s r h => evCode_up hk h) (fun s r h => evCode_up hk h) h)
          (fun x m r h => by
            obtain ⟨e1, s1, s2, h3, h4, h5, h6⟩ := evRound_spec (e := r.1) (m' := r.2) h
            obtain ⟨k1, g1⟩ := evC_iff.1 h4
            obtain ⟨k2, g2⟩ := evC_iff.1 h5
            refine ⟨max k1 k2, ?_⟩
            unfold evRound
            simp only [h3, evCode_up (Nat.le_max_left k1 k2) g1, evCode_up (Nat.le_max_right k1 k2) g2]
            rw [← h6]) l h1
        refine evC_iff.2 ⟨n, ?_⟩
        simp only [evCode, hl, hn]
        exact hr
      · cases hr

end
end Go.Ev

/-! EvZo -/
/- Code with what comes behind it. Own work. -/
namespace Go.Ev
open Go

/-- what is still to do -/
inductive Kf where
  | c (c : ICode)
  | b (id : Nat)

abbrev Ans := Option (V × List (Cel × V))

/-- how deep, and what is made of the end -/
structure Kx where
  cfg : Cfg
  dep : Nat
  k : Ex → St → Ans

/-- a function's end -/
def finR (dep : Nat) (res : List IRes) : Ex → St → Ans
  | .normal, s | .ret, s => (resAll dep s.get res).bind fun v => leaveR dep v s.mem
  | .exit _, _ => none

/-- a function's code -/
abbrev fx (cfg : Cfg) (dep : Nat) (res : List IRes) : Kx := ⟨cfg, dep, finR dep res⟩

noncomputable def thread (X : Kx) : List Kf → Option (Ex × St) → Ans
  | [], some (e, s) => X.k e s
  | [], none => none
  | .c c :: K, some (.normal, s) => thread X K (evC X.cfg X.dep c s)
  | .c _ :: K, r => thread X K r
  | .b id :: K, some (.exit id', s) => if id' = id then thread X K (some (.normal, s)) else thread X K (some (.exit id', s))
  | .b _ :: K, r => thread X K r

noncomputable def go (X : Kx) (K : List Kf) (s : St) : Ans := thread X K (some (.normal, s))
noncomputable def goX (X : Kx) (id : Nat) (K : List Kf) (s : St) : Ans := thread X K (some (.exit id, s))

theorem thread_none (X : Kx) : ∀ K, thread X K none = none
  | [] => rfl
  | .c _ :: K => by rw [thread]; exact thread_none X K; simp
  | .b _ :: K => by rw [thread]; exact thread_none X K; simp

theorem thread_ret (X : Kx) (s : St) : ∀ K, thread X K (some (.ret, s)) = X.k .ret s
  | [] => rfl
  | .c _ :: K => by rw [thread]; exact thread_ret X s K; simp
  | .b _ :: K => by rw [thread]; exact thread_ret X s K; simp

variable {X : Kx} {K : List Kf} {s : St}

theorem go_nil : go X [] s = X.k .normal s := rfl
theorem goX_nil (id : Nat) : goX X id [] s = X.k (.exit id) s := rfl
theorem go_blk (id : Nat) : go X (.b id :: K) s = go X K s := by unfold go; rw [thread]; simp
theorem go_ret : go X (.c .ret :: K) s = X.k .ret s := by unfold go; rw [thread, evC_ret, thread_ret]
theorem go_skip : go X (.c .skip :: K) s = go X K s := by unfold go; rw [thread, evC_skip]
theorem go_exit (id : Nat) : go X (.c (.exit id) :: K) s = goX X id K s := by unfold go goX; rw [thread, evC_exit]
theorem goX_c (id : Nat) (c : ICode) : goX X id (.c c :: K) s = goX X id K s := by unfold goX; rw [thread]; simp
theorem goX_b (id id' : Nat) : goX X id (.b id' :: K) s = if id = id' then go X K s else goX X id K s := by unfold goX go; rw [thread]
theorem go_seq (a b : ICode) : go X (.c (.seq a b) :: K) s = go X (.c a :: .c b :: K) s := by
  unfold go
  rw [thread, thread, evC_seq]
  cases h : evC X.cfg X.dep a s with
  | none => rw [thread_none, thread_none]
  | some r =>
    obtain ⟨e, s'⟩ := r
    cases e with
    | normal => rw [thread]
    | ret => rw [thread]; simp
    | exit id => rw [thread]; simp

theorem go_loop (b : ICode) : go X (.c (.loop b) :: K) s = go X (.c b :: .c (.loop b) :: K) s := by
  unfold go
  rw [thread, thread, evC_loop]
  cases h : evC X.cfg X.dep b s with
  | none => rw [thread_none, thread_none]
  | some r =>
    obtain ⟨e, s'⟩ := r
    cases e with
    | normal => rw [thread]
    | ret => rw [thread]; simp
    | exit id => rw [thread]; simp

theorem go_block (id : Nat) (b : ICode) : go X (.c (.block id b) :: K) s = go X (.c b :: .b id :: K) s := by
  unfold go
  rw [thread, thread, evC_block]
  cases h : evC X.cfg X.dep b s with
  | none => rw [thread_none, thread_none]
  | some r =>
    obtain ⟨e, s'⟩ := r
    cases e with
    | normal => rw [thread]; simp
    | ret => rw [thread]; simp
    | exit id' => rw [thread]; simp only; split <;> rfl

theorem go_free (k : Nat) : go X (.c (.free k) :: K) s = go X K ⟨freeE X.dep k s.env, freeM X.dep k s.mem⟩ := by unfold go; rw [thread, evC_free]

/-- behind a round -/
noncomputable def goEnd (X : Kx) (K : List Kf) (E : List (Nat × V)) (f : List (Cel × V) → Ans) : Ex → St → Ans
  | .normal, s => f (leaveM (X.dep + 1) s.mem)
  | .ret, s => X.k .ret ⟨E, leaveM (X.dep + 1) s.mem⟩
  | .exit id, s => goX X id K ⟨E, leaveM (X.dep + 1) s.mem⟩
/-- a round, behind what is handed to it -/
noncomputable def goRnd (X : Kx) (b : ICode) (K : List Kf) (E : List (Nat × V)) (f : List (Cel × V) → Ans) : Ex → St → Ans
  | .normal, s => go ⟨X.cfg, X.dep + 1, goEnd X K E f⟩ [.c b] s
  | _, _ => none
noncomputable def goPut (X : Kx) (a b : ICode) (K : List Kf) (E : List (Nat × V)) (m : List (Cel × V)) (f : List (Cel × V) → Ans) : Option (List (Nat × V)) → Ans
  | some e => go ⟨X.cfg, X.dep + 1, goRnd X b K E f⟩ [.c a] ⟨e, m⟩
  | none => none
/-- the rounds of a range over a function -/
noncomputable def goE (X : Kx) (ps : List Nat) (a b : ICode) (E : List (Nat × V)) (K : List Kf) : List (List D) → List (Cel × V) → Ans
  | [], m => go X K ⟨E, m⟩
  | x :: l, m => goPut X a b K E m (goE X ps a b E K l) (putPs ps x (roundE E))
noncomputable def goEQ (X : Kx) (ps : List Nat) (a b : ICode) (K : List Kf) (s : St) : Option (List (List D)) → Ans
  | some l => goE X ps a b (dropBor X.dep s.env) K l s.mem
  | none => none

theorem goE_ok (ps : List Nat) (a b : ICode) (E : List (Nat × V)) : ∀ (l : List (List D)) (m : List (Cel × V)), thread X K (match evEach (evRound (evC X.cfg (X.dep + 1) a) (evC X.cfg (X.dep + 1) b) X.dep ps E) l m with
    | some (e, m) => some (e, ⟨E, m⟩)
    | none => none) = goE X ps a b E K l m
  | [], m => rfl
  | x :: l, m => by
    have ih := goE_ok ps a b E l
    unfold goE evEach evRound
    cases hp : putPs ps x (roundE E) with
    | none => exact thread_none _ _
    | some e1 =>
      simp only [goPut]
      unfold go
      rw [thread]
      cases ha : evC X.cfg (X.dep + 1) a ⟨e1, m⟩ with
      | none => exact thread_none _ _
      | some r =>
        obtain ⟨e, s1⟩ := r
        cases e with
        | normal =>
          show _ = goRnd X b K E (goE X ps a b E K l) .normal s1
          simp only [goRnd]
          unfold go
          rw [thread]
          cases hb : evC X.cfg (X.dep + 1) b s1 with
          | none => exact thread_none _ _
          | some r =>
            obtain ⟨e, s2⟩ := r
            cases e with
            | normal => exact ih _
            | ret => exact thread_ret _ _ _
            | exit id => rfl
        | ret => exact thread_none _ _
        | exit id => exact thread_none _ _

theorem go_each (x : IOpd) (ps : List Nat) (a b : ICode) : go X (.c (.each x ps a b) :: K) s = goEQ X ps a b K s ((val X.cfg s.get x).bind (itemsOf X.cfg)) := by
  unfold go
  rw [thread, evC_each]
  cases (val X.cfg s.get x).bind (itemsOf X.cfg) with
  | none => exact thread_none _ _
  | some l => exact goE_ok ps a b _ l s.mem

/-- a region, its operations still to do -/
noncomputable def goR (X : Kx) (ops : List IOper) (keep : List Nat) (K : List Kf) (s : St) : Ans :=
  match evOps X.cfg (evL X.cfg) X.dep ops s with
  | some s' => go X K (settle X.dep keep s')
  | none => none

theorem go_region (ops : List IOper) (keep : List Nat) : go X (.c (.region ops [] keep) :: K) s = goR X ops keep K s := by
  unfold go goR
  rw [thread, evC_region, evRegion]
  cases evOps X.cfg (evL X.cfg) X.dep ops s with
  | none => exact thread_none _ _
  | some s' => rfl

/-- a function's answer -/
theorem evL_go {cfg : Cfg} {f : FuncId} {fn : IFunc} (hx : cfg.ext f = none) (hf : cfg.funcs f = some fn) (dep : Nat) (vs : List V) (m : List (Cel × V)) (ha : vs.length = fn.arity) (hp : argsOk vs m = true) :
    evL cfg f dep vs m = go (fx cfg dep fn.results) [.c fn.body] ⟨entry 0 vs, m⟩ := by
  rw [evL_fn hx hf]
  unfold evB
  rw [if_pos ⟨ha, hp⟩]
  unfold go
  rw [thread]
  cases evC cfg dep fn.body ⟨entry 0 vs, m⟩ with
  | none => rfl
  | some r =>
    obtain ⟨e, s⟩ := r
    cases e <;> rfl

end Go.Ev
