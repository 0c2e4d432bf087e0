/- The evaluator of Go code and its proofs, part 7. Own work. -/
import Derived.Test.YteckebocflnkdaaDoorL6
set_option linter.unusedVariables false
set_option linter.unusedSimpArgs false
set_option linter.unusedSectionVars false
/-! EvZf -/
/- Regions that draw their order: any order. Own work. -/
namespace Go.Ev
open Go

section
variable {P : Program} {cfg : Cfg} {N dep : Nat}

theorem stepU_wp {x : Cx} {s : Get} {a : Act} {w : World} {orc : Orc} (hC : CfgOk P cfg) (hO : OrcOk P cfg orc) (R : Rel cfg x N s a w) {ops : Array Oper} {o : Oper} {io : IOper} (hc : COper P N ops o io) {u : List (Loc × V)} (hsu : stepU cfg orc dep s io = some u)
    {next : Act → World → Prop} {Q : Exit → Act → World → Prop} (hn : ∀ v w' x', Rel cfg x' N (updG s u) (a.put o.dst v) w' → Fr dep x x' w w' → next (a.put o.dst v) w') :
    (Region.wanted o (yielded ops a.tmps) = true ∧ o.wp P a w next Q) ∨ (Region.wanted o (yielded ops a.tmps) = false ∧ next (a.put o.dst undef) w) := by
  cases hg : guardOk s io.guard with
  | none => unfold stepU at hsu; rw [hg] at hsu; cases hsu
  | some t =>
    cases t
    · refine .inr ⟨guard_wanted R hc hg, ?_⟩
      unfold stepU at hsu
      rw [hg] at hsu
      cases hsu
      refine hn undef w x ?_ (.refl _ _ _)
      rw [hc.dst]
      cases hd : o.dst with
      | none => exact R
      | some k => exact R.put (hc.lt k hd) rfl (l := none) (.d _ _ _ (undef_rd _ _))
    · exact .inl ⟨guard_wanted R hc hg, sim_stepU hC hO R hc hg hsu next Q hn⟩

def doneF (listed : Array Bool) (j : Nat) : Bool := listed.getD j false

def left (n : Nat) (d : Nat → Bool) : Nat := ((List.range n).filter fun i => !d i).length

theorem filt1 (f : Nat → Bool) (n : Nat) : (List.filter f [n]).length = if f n then 1 else 0 := by
  cases h : f n <;> simp [h]

theorem left_mono (d d' : Nat → Bool) (h : ∀ i, d i = true → d' i = true) : ∀ n, left n d' ≤ left n d
  | 0 => Nat.le_refl _
  | n + 1 => by
    have ih := left_mono d d' h n
    unfold left at *
    rw [List.range_succ, List.filter_append, List.filter_append, List.length_append, List.length_append]
    have : (List.filter (fun i => !d' i) [n]).length ≤ (List.filter (fun i => !d i) [n]).length := by
      rw [filt1, filt1]
      have := h n
      cases hd : d n <;> cases hd' : d' n <;> simp_all
    omega

theorem left_lt (d d' : Nat → Bool) (h : ∀ i, d i = true → d' i = true) : ∀ n i, i < n → d i = false → d' i = true → left n d' < left n d
  | 0, i, hi, _, _ => by omega
  | n + 1, i, hi, h1, h2 => by
    have hm := left_mono d d' h n
    by_cases e : i = n
    · subst e
      unfold left at *
      rw [List.range_succ, List.filter_append, List.filter_append, List.length_append, List.length_append]
      simp [h1, h2]
      omega
    · have ih := left_lt d d' h n i (by omega) h1 h2
      have hm1 : (List.filter (fun i => !d' i) [n]).length ≤ (List.filter (fun i => !d i) [n]).length := by
        rw [filt1, filt1]
        have := h n
        cases hd : d n <;> cases hd' : d' n <;> simp_all
      unfold left at *
      rw [List.range_succ, List.filter_append, List.filter_append, List.length_append, List.length_append]
      omega

theorem left_zero {n : Nat} {d : Nat → Bool} (h : left n d = 0) : ∀ i, i < n → d i = true := by
  intro i hi
  unfold left at h
  have := List.eq_nil_of_length_eq_zero h
  rw [List.filter_eq_nil_iff] at this
  have := this i (List.mem_range.2 hi)
  simpa using this

theorem ready_spec {ops : Array Oper} {listed : Array Bool} (hs : listed.size = ops.size) {i : Nat} (hi : i ∈ Region.ready .any ops listed) :
    i < ops.size ∧ doneF listed i = false ∧ ∃ o, ops[i]? = some o ∧ ∀ q ∈ edgesOf o, doneF listed q = true := by
  unfold Region.ready at hi
  rw [List.mem_filter] at hi
  obtain ⟨h1, h2⟩ := hi
  have hlt := List.mem_range.1 h1
  simp only [Bool.and_eq_true, Bool.not_eq_true'] at h2
  refine ⟨hlt, ?_, ops[i], Array.getElem?_eq_getElem hlt, fun q hq => ?_⟩
  · have := h2.1
    unfold doneF
    rw [Array.getD_eq_getD_getElem?] at this ⊢
    rw [Array.getElem?_eq_getElem (by omega)] at this ⊢
    exact this
  · have h3 := h2.2
    rw [Array.getElem?_eq_getElem hlt] at h3
    simp only [Option.map_some, Option.getD_some, Array.all_eq_true_iff_forall_mem] at h3
    unfold edgesOf at hq
    obtain ⟨e, he, rfl⟩ := List.mem_map.1 hq
    obtain ⟨he1, he2⟩ := List.mem_filter.1 he
    have := h3 e (by simpa using he1)
    rw [he2] at this
    simpa [doneF] using this

theorem ready_nil {ops : Array Oper} {listed : Array Bool} (hs : listed.size = ops.size) (hb : backw 0 (ops.toList.map edgesOf) = true) (h : Region.ready .any ops listed = []) : ∀ i, i < ops.size → doneF listed i = true := by
  intro i
  induction i using Nat.strongRecOn with
  | _ i ih =>
    intro hi
    apply Classical.byContradiction
    intro hno
    have hno' : doneF listed i = false := by simpa using hno
    have : i ∈ Region.ready .any ops listed := by
      unfold Region.ready
      rw [List.mem_filter]
      refine ⟨List.mem_range.2 hi, ?_⟩
      simp only [Bool.and_eq_true, Bool.not_eq_true']
      constructor
      · unfold doneF at hno'
        rw [Array.getD_eq_getD_getElem?] at hno' ⊢
        rw [Array.getElem?_eq_getElem (by omega)] at hno' ⊢
        exact hno'
      · rw [Array.getElem?_eq_getElem hi]
        simp only [Option.map_some, Option.getD_some, Array.all_eq_true_iff_forall_mem]
        intro e he
        cases hbd : Region.binds .any e with
        | false => rfl
        | true =>
          have hlt := backw_spec _ 0 hb i (edgesOf ops[i]) (by simp [hi]) e.on (List.mem_map.2 ⟨e, List.mem_filter.2 ⟨by simpa using he, hbd⟩, rfl⟩)
          have := ih e.on (by omega) (by omega)
          simpa [doneF] using this
    rw [h] at this
    simp at this

theorem doneF_set {listed : Array Bool} {i : Nat} (hi : i < listed.size) (j : Nat) : doneF (listed.setIfInBounds i true) j = if j = i then true else doneF listed j := by
  unfold doneF
  rw [Array.getD_eq_getD_getElem?, Array.getD_eq_getD_getElem?, Array.getElem?_setIfInBounds]
  by_cases e : i = j
  · subst e; simp [hi]
  · simp [e, Ne.symm e]

theorem wpAny_ev {orc : Orc} (hC : CfgOk P cfg) (hO : OrcOk P cfg orc) {ops : Array Oper} {Q : Exit → Act → World → Prop} {l : List IOper} (hlen : l.length = ops.size) (hl : ∀ (j : Nat) io, l[j]? = some io → ∃ o, ops[j]? = some o ∧ COper P N ops o io)
    (hb : backw 0 (ops.toList.map edgesOf) = true) {st st' : St} {rw_ : List (List Loc × List Loc)} (hev : evOpsU cfg orc dep l st = some (rw_, st')) (hun : unordOk rw_ (unordPairs (befores [] (ops.toList.map edgesOf))) = true) :
    ∃ us : List (List (Loc × V)), us.length = ops.size ∧ ∀ (fuel : Nat) (listed : Array Bool) (x : Cx) (a : Act) (w : World), listed.size = ops.size → (∀ (j : Nat) o, ops[j]? = some o → doneF listed j = true → ∀ q ∈ edgesOf o, doneF listed q = true) →
      left ops.size (doneF listed) ≤ fuel → Rel cfg x N (part us (doneF listed) 0 st.get) a w →
      (∀ a' w' x', Rel cfg x' N st'.get a' w' → Fr dep x x' w w' → Q .normal a' w') → wpAny P .any ops Q fuel listed a w := by
  obtain ⟨us, hul, hfin, hus⟩ := evOpsU_us l st st' rw_ hev
  refine ⟨us, by rw [hul, hlen], fun fuel => ?_⟩
  have hbl : (befores [] (ops.toList.map edgesOf)).length = ops.size := by rw [befores_len]; simp
  have hend : ∀ (listed : Array Bool) (x : Cx) (a : Act) (w : World), (∀ i, i < ops.size → doneF listed i = true) → Rel cfg x N (part us (doneF listed) 0 st.get) a w → Rel cfg x N st'.get a w := by
    intro listed x a w hall R
    rw [hfin, ← part_congr us (doneF listed) (fun _ => true) 0 st.get (fun j hj => by rw [Nat.zero_add]; exact hall j (by omega))]
    exact R
  induction fuel with
  | zero =>
    intro listed x a w hs hcl hle R hQ
    have hall := left_zero (Nat.le_zero.1 hle)
    refine ⟨?_, hQ a w x (hend listed x a w hall R) (.refl _ _ _)⟩
    cases hr : Region.ready .any ops listed with
    | nil => rfl
    | cons i r =>
      obtain ⟨h1, h2, _⟩ := ready_spec hs (i := i) (by rw [hr]; simp)
      rw [hall i h1] at h2; cases h2
  | succ fuel ih =>
    intro listed x a w hs hcl hle R hQ
    refine ⟨fun hr => hQ a w x (hend listed x a w (ready_nil hs hb hr) R) (.refl _ _ _), fun i hi => ?_⟩
    obtain ⟨h1, h2, o, ho, h3⟩ := ready_spec hs hi
    obtain ⟨io, hio⟩ : ∃ io, l[i]? = some io := ⟨_, List.getElem?_eq_getElem (by omega)⟩
    obtain ⟨o', ho', hc⟩ := hl i io hio
    rw [ho] at ho'
    cases ho'
    obtain ⟨u, g1, g2, g3⟩ := hus i io hio
    have hclosed : ∀ (j : Nat) e, (ops.toList.map edgesOf)[j]? = some e → doneF listed j = true → ∀ q ∈ e, doneF listed q = true := by
      intro j e he hdj q hq
      rw [List.getElem?_map] at he
      cases hoj : ops.toList[j]? with
      | none => rw [hoj] at he; cases he
      | some oj =>
        rw [hoj] at he
        cases he
        exact hcl j oj (by simpa using hoj) hdj q hq
    have hbc := befores_closed hclosed
    -- who may be out of order with i
    have hpair : ∀ j, j < ops.size → j ≠ i → (doneF listed j ≠ decide (j < i)) → ∀ u', us[j]? = some u' → ∀ lc, lc ∈ keysOf u' → lc ∉ readsOf dep (part us (fun j => decide (j < i)) 0 st.get) io ∧ lc ∉ keysOf u := by
      intro j hj hne hd u' hu' lc hlc
      obtain ⟨ioj, hioj⟩ : ∃ io, l[j]? = some io := ⟨_, List.getElem?_eq_getElem (by omega)⟩
      obtain ⟨uj, f1, _, f3⟩ := hus j ioj hioj
      rw [hu'] at f1
      cases f1
      by_cases hji : j < i
      · -- j ahead of i in the text, not done
        have hdj : doneF listed j = false := by simpa [hji] using hd
        have hin : (j, i) ∈ unordPairs (befores [] (ops.toList.map edgesOf)) := by
          refine unord_mem hji (by omega) (fun hmem => ?_)
          obtain ⟨e, he, hp⟩ := befores_spec (ops.toList.map edgesOf) (ops.toList.map edgesOf) [] (fun i e h => by rw [List.length_nil, Nat.zero_add]; exact h) (fun j b h => by simp at h) i _ (List.getElem?_eq_getElem (by omega)) j hmem
          have hee : e = edgesOf o := by
            rw [List.getElem?_map] at he
            rw [show ops.toList[i]? = some o by simpa using ho] at he
            cases he; rfl
          subst hee
          rcases hp with hp | ⟨q, hq1, _, b', hq3, hq4⟩
          · rw [h3 j hp] at hdj; cases hdj
          · rw [hbc q b' hq3 (h3 q hq1) j hq4] at hdj; cases hdj
        obtain ⟨rj, wj, ri, wi, e1, e2, e3, e4⟩ := unordOk_spec hun j i hin
        rw [f3] at e1
        rw [g3] at e2
        cases e1
        cases e2
        exact ⟨fun h => disj_out e3 hlc (List.mem_append_left _ h), fun h => disj_out e3 hlc (List.mem_append_right _ h)⟩
      · have hdj : doneF listed j = true := by
          have : decide (j < i) = false := by simp; omega
          rw [this] at hd
          simpa using hd
        have hin : (i, j) ∈ unordPairs (befores [] (ops.toList.map edgesOf)) := by
          refine unord_mem (by omega) (by omega) (fun hmem => ?_)
          have := hbc j _ (List.getElem?_eq_getElem (by omega)) hdj i hmem
          rw [h2] at this; cases this
        obtain ⟨ri, wi, rj, wj, e1, e2, e3, e4⟩ := unordOk_spec hun i j hin
        rw [g3] at e1
        rw [f3] at e2
        cases e1
        cases e2
        exact ⟨fun h => disj_out e4 hlc h, fun h => disj_out e3 h (List.mem_append_right _ hlc)⟩
    have hagree : ∀ lc ∈ readsOf dep (part us (fun j => decide (j < i)) 0 st.get) io, part us (doneF listed) 0 st.get lc = part us (fun j => decide (j < i)) 0 st.get lc := by
      intro lc hlc
      refine part_agree us _ _ 0 _ _ lc rfl (fun j u' hj hd hk => ?_)
      rw [Nat.zero_add] at hd
      have hjl : j < ops.size := by have := (List.getElem?_eq_some_iff.1 hj).1; omega
      by_cases hji : j = i
      · subst hji
        rw [h2] at hd
        simp at hd
      · exact (hpair j hjl hji hd u' hj lc hk).1 hlc
    have hsu : stepU cfg orc dep (part us (doneF listed) 0 st.get) io = some u := by rw [stepU_loc hagree]; exact g2
    have hset : ∀ j, doneF (listed.setIfInBounds i true) j = if j = i then true else doneF listed j := doneF_set (by omega)
    have hcong : ∀ lc, part us (doneF (listed.setIfInBounds i true)) 0 st.get lc = updG (part us (doneF listed) 0 st.get) u lc := by
      intro lc
      by_cases hlc : lc ∈ keysOf u
      · refine part_at us _ 0 i st.get _ u lc g1 (by rw [Nat.zero_add, hset]; simp) hlc (fun j u' hj hij hd hk => ?_)
        rw [Nat.zero_add, hset, if_neg (by omega)] at hd
        have hjl : j < ops.size := by have := (List.getElem?_eq_some_iff.1 hj).1; omega
        exact (hpair j hjl (by omega) (by rw [hd]; simp; omega) u' hj lc hk).2 hlc
      · rw [updG_out hlc]
        refine part_agree us _ _ 0 _ _ lc rfl (fun j u' hj hd => ?_)
        rw [Nat.zero_add, hset] at hd
        by_cases hji : j = i
        · subst hji
          rw [g1] at hj
          cases hj
          exact hlc
        · rw [if_neg hji] at hd
          exact absurd rfl hd
    have hnext : ∀ v w' x', Rel cfg x' N (updG (part us (doneF listed) 0 st.get) u) (a.put o.dst v) w' → Fr dep x x' w w' → wpAny P .any ops Q fuel (listed.setIfInBounds i true) (a.put o.dst v) w' := by
      intro v w' x' R' F
      refine ih (listed.setIfInBounds i true) x' _ w' (by simpa using hs) (fun j oj hoj hdj q hq => ?_) ?_ (R'.congr hcong) (fun a' w'' x'' R'' F' => hQ a' w'' x'' R'' (F.trans F'))
      · rw [hset] at hdj ⊢
        split at hdj
        · rename_i e
          subst e
          rw [ho] at hoj
          cases hoj
          rw [h3 q hq]; simp
        · rw [hcl j oj hoj hdj q hq]; simp
      · have := left_lt (doneF listed) (doneF (listed.setIfInBounds i true)) (fun j hj => by rw [hset, hj]; simp) ops.size i h1 h2 (by rw [hset]; simp)
        omega
    unfold wpOp
    rw [ho]
    simp only
    rcases stepU_wp hC hO R hc hsu (Q := Q) hnext with ⟨e1, e2⟩ | ⟨e1, e2⟩
    · rw [if_pos e1]; exact .inl e2
    · rw [if_neg (by rw [e1]; simp)]; exact e2

end
end Go.Ev

/-! EvZg -/
/- Behind a region, ahead of one. Own work. -/
namespace Go.Ev
open Go

section
variable {P : Program} {cfg : Cfg} {x : Cx} {N dep : Nat} {a : Act} {w : World}

/-- another state of the same memory, value by value -/
theorem Rel.same {s s' : Get} (R : Rel cfg x N s a w) (h : ∀ l v', s' l = some v' → ∃ v, s l = some v ∧ ∀ u, RdV x s (conc x a w) w (some l) u v → RdV x s' (conc x a w) w (some l) u v')
    (hal : ∀ c v', s' (.cell c) = some v' → (s' (.cell ⟨c.d, c.k, 0⟩)).isSome) : Rel cfg x N s' a w := by
  refine ⟨R.size, R.defs, R.bound, fun l v' hl => ?_, fun k v' hk => ?_, fun c v' hc => ?_, R.globs, R.nofz, R.gobj⟩
  · obtain ⟨v, h1, h2⟩ := h l v' hl
    obtain ⟨u, hu, hr⟩ := R.locs l v h1
    exact ⟨u, hu, h2 u hr⟩
  · obtain ⟨v, h1, _⟩ := h _ v' hk
    exact R.slotN k v h1
  · obtain ⟨v, h1, _⟩ := h _ v' hc
    obtain ⟨g1, g2, g3⟩ := R.box c v h1
    exact ⟨g1, hal c v' hc, g3⟩

theorem lk_settleM (dep : Nat) (c : Cel) : ∀ m : List (Cel × V), lk (settleM dep m) c = (lk m c).map (V.home dep)
  | [] => rfl
  | (k, v) :: r => by
    simp only [settleM, lk]
    split
    · rfl
    · exact lk_settleM dep c r

theorem lk_settleE (dep : Nat) (e : List (Nat × V)) (k : Nat) : ∀ keep : List Nat, lk (settleE dep keep e) k = if keep.contains k then (lk e k).map (V.home dep) else none
  | [] => by simp [settleE, lk]
  | k0 :: r => by
    have ih := lk_settleE dep e k r
    unfold settleE
    by_cases e0 : k0 = k
    · subst e0
      cases h : lk e k0 with
      | some v => simp [lk]
      | none => rw [h] at ih; simp [ih]
    · have e1 : ¬ k = k0 := fun h => e0 h.symm
      split
      · simp [lk, e0, ih, e1]
      · simp [ih, e1]

/-- a value at home -/
theorem RdV.home {s s' : Get} {l : Loc} {u : Value} {v : V} (h : RdV x s (conc x a w) w (some l) u v) (hal : ∀ d k, (s (.cell ⟨d, k, 0⟩)).isSome → (s' (.cell ⟨d, k, 0⟩)).isSome) : RdV x s' (conc x a w) w (some l) u (v.home dep) := by
  have go : (if v.upTo (dep + 1) then v else .junk) = v.home dep → RdV x s' (conc x a w) w (some l) u (v.home dep) := fun e => by
    rw [← e]
    split
    · rename_i hup
      exact h.move (dep + 1) (fun b o u h1 h2 => ⟨h1, h2⟩) (.refl _) (fun d k _ h => ⟨hal d k h, rfl⟩) (fun l0 e b hb => ⟨hb, fun o u h => h⟩) hup
    · exact .junk _ _
  cases v with
  | own nw z es =>
    cases h with
    | own _ b o len cap _ _ _ how hlen hcap A => exact .own _ _ _ _ _ _ _ _ how hlen hcap A
  | _ => exact go rfl

theorem Rel.settle {st : St} (R : Rel cfg x N st.get a w) (keep : List Nat) : Rel cfg x N (settle dep keep st).get a w := by
  have hc : ∀ c v', (Go.Ev.settle dep keep st).get (.cell c) = some v' → ∃ v, st.get (.cell c) = some v ∧ v' = v.home dep := fun c v' h => by
    have h' : lk (settleM dep st.mem) c = some v' := h
    rw [lk_settleM, Option.map_eq_some_iff] at h'
    obtain ⟨v, h1, h2⟩ := h'
    exact ⟨v, h1, h2.symm⟩
  have hal : ∀ d k, (st.get (.cell ⟨d, k, 0⟩)).isSome → ((Go.Ev.settle dep keep st).get (.cell ⟨d, k, 0⟩)).isSome := fun d k h => by
    show (lk (settleM dep st.mem) _).isSome
    rw [lk_settleM, Option.isSome_map]
    exact h
  refine R.same (fun l v' hl => ?_) (fun c v' h => ?_)
  · cases l with
    | slot k =>
      have h' : lk (settleE dep keep st.env) k = some v' := hl
      rw [lk_settleE] at h'
      split at h'
      · rw [Option.map_eq_some_iff] at h'
        obtain ⟨v, h1, rfl⟩ := h'
        exact ⟨v, h1, fun u hr => hr.home hal⟩
      · cases h'
    | cell c =>
      obtain ⟨v, h1, rfl⟩ := hc c v' hl
      exact ⟨v, h1, fun u hr => hr.home hal⟩
  · obtain ⟨v, h1, _⟩ := hc c v' h
    exact hal _ _ (R.box c v h1).2.1

theorem lk_demoteE (k k' : Nat) : ∀ m : List (Nat × V), lk (demoteE k m) k' = if k' = k then (lk m k').map (fun v => match v with | .own _ _ es => .d (.sl es) | v => v) else lk m k'
  | [] => by simp [demoteE, lk]
  | (k0, v) :: r => by
    have ih := lk_demoteE k k' r
    simp only [demoteE]
    split
    · rename_i e
      subst e
      cases v <;> simp only [lk] <;> by_cases e : k0 = k' <;> simp [e]
      all_goals (intro h; exact absurd h.symm e)
    · rename_i hne
      simp only [lk]
      by_cases e : k0 = k'
      · subst e; simp [hne]
      · simp [e, ih]

theorem Rel.demote {st : St} (R : Rel cfg x N st.get a w) (k : Nat) : ∃ x', Rel cfg x' N (St.get { st with env := demoteE k st.env }) a w ∧ Fr dep x x' w w := by
  by_cases h : ∃ nw z es, st.get (.slot k) = some (.own nw z es)
  · obtain ⟨nw, z, es, h⟩ := h
    obtain ⟨b, h1, h2⟩ := R.release h
    refine ⟨_, h2.congr (fun l => ?_), Fr.give h1 _⟩
    rw [updG_one]
    cases l with
    | slot k' =>
      show lk (demoteE k st.env) k' = _
      rw [lk_demoteE]
      by_cases e : k' = k
      · subst e
        have h' : lk st.env k' = some (.own nw z es) := h
        simp [h']
      · simp [e]; rfl
    | cell c => simp; rfl
  · refine ⟨x, R.congr (fun l => ?_), .refl _ _ _⟩
    cases l with
    | slot k' =>
      show lk (demoteE k st.env) k' = lk st.env k'
      rw [lk_demoteE]
      split
      · rename_i e
        subst e
        cases hv : lk st.env k' with
        | none => rfl
        | some v =>
          cases v with
          | own nw z es => exact absurd ⟨nw, z, es, hv⟩ h
          | _ => rfl
      · rfl
    | cell c => rfl

theorem Rel.demotes : ∀ (ls : List Nat) {st : St} {x : Cx}, Rel cfg x N st.get a w → ∃ x', Rel cfg x' N (St.get { st with env := ls.foldl (fun e k => demoteE k e) st.env }) a w ∧ Fr dep x x' w w
  | [], st, x, R => ⟨x, R, .refl _ _ _⟩
  | k :: ls, st, x, R => by
    obtain ⟨x1, R1, F1⟩ := R.demote (dep := dep) k
    obtain ⟨x2, R2, F2⟩ := Rel.demotes ls R1
    exact ⟨x2, R2, F1.trans F2⟩

theorem lk_freeE (d k j : Nat) : ∀ m : List (Nat × V), lk (freeE d k m) j = (lk m j).map (V.free d k)
  | [] => rfl
  | (j0, v) :: r => by
    simp only [freeE, lk]
    split
    · rfl
    · exact lk_freeE d k j r

theorem lk_freeM (d k : Nat) (c : Cel) : ∀ m : List (Cel × V), lk (freeM d k m) c = if c.d = d ∧ c.k = k then none else (lk m c).map (V.free d k)
  | [] => by simp [freeM, lk]
  | (c0, v) :: r => by
    have ih := lk_freeM d k c r
    unfold freeM
    split
    · rename_i h
      rw [ih]
      simp only [lk]
      by_cases e : c0 = c
      · subst e; simp [h]
      · simp [e]
    · rename_i h
      simp only [lk]
      by_cases e : c0 = c
      · subst e; simp [h]
      · simp [e, ih]

theorem Rel.free {st : St} (R : Rel cfg x N st.get a w) (k : Nat) : Rel cfg x N (St.get ⟨freeE dep k st.env, freeM dep k st.mem⟩) a w := by
  have hall : ∀ l v', St.get ⟨freeE dep k st.env, freeM dep k st.mem⟩ l = some v' → (∀ c, l = .cell c → ¬ (c.d = dep ∧ c.k = k)) ∧ ∃ v, st.get l = some v ∧ v' = v.free dep k := fun l v' h => by
    cases l with
    | slot j =>
      have h' : lk (freeE dep k st.env) j = some v' := h
      rw [lk_freeE, Option.map_eq_some_iff] at h'
      obtain ⟨v, h1, h2⟩ := h'
      exact ⟨(fun c e => by cases e), v, h1, h2.symm⟩
    | cell c =>
      have h' : lk (freeM dep k st.mem) c = some v' := h
      rw [lk_freeM] at h'
      split at h'
      · cases h'
      · rename_i hne
        rw [Option.map_eq_some_iff] at h'
        obtain ⟨v, h1, h2⟩ := h'
        exact ⟨fun c' e => by cases e; exact hne, v, h1, h2.symm⟩
  have hal : ∀ d j, ¬ (d = dep ∧ j = k) → (st.get (.cell ⟨d, j, 0⟩)).isSome → (St.get ⟨freeE dep k st.env, freeM dep k st.mem⟩ (.cell ⟨d, j, 0⟩)).isSome := fun d j hne h => by
    show (lk (freeM dep k st.mem) _).isSome
    rw [lk_freeM, if_neg hne, Option.isSome_map]
    exact h
  have hown : ∀ l z es, St.get ⟨freeE dep k st.env, freeM dep k st.mem⟩ l = some (.own false z es) → st.get l = some (.own false z es) := fun l z es h => by
    obtain ⟨_, v, h1, h2⟩ := hall l _ h
    rw [h1]
    cases v with
    | own nw z' es' => simpa [V.free] using h2.symm
    | ref d' k' off =>
      simp only [V.free] at h2
      split at h2 <;> cases h2
    | _ => simp [V.free] at h2
  refine R.same (fun l v' hl => ?_) (fun c v' h => ?_)
  · obtain ⟨_, v, h1, rfl⟩ := hall l v' hl
    refine ⟨v, h1, fun u hr => ?_⟩
    cases hr with
    | d _ _ y h => exact .d _ _ _ h
    | own _ b o len cap z nw es how hlen hcap A => exact .own _ _ _ _ _ _ _ _ how hlen hcap A
    | bor _ l' off len b o' cap' hcap h => exact .bor _ _ _ _ _ _ _ hcap fun z es hs => h z es (hown _ _ _ hs)
    | bref _ l' i off b o' h => exact .bref _ _ _ _ _ _ fun z es hs => h z es (hown _ _ _ hs)
    | iptr _ b o off e h => exact .iptr _ _ _ _ _ h
    | ref _ d j off h =>
      simp only [V.free]
      split
      · exact .junk _ _
      · rename_i hne
        exact .ref _ _ _ _ (hal d j hne h)
    | clo => exact .junk _ _
    | ifc => exact .junk _ _
    | junk => exact .junk _ _
  · obtain ⟨h0, v, h1, _⟩ := hall _ v' h
    exact hal _ _ (h0 c rfl) (R.box c v h1).2.1

end
end Go.Ev

/-! EvZh -/
/- Code: what the evaluator answers is what the model does. Own work. -/
namespace Go.Ev
open Go

theorem cOpers_spec {P : Program} {ad : Advice} {N : Nat} {ops : Array Oper} : ∀ (r : List Oper) (l : List IOper), cOpers P ad N (ops.toList.map (·.dst)) r = some l →
    l.length = r.length ∧ ∀ (j : Nat) io, l[j]? = some io → ∃ o, r[j]? = some o ∧ COper P N ops o io
  | [], l, h => by cases h; simp
  | o :: r, l, h => by
    unfold cOpers at h
    split at h
    · rename_i io l' h1 h2
      cases h
      obtain ⟨g1, g2⟩ := cOpers_spec r l' h2
      refine ⟨by simp [g1], fun j io' hj => ?_⟩
      cases j with
      | succ j =>
        obtain ⟨o', h3, h4⟩ := g2 j io' (by simpa using hj)
        exact ⟨o', by simpa using h3, h4⟩
      | zero =>
        simp only [List.getElem?_cons_zero, Option.some.injEq] at hj
        subst hj
        refine ⟨o, rfl, ?_⟩
        unfold cOper at h1
        simp only at h1
        split at h1
        · rename_i hok
          have hlt : ∀ k, o.dst = some k → k < N := fun k e => by rw [e] at hok; simpa [okDst] using hok
          split at h1
          · rename_i hg
            cases h1
            exact ⟨rfl, hlt, ⟨_, _, rfl⟩, by rw [hg]⟩
          · rename_i i b hg
            split at h1
            · rename_i k hk
              cases h1
              refine ⟨rfl, hlt, ⟨_, _, rfl⟩, ?_⟩
              rw [hg]
              refine ⟨k, ?_, rfl⟩
              rw [List.getElem?_map] at hk
              cases ho : ops[i]? with
              | none => rw [show ops.toList[i]? = none by simpa using ho] at hk; cases hk
              | some oi =>
                rw [show ops.toList[i]? = some oi by simpa using ho] at hk
                simpa using hk
            · cases h1
        · cases h1
    · cases h

theorem wp_loop_n {P : Program} {Q : Exit → Act → World → Prop} {c : Code} (J : Nat → Act → World → Prop) (hz : ∀ a w, ¬ J 0 a w) (round : ∀ m a w, J (m + 1) a w → c.wp P (Exit.then (J m) Q) a w) :
    ∀ m a w, J m a w → (Code.loop c).wp P Q a w := by
  intro m a w h b k cs
  have key : ∀ m a w, J m a w → ∃ e a' w', Q e a' w' ∧ Arrives P (lone (b.at a (.code c :: .inLoop c :: k)) cs w) b k cs e a' w' := by
    intro m
    induction m with
    | zero => intro a w h; exact absurd h (hz a w)
    | succ m ih =>
      intro a w h
      obtain ⟨e, a₁, w₁, hq, harr⟩ := round m a w h b (.inLoop c :: k) cs
      cases e with
      | normal =>
        obtain ⟨e₂, a₂, w₂, hq₂, harr₂⟩ := ih a₁ w₁ hq
        exact ⟨e₂, a₂, w₂, hq₂, .of_steps (Steps.trans harr (.one step_inLoop)) harr₂⟩
      | exit id => exact ⟨_, a₁, w₁, hq, .pass (x := .inLoop c) rfl (fun _ _ => .inl (by simp)) harr⟩
      | goto l => exact ⟨_, a₁, w₁, hq, .pass (x := .inLoop c) rfl (fun _ _ => .inl (by simp)) harr⟩
      | ret => exact ⟨_, a₁, w₁, hq, .pass (x := .inLoop c) rfl (fun _ _ => .inl (by simp)) harr⟩
      | panic ch => exact ⟨_, a₁, w₁, hq, .pass (x := .inLoop c) rfl (fun _ _ => .inl (by simp)) harr⟩
      | outgrown => exact ⟨_, a₁, w₁, hq, .pass (x := .inLoop c) rfl (fun _ _ => .inl (by simp)) harr⟩
  obtain ⟨e, a', w', hq, harr⟩ := key m a w h
  exact ⟨e, a', w', hq, .of_steps (.one step_loop) harr⟩

section
variable {P : Program} {cfg : Cfg} {N dep : Nat}

theorem un_nil_all {es : List (List Nat)} (h : unordPairs (befores [] es) = []) {i j : Nat} (hij : i < j) (hj : j < es.length) : ∃ b, (befores [] es)[j]? = some b ∧ i ∈ b := by
  have hl : j < (befores [] es).length := by rw [befores_len]; simpa using hj
  refine ⟨_, List.getElem?_eq_getElem hl, ?_⟩
  apply Classical.byContradiction
  intro hno
  have := unord_mem hij hl hno
  rw [h] at this
  simp at this

/-- a region that draws its order, but has only one -/
theorem wpAny_ord {orc : Orc} (hC : CfgOk P cfg) (hO : OrcOk P cfg orc) {ops : Array Oper} {Q : Exit → Act → World → Prop} {L : List IOper} (hlen : L.length = ops.size) (hL : ∀ (j : Nat) io, L[j]? = some io → ∃ o, ops[j]? = some o ∧ COper P N ops o io)
    (hb : backw 0 (ops.toList.map edgesOf) = true) (hun : unordPairs (befores [] (ops.toList.map edgesOf)) = []) :
    ∀ (l : List IOper) (i : Nat) (listed : Array Bool) (x : Cx) (a : Act) (w : World) (st st' : St), l = L.drop i → listed.size = ops.size → (∀ j, j < ops.size → doneF listed j = decide (j < i)) → Rel cfg x N st.get a w → evOps cfg orc dep l st = some st' →
    (∀ a' w' x', Rel cfg x' N st'.get a' w' → Fr dep x x' w w' → Q .normal a' w') → wpAny P .any ops Q l.length listed a w
  | [], i, listed, x, a, w, st, st', hl, hs, hd, R, h, hQ => by
    cases h
    have hi : ops.size ≤ i := by
      have := congrArg List.length hl
      simp at this
      omega
    refine ⟨?_, hQ a w x R (.refl _ _ _)⟩
    cases hr : Region.ready .any ops listed with
    | nil => rfl
    | cons j r =>
      obtain ⟨h1, h2, _⟩ := ready_spec hs (i := j) (by rw [hr]; simp)
      rw [hd j h1] at h2
      simp at h2
      omega
  | io :: l, i, listed, x, a, w, st, st', hl, hs, hd, R, h, hQ => by
    have hi : i < ops.size := by
      have := congrArg List.length hl
      simp at this
      omega
    refine ⟨fun hr => ?_, fun p hp => ?_⟩
    · have := ready_nil hs hb hr i hi
      rw [hd i hi] at this
      simp at this
    · obtain ⟨h1, h2, o, ho, h3⟩ := ready_spec hs hp
      have hpi : p = i := by
        rw [hd p h1] at h2
        simp at h2
        apply Classical.byContradiction
        intro hne
        have hip : i < p := by omega
        obtain ⟨b, hb1, hb2⟩ := un_nil_all hun hip (by simpa using h1)
        have hclosed : ∀ (j : Nat) e, (ops.toList.map edgesOf)[j]? = some e → doneF listed j = true → ∀ q ∈ e, doneF listed q = true := by
          intro j e he hdj q hq
          have hj : j < ops.size := by have := (List.getElem?_eq_some_iff.1 he).1; simpa using this
          have hlt := backw_spec _ 0 hb j e he q hq
          rw [hd j hj] at hdj
          simp at hdj
          rw [hd q (by omega)]
          simp; omega
        obtain ⟨e, he, hpp⟩ := befores_spec (ops.toList.map edgesOf) (ops.toList.map edgesOf) [] (fun i e h => by rw [List.length_nil, Nat.zero_add]; exact h) (fun j b h => by simp at h) p b hb1 i hb2
        have hee : e = edgesOf o := by
          rw [List.getElem?_map] at he
          rw [show ops.toList[p]? = some o by simpa using ho] at he
          cases he; rfl
        subst hee
        have hdi : doneF listed i = true := by
          rcases hpp with hpp | ⟨q, hq1, _, b', hq3, hq4⟩
          · exact h3 i hpp
          · exact befores_closed hclosed q b' hq3 (h3 q hq1) i hq4
        rw [hd i hi] at hdi
        simp at hdi
      subst hpi
      have hio : L[p]? = some io := by
        have := congrArg (fun l => l[0]?) hl
        simpa using this.symm
      obtain ⟨o', ho', hc⟩ := hL p io hio
      rw [ho] at ho'
      cases ho'
      unfold evOps at h
      split at h
      · rename_i st1 hst
        have hrest : ∀ v w' x', Rel cfg x' N st1.get (a.put o.dst v) w' → Fr dep x x' w w' → wpAny P .any ops Q l.length (listed.setIfInBounds p true) (a.put o.dst v) w' := fun v w' x' R' F =>
          wpAny_ord hC hO hlen hL hb hun l (p + 1) _ x' _ w' st1 st' (by
            have := congrArg List.tail hl
            simpa using this) (by simpa using hs) (fun j hj => by
              rw [doneF_set (by omega), hd j hj]
              by_cases e : j = p
              · simp [e]
              · rw [if_neg e]
                congr 1
                exact propext ⟨fun h => by omega, fun h => by omega⟩) R' h (fun a' w'' x'' R'' F' => hQ a' w'' x'' R'' (F.trans F'))
        unfold wpOp
        rw [ho]
        simp only
        rcases step_wp hC hO R hc hst (Q := Q) hrest with ⟨h1, h2⟩ | ⟨h1, h2⟩
        · rw [if_pos h1]; exact .inl h2
        · rw [if_neg (by rw [h1]; simp)]; exact h2
      · cases h

end
end Go.Ev

/-! EvZi -/
/- Code, whole. Own work. -/
namespace Go.Ev
open Go

theorem D.same_eq {a b : D} (h : a.same b = true) : a = b := by
  unfold D.same at h
  split at h <;> first | rfl | (simp only [beq_iff_eq] at h; rw [h]) | (simp only [Bool.and_eq_true, decide_eq_true_eq, beq_iff_eq] at h; rw [h.1, h.2]) | cases h
theorem envSame_eq : ∀ {a b : List (Nat × V)}, envSame a b = true → a = b
  | [], [], _ => rfl
  | (k, .d x) :: r, (k', .d y) :: r', h => by
    simp only [envSame, Bool.and_eq_true, beq_iff_eq] at h
    rw [h.1.1, D.same_eq h.1.2, envSame_eq h.2]
  | [], _ :: _, h => by simp [envSame] at h
  | (_, v) :: _, [], h => by cases v <;> simp [envSame] at h
  | (_, .d _) :: _, (_, v) :: _, h => by cases v <;> first | (simp [envSame] at h; done) | skip; rename_i y; rename_i k x r k' r'; simp only [envSame, Bool.and_eq_true, beq_iff_eq] at h; rw [h.1.1, D.same_eq h.1.2, envSame_eq h.2]
  | (_, .own _ _ _) :: _, _ :: _, h | (_, .bor _ _ _) :: _, _ :: _, h | (_, .bref _ _ _) :: _, _ :: _, h | (_, .iptr _ _) :: _, _ :: _, h | (_, .ref _ _ _) :: _, _ :: _, h | (_, .clo _ _ _) :: _, _ :: _, h | (_, .ifc _ _) :: _, _ :: _, h | (_, .junk) :: _, _ :: _, h => by simp [envSame] at h
theorem exSame_eq {a b : Ex} (h : exSame a b = true) : a = b := by
  unfold exSame at h
  split at h <;> first | rfl | (simp only [beq_iff_eq] at h; rw [h]) | cases h
theorem bothWays_eq {a b : Option (Ex × St)} {r : Ex × St} (h : bothWays a b = some r) : a = some r ∧ b = some r := by
  unfold bothWays at h
  split at h
  · rename_i e s e' s'
    split at h
    · rename_i hq
      cases h
      simp only [Bool.and_eq_true, List.isEmpty_iff] at hq
      obtain ⟨⟨⟨h1, h2⟩, h3⟩, h4⟩ := hq
      have := exSame_eq h1
      subst this
      obtain ⟨e1, m1⟩ := s
      obtain ⟨e2, m2⟩ := s'
      have := envSame_eq h2
      simp only at this h3 h4
      subst this; subst h3; subst h4
      exact ⟨rfl, rfl⟩
    · cases h
  · cases h
theorem bothWays_of {a b a' b' : Option (Ex × St)} (ha : ∀ r, a = some r → a' = some r) (hb : ∀ r, b = some r → b' = some r) {r : Ex × St} (h : bothWays a b = some r) : bothWays a' b' = some r := by
  obtain ⟨h1, h2⟩ := bothWays_eq h
  rw [ha r h1, hb r h2]
  rw [h1, h2] at h
  exact h

def exitOf : Ex → Exit
  | .normal => .normal
  | .ret => .ret
  | .exit id => .exit id

section
variable {P : Program} {cfg : Cfg} {N dep : Nat}

theorem region_wp {orc : Orc} (hm : P.follows .mixedOrders = true) (hC : CfgOk P cfg) (hO : OrcOk P cfg orc) {ad : Advice} {id : Nat} {ops : Array Oper} {draw : Bool} {l : List IOper} (hl : cOpers P ad N (ops.toList.map (·.dst)) ops.toList = some l)
    (hb : draw = true → backw 0 (ops.toList.map edgesOf) = true) {st st' : St} {x : Cx} {a : Act} {w : World} (R : Rel cfg x N st.get a w)
    (hev : evRegion cfg orc dep l (if draw then unordPairs (befores [] (ops.toList.map edgesOf)) else []) st = some st') {Q : Exit → Act → World → Prop}
    (hQ : ∀ a' w' x', Rel cfg x' N st'.get a' w' → Fr dep x x' w w' → Q .normal a' w') : (Code.region id ops draw).wp P Q a w := by
  obtain ⟨hlen, hspec⟩ := cOpers_spec ops.toList l hl
  have hspec' : ∀ (j : Nat) io, l[j]? = some io → ∃ o, ops[j]? = some o ∧ COper P N ops o io := fun j io h => by
    obtain ⟨o, h1, h2⟩ := hspec j io h
    exact ⟨o, by simpa using h1, h2⟩
  have hlen' : l.length = ops.size := by simpa using hlen
  cases draw with
  | false =>
    have hev' : evOps cfg orc dep l st = some st' := hev
    refine wp_region ?_
    rw [List.range_eq_range', ← hlen']
    exact wpOps_ev hC hO l 0 x a w st st' R (fun j io h => by rw [Nat.zero_add]; exact hspec' j io h) hev' hQ
  | true =>
    refine wp_region_any hm ?_
    have hdone : ∀ j, doneF (Array.replicate ops.size false) j = false := fun j => by
      unfold doneF
      rw [Array.getD_eq_getD_getElem?, Array.getElem?_replicate]
      split <;> rfl
    have hQ' : ∀ a' w' x', Rel cfg x' N st'.get a' w' → Fr dep x x' { w with drawn := w.drawn + 1 } w' → Q .normal a' w' := fun a' w' x' R' F => hQ a' w' x' R' (Fr.drew.trans F)
    have hev : evRegion cfg orc dep l (unordPairs (befores [] (ops.toList.map edgesOf))) st = some st' := hev
    unfold evRegion at hev
    split at hev
    · rename_i un hun
      rw [← hlen']
      have := wpAny_ord hC hO (Q := Q) hlen' hspec' (hb rfl) hun l 0 (Array.replicate ops.size false) x a { w with drawn := w.drawn + 1 } st st' rfl (by simp) (fun j _ => by rw [hdone]; simp) R.drew hev hQ'
      rwa [hlen'] at this ⊢
    · split at hev
      · rename_i rw_ st2 hst2
        split at hev
        · rename_i hok
          cases hev
          obtain ⟨us, hul, h⟩ := wpAny_ev hC hO (Q := Q) hlen' hspec' (hb rfl) hst2 hok
          refine h ops.size (Array.replicate ops.size false) x a _ (by simp) (fun j o _ hd => by rw [hdone] at hd; cases hd) ?_ ?_ hQ'
          · unfold left
            refine Nat.le_trans (List.length_filter_le _ _) ?_
            simp
          · have : part us (doneF (Array.replicate ops.size false)) 0 st.get = st.get := by
              funext lc
              exact part_out _ _ _ _ _ (fun j u _ hd => by rw [hdone] at hd; cases hd)
            rw [this]
            exact R.drew
        · cases hev
      · cases hev

end
end Go.Ev

/-! EvZj -/
/- Code, by its shape. Own work. -/
namespace Go.Ev
open Go

section
variable {P : Program} {cfg : Cfg} {N dep : Nat}

theorem frees_ev {orc : Orc} {n : Nat} {a : Act} {w : World} {x : Cx} {e : Ex} {st' : St} : ∀ (fs : List Nat) (r : ICode) (st : St), Rel cfg x N st.get a w → evCode cfg orc dep n (fs.foldl (fun c k => .seq (.free k) c) r) st = some (e, st') →
    ∃ st1, Rel cfg x N st1.get a w ∧ evCode cfg orc dep n r st1 = some (e, st')
  | [], r, st, R, h => ⟨st, R, h⟩
  | k :: fs, r, st, R, h => by
    obtain ⟨st1, R1, h1⟩ := frees_ev fs (.seq (.free k) r) st R h
    simp only [evCode] at h1
    exact ⟨_, R1.free k, h1⟩

theorem code_wp {orc : Orc} (hm : P.follows .mixedOrders = true) (hC : CfgOk P cfg) (hO : OrcOk P cfg orc) {ad : Advice} {n : Nat} : ∀ (c : Code) (ic : ICode), cCode P ad N c = some ic → ∀ {st st' : St} {e : Ex} {x : Cx} {a : Act} {w : World} {Q : Exit → Act → World → Prop},
    evCode cfg orc dep n ic st = some (e, st') → Rel cfg x N st.get a w → (∀ a' w' x', Rel cfg x' N st'.get a' w' → Fr dep x x' w w' → Q (exitOf e) a' w') → c.wp P Q a w := by
  intro c
  induction c with
  | skip =>
    intro ic hic st st' e x a w Q hev R hQ
    cases hic
    simp only [evCode] at hev
    cases hev
    exact wp_skip (hQ a w x R (.refl _ _ _))
  | region id ops draw =>
    intro ic hic st st' e x a w Q hev R hQ
    simp only [cCode] at hic
    split at hic
    · rename_i l hl
      split at hic
      · cases hic
        simp [evCode] at hev
      · rename_i hbk
        cases hic
        obtain ⟨st1, R1, h1⟩ := frees_ev _ _ st R hev
        have hreg : ∀ (st2 : St) (x2 : Cx), Rel cfg x2 N st2.get a w → Fr dep x x2 w w → evCode cfg orc dep n (.region l (if draw then unordPairs (befores [] (ops.toList.map edgesOf)) else []) (look ad.keep id)) st2 = some (e, st') → (Code.region id ops draw).wp P Q a w := by
          intro st2 x2 R2 F2 h2
          simp only [evCode] at h2
          split at h2
          · rename_i st3 h3
            cases h2
            refine region_wp (ad := ad) hm hC hO hl (fun hd => by rw [hd] at hbk; simpa using hbk) R2 h3 (fun a' w' x' R' F' => hQ a' w' x' (R'.settle _) (F2.trans F'))
          · cases h2
        split at h1
        · exact hreg st1 x R1 (.refl _ _ _) h1
        · simp only [evCode] at h1
          obtain ⟨x2, R2, F2⟩ := Rel.demotes (dep := dep) (look ad.demote id) R1
          exact hreg _ x2 R2 F2 (by simpa only [evCode] using h1)
    · cases hic
  | seq c d ihc ihd =>
    intro ic hic st st' e x a w Q hev R hQ
    simp only [cCode] at hic
    split at hic
    · rename_i ic1 ic2 h1 h2
      cases hic
      simp only [evCode] at hev
      refine wp_seq ?_
      split at hev
      · rename_i st1 hst1
        exact ihc ic1 h1 hst1 R (fun a' w' x' R' F => ihd ic2 h2 hev R' (fun a'' w'' x'' R'' F' => hQ a'' w'' x'' R'' (F.trans F')))
      · rename_i r hno
        refine ihc ic1 h1 hev R (fun a' w' x' R' F => ?_)
        have := hQ a' w' x' R' F
        cases e with
        | normal => exact absurd hev (fun h => hno st' h)
        | ret => exact this
        | exit id => exact this
    · cases hic
  | cond c y z ihy ihz =>
    intro ic hic st st' e x a w Q hev R hQ
    simp only [cCode] at hic
    split at hic
    · rename_i ix i1 i2 hx h1 h2
      cases hic
      simp only [evCode] at hev
      split at hev
      · rename_i t hv
        have hb := (val_d R hx hv).bool_inv
        refine wp_cond hb ?_
        cases t
        · exact ihz i2 h2 (by simpa using hev) R hQ
        · exact ihy i1 h1 (by simpa using hev) R hQ
      · rename_i hv
        obtain ⟨t, hb⟩ := (val_d R hx hv).unkB_inv
        obtain ⟨g1, g2⟩ := bothWays_eq hev
        refine wp_cond hb ?_
        cases t
        · exact ihz i2 h2 g2 R hQ
        · exact ihy i1 h1 g1 R hQ
      · cases hev
    · cases hic
  | block id b ih =>
    intro ic hic st st' e x a w Q hev R hQ
    simp only [cCode, Option.map_eq_some_iff] at hic
    obtain ⟨ib, hib, rfl⟩ := hic
    simp only [evCode] at hev
    refine wp_block ?_
    split at hev
    · rename_i id' st1 hst1
      refine ih ib hib hst1 R (fun a' w' x' R' F => ?_)
      simp only [exitOf, Exit.inBlock]
      split at hev
      · rename_i hid
        cases hev
        rw [if_pos hid]
        exact hQ a' w' x' R' F
      · rename_i hid
        cases hev
        rw [if_neg hid]
        exact hQ a' w' x' R' F
    · rename_i r hno
      refine ih ib hib hev R (fun a' w' x' R' F => ?_)
      have := hQ a' w' x' R' F
      cases e with
      | normal => exact this
      | ret => exact this
      | exit id' => exact absurd hev (fun h => hno id' st' h)
  | loop b ih =>
    intro ic hic st st' e x a w Q hev R hQ
    simp only [cCode, Option.map_eq_some_iff] at hic
    obtain ⟨ib, hib, rfl⟩ := hic
    simp only [evCode] at hev
    refine wp_loop_n (fun m a1 w1 => ∃ st1 x1, Rel cfg x1 N st1.get a1 w1 ∧ Fr dep x x1 w w1 ∧ evLoop (evCode cfg orc dep n ib) m st1 = some (e, st')) ?_ ?_ n a w ⟨st, x, R, .refl _ _ _, hev⟩
    · rintro a1 w1 ⟨st1, x1, _, _, h⟩
      simp [evLoop] at h
    · rintro m a1 w1 ⟨st1, x1, R1, F1, h⟩
      unfold evLoop at h
      split at h
      · rename_i st2 h2
        exact ih ib hib h2 R1 (fun a' w' x' R' F => ⟨st2, x', R', F1.trans F, h⟩)
      · rename_i r hno
        refine ih ib hib h R1 (fun a' w' x' R' F => ?_)
        have := hQ a' w' x' R' (F1.trans F)
        cases e with
        | normal => exact absurd h (fun h => hno st' h)
        | ret => exact this
        | exit id => exact this
  | exit id =>
    intro ic hic st st' e x a w Q hev R hQ
    cases hic
    simp only [evCode] at hev
    cases hev
    exact wp_exit (hQ a w x R (.refl _ _ _))
  | ret =>
    intro ic hic st st' e x a w Q hev R hQ
    cases hic
    simp only [evCode] at hev
    cases hev
    exact wp_ret (hQ a w x R (.refl _ _ _))
  | _ =>
    intro ic hic st st' e x a w Q hev R hQ
    simp only [cCode] at hic
    cases hic
    simp [evCode] at hev


theorem endsRet_ev {orc : Orc} {ad : Advice} {n : Nat} : ∀ (c : Code) (ic : ICode), cCode P ad N c = some ic → endsRet c = true → ∀ {st st' : St} {e : Ex}, evCode cfg orc dep n ic st = some (e, st') → e ≠ .normal := by
  intro c
  induction c with
  | ret =>
    intro ic hic _ st st' e hev he
    cases hic
    simp only [evCode] at hev
    cases hev
    cases he
  | seq c d _ ihd =>
    intro ic hic hr st st' e hev he
    simp only [cCode] at hic
    split at hic
    · rename_i ic1 ic2 h1 h2
      cases hic
      simp only [evCode] at hev
      split at hev
      · exact ihd ic2 h2 hr hev he
      · rename_i r hno
        subst he
        exact hno _ hev
    · cases hic
  | _ => intro ic hic hr; simp [endsRet] at hr

theorem rot_wp {orc : Orc} (hm : P.follows .mixedOrders = true) (hC : CfgOk P cfg) (hO : OrcOk P cfg orc) {ad : Advice} {n : Nat} (c : Code) (ic : ICode) (hic : cRot P ad N c = some ic) {st st' : St} {e : Ex} {x : Cx} {a : Act} {w : World} {Q : Exit → Act → World → Prop}
    (hev : evCode cfg orc dep n ic st = some (e, st')) (R : Rel cfg x N st.get a w) (hQ : ∀ a' w' x', Rel cfg x' N st'.get a' w' → Fr dep x x' w w' → Q (exitOf e) a' w') : c.wp P Q a w := by
  have seqGo : ∀ (c d : Code) (i1 i2 : ICode), cCode P ad N c = some i1 → (∀ {st st' : St} {e : Ex} {x : Cx} {a : Act} {w : World} {Q : Exit → Act → World → Prop}, evCode cfg orc dep n i2 st = some (e, st') → Rel cfg x N st.get a w → (∀ a' w' x', Rel cfg x' N st'.get a' w' → Fr dep x x' w w' → Q (exitOf e) a' w') → d.wp P Q a w) →
      ∀ {st st' : St} {e : Ex} {x : Cx} {a : Act} {w : World} {Q : Exit → Act → World → Prop}, evCode cfg orc dep n (.seq i1 i2) st = some (e, st') → Rel cfg x N st.get a w → (∀ a' w' x', Rel cfg x' N st'.get a' w' → Fr dep x x' w w' → Q (exitOf e) a' w') → (Code.seq c d).wp P Q a w := by
    intro c d i1 i2 h1 hd st st' e x a w Q hev R hQ
    simp only [evCode] at hev
    refine wp_seq ?_
    split at hev
    · rename_i st1 hst1
      exact code_wp hm hC hO c i1 h1 hst1 R (fun a' w' x' R' F => hd hev R' (fun a'' w'' x'' R'' F' => hQ a'' w'' x'' R'' (F.trans F')))
    · rename_i r hno
      refine code_wp hm hC hO c i1 h1 hev R (fun a' w' x' R' F => ?_)
      have := hQ a' w' x' R' F
      cases e with
      | normal => exact absurd hev (fun h => hno st' h)
      | ret => exact this
      | exit id => exact this
  revert hic
  unfold cRot
  split
  · rename_i A X p B
    split
    · rename_i hr
      intro hic
      split at hic
      · rename_i a' x' p' b' hA hX hp hB
        cases hic
        simp only [evCode] at hev
        refine wp_seq (wp_seq ?_)
        split at hev
        · rename_i st1 hst1
          refine code_wp hm hC hO A a' hA hst1 R (fun a1 w1 x1 R1 F1 => ?_)
          have way : ∀ t : Bool, a1.eval X = .bool t → (t = true → evCode cfg orc dep n p' st1 = some (e, st')) → (t = false → evCode cfg orc dep n b' st1 = some (e, st')) → (Code.cond X p .skip).wp P (Exit.then (B.wp P Q) Q) a1 w1 := by
            intro t ht h1 h2
            refine wp_cond ht ?_
            cases t
            · refine wp_skip ?_
              exact rot_wp hm hC hO B b' hB (h2 rfl) R1 (fun a2 w2 x2 R2 F2 => hQ a2 w2 x2 R2 (F1.trans F2))
            · have hne := endsRet_ev p p' hp hr (h1 rfl)
              refine code_wp hm hC hO p p' hp (h1 rfl) R1 (fun a2 w2 x2 R2 F2 => ?_)
              have := hQ a2 w2 x2 R2 (F1.trans F2)
              cases e with
              | normal => exact absurd rfl hne
              | ret => exact this
              | exit id => exact this
          split at hev
          · rename_i t hv
            refine way t (val_d R1 hX hv).bool_inv (fun ht => ?_) (fun ht => ?_)
            · rw [ht] at hev; simpa using hev
            · rw [ht] at hev; simpa using hev
          · rename_i hv
            obtain ⟨t, hb⟩ := (val_d R1 hX hv).unkB_inv
            obtain ⟨g1, g2⟩ := bothWays_eq hev
            exact way t hb (fun _ => g1) (fun _ => g2)
          · cases hev
        · rename_i r hno
          refine code_wp hm hC hO A a' hA hev R (fun a1 w1 x1 R1 F1 => ?_)
          have := hQ a1 w1 x1 R1 F1
          cases e with
          | normal => exact absurd hev (fun h => hno st' h)
          | ret => exact this
          | exit id => exact this
      · cases hic
    · intro hic
      split at hic
      · rename_i i1 i2 h1 h2
        cases hic
        exact seqGo _ B i1 i2 h1 (fun hev R hQ => rot_wp hm hC hO B i2 h2 hev R hQ) hev R hQ
      · cases hic
  · rename_i A B _
    intro hic
    split at hic
    · rename_i i1 i2 h1 h2
      cases hic
      exact seqGo A B i1 i2 h1 (fun hev R hQ => rot_wp hm hC hO B i2 h2 hev R hQ) hev R hQ
    · cases hic
  · intro hic
    exact code_wp hm hC hO c ic hic hev R hQ
termination_by SizeOf.sizeOf c

end
end Go.Ev

/-! EvZk -/
/- Cells of lower depth stay alive. Own work. -/
namespace Go.Ev
open Go

def OrcAlive (orc : Orc) : Prop := ∀ f dep vs m r m', orc f dep vs m = some (r, m') → ∀ c : Cel, c.d < dep → (lk m c).isSome → (lk m' c).isSome

/-- lower cells of st are there in st' -/
def Keeps (dep : Nat) (st st' : St) : Prop := ∀ c : Cel, c.d < dep → (st.get (.cell c)).isSome → (st'.get (.cell c)).isSome

theorem Keeps.refl (dep : Nat) (st : St) : Keeps dep st st := fun _ _ h => h
theorem Keeps.trans {dep : Nat} {s t u : St} (h : Keeps dep s t) (k : Keeps dep t u) : Keeps dep s u := fun c hc hs => k c hc (h c hc hs)

theorem updG_some : ∀ (u : List (Loc × V)) (s : Get) (l : Loc), (s l).isSome → (updG s u l).isSome
  | [], _, _, h => h
  | (l0, v) :: r, s, l, h => by
    refine updG_some r _ l ?_
    show (if l = l0 then some v else s l).isSome
    split
    · rfl
    · exact h

theorem Keeps.upd (dep : Nat) (st : St) (u : List (Loc × V)) : Keeps dep st (st.upd u) := fun c _ h => by
  rw [get_upd]; exact updG_some u _ _ h

section
variable {cfg : Cfg} {orc : Orc} {dep : Nat}

theorem keeps_callM (hA : OrcAlive orc) {st st' : St} {dst : Option Nat} {own : Bool} {f : FuncId} {vs : List V} (h : callM orc dep st dst own f vs = some st') : Keeps dep st st' := by
  unfold callM at h
  split at h
  · split at h
    · rename_i r m hor
      split at h
      · have hk : Keeps dep st ⟨dropBor dep st.env, cutMem dep m⟩ := fun c hc hs => by
          show (lk (cutMem dep m) c).isSome
          rw [lk_cutMem, if_pos (by omega)]
          exact hA f (dep + 1) vs st.mem r m hor c (by omega) hs
        split at h
        · cases h
          exact hk.trans (.upd _ _ _)
        · split at h
          · cases h
            exact hk.trans (.upd _ _ _)
          · cases h
      · cases h
    · cases h
  · cases h

theorem keeps_step (hA : OrcAlive orc) {st st' : St} {io : IOper} (h : evStep cfg orc dep st io = some st') : Keeps dep st st' := by
  unfold evStep at h
  split at h
  · cases h
    exact .upd _ _ _
  · unfold stepM at h
    split at h
    · split at h
      · split at h
        · exact keeps_callM hA h
        · cases h
      · cases h
    · cases h

theorem keeps_ops (hA : OrcAlive orc) : ∀ (l : List IOper) {st st' : St}, evOps cfg orc dep l st = some st' → Keeps dep st st'
  | [], _, _, h => by cases h; exact .refl _ _
  | io :: l, st, st', h => by
    unfold evOps at h
    split at h
    · rename_i s1 h1
      exact (keeps_step hA h1).trans (keeps_ops hA l h)
    · cases h

theorem keeps_opsU : ∀ (l : List IOper) {st st' : St} {r}, evOpsU cfg orc dep l st = some (r, st') → Keeps dep st st'
  | [], _, _, _, h => by cases h; exact .refl _ _
  | io :: l, st, st', r, h => by
    unfold evOpsU at h
    split at h
    · split at h
      · rename_i r' s2 h2
        cases h
        exact (Keeps.upd _ _ _).trans (keeps_opsU l h2)
      · cases h
    · cases h

theorem keeps_region (hA : OrcAlive orc) {l : List IOper} {un : List (Nat × Nat)} {st st' : St} (h : evRegion cfg orc dep l un st = some st') : Keeps dep st st' := by
  unfold evRegion at h
  split at h
  · exact keeps_ops hA l h
  · split at h
    · rename_i r s2 h2
      split at h
      · cases h
        exact keeps_opsU l h2
      · cases h
    · cases h

theorem keeps_settle (keep : List Nat) (st : St) : Keeps dep st (settle dep keep st) := fun c _ h => by
  show (lk (settleM dep st.mem) c).isSome
  rw [lk_settleM, Option.isSome_map]
  exact h

theorem keeps_loop {f : St → Option (Ex × St)} (hf : ∀ st e st', f st = some (e, st') → Keeps dep st st') : ∀ (m : Nat) {st st' : St} {e : Ex}, evLoop f m st = some (e, st') → Keeps dep st st'
  | 0, _, _, _, h => by cases h
  | m + 1, st, st', e, h => by
    unfold evLoop at h
    split at h
    · rename_i s1 h1
      exact (hf _ _ _ h1).trans (keeps_loop hf m h)
    · exact hf _ _ _ h

theorem keeps_code (hA : OrcAlive orc) {n : Nat} : ∀ (ic : ICode) {st st' : St} {e : Ex}, evCode cfg orc dep n ic st = some (e, st') → Keeps dep st st' := by
  intro ic
  induction ic with
  | skip => intro st st' e h; simp only [evCode] at h; cases h; exact .refl _ _
  | region ops un keep =>
    intro st st' e h
    simp only [evCode] at h
    split at h
    · rename_i s1 h1
      cases h
      exact (keeps_region hA h1).trans (keeps_settle _ _)
    · cases h
  | seq a b iha ihb =>
    intro st st' e h
    simp only [evCode] at h
    split at h
    · rename_i s1 h1
      exact (iha h1).trans (ihb h)
    · exact iha h
  | cond x a b iha ihb =>
    intro st st' e h
    simp only [evCode] at h
    split at h
    · split at h
      · exact iha h
      · exact ihb h
    · exact iha (bothWays_eq h).1
    · cases h
  | block id b ih =>
    intro st st' e h
    simp only [evCode] at h
    split at h
    · rename_i id' s1 h1
      split at h <;> cases h <;> exact ih h1
    · exact ih h
  | loop b ih =>
    intro st st' e h
    simp only [evCode] at h
    exact keeps_loop (fun st e st' h => ih h) n h
  | exit id => intro st st' e h; simp only [evCode] at h; cases h; exact .refl _ _
  | ret => intro st st' e h; simp only [evCode] at h; cases h; exact .refl _ _
  | demote ls => intro st st' e h; simp only [evCode] at h; cases h; exact fun c _ h => h
  | free k =>
    intro st st' e h
    simp only [evCode] at h
    cases h
    intro c hc hs
    show (lk (freeM dep k st.mem) c).isSome
    rw [lk_freeM, if_neg (by omega), Option.isSome_map]
    exact hs
  | bad => intro st st' e h; simp [evCode] at h

theorem lk_leaveM (dep : Nat) (c : Cel) : ∀ m : List (Cel × V), lk (leaveM dep m) c = if c.d < dep then (lk m c).map (V.homeN dep) else none
  | [] => by simp [leaveM, lk]
  | (c0, v) :: r => by
    have ih := lk_leaveM dep c r
    unfold leaveM
    split
    · rename_i h
      simp only [lk]
      by_cases e : c0 = c
      · subst e; simp [h]
      · simp [e, ih]
    · rename_i h
      rw [ih]
      simp only [lk]
      by_cases e : c0 = c
      · subst e; simp [h]
      · simp [e]

theorem leaveR_spec {dep : Nat} {v v' : V} {m m' : List (Cel × V)} (h : leaveR dep v m = some (v', m')) : v' = v ∧ m' = leaveM dep m ∧ v.upTo dep = true := by
  unfold leaveR at h
  split at h
  · rename_i hu
    cases h
    exact ⟨rfl, rfl, hu⟩
  · cases h

theorem alive_fn (cfg : Cfg) : ∀ n, OrcAlive (evFn cfg n)
  | 0 => fun _ _ _ _ _ _ h => by cases h
  | n + 1 => fun f dep vs m r m' h c hc hs => by
    unfold evFn at h
    split at h
    · simp only [Option.map_eq_some_iff] at h
      obtain ⟨v, _, he⟩ := h
      cases he
      exact hs
    · split at h
      · rename_i fn _
        unfold evBody at h
        split at h
        · have key : ∀ {e st v}, evCode cfg (evFn cfg n) dep n fn.body ⟨entry 0 vs, m⟩ = some (e, st) → leaveR dep v st.mem = some (r, m') → (lk m' c).isSome := fun h1 h2 => by
            obtain ⟨_, e2, _⟩ := leaveR_spec h2
            rw [e2, lk_leaveM, if_pos hc, Option.isSome_map]
            exact keeps_code (alive_fn cfg n) fn.body h1 c hc hs
          split at h
          · rename_i st h1
            obtain ⟨v, _, he⟩ := Option.bind_eq_some_iff.1 h
            exact key h1 he
          · rename_i st h1
            obtain ⟨v, _, he⟩ := Option.bind_eq_some_iff.1 h
            exact key h1 he
          · cases h
        · cases h
      · cases h

end
end Go.Ev

/-! EvZl -/
/- Functions. Own work. -/
namespace Go.Ev
open Go

/-- places that are gone behind the call -/
def goneL (dep : Nat) : Loc → Bool
  | .slot _ => true
  | .cell c => decide (dep ≤ c.d)

/-- how a call's caller sees the memory behind it: arrays of places that are gone are nobody's, but for the result's -/
def Cx.leave (x : Cx) (dep : Nat) (res : Option Loc) : Cx := { x with ow := fun b => match x.ow b with
  | some (.at l) => if goneL dep l then (if res = some l then some .res else none) else some (.at l)
  | o => o }

theorem leave_none {x : Cx} {dep : Nat} {res : Option Loc} {b : Nat} (h : x.ow b = none) : (x.leave dep res).ow b = none := by simp [Cx.leave, h]
theorem leave_keep {x : Cx} {dep : Nat} {res : Option Loc} {b : Nat} {l : Loc} (h : x.ow b = some (.at l)) (hl : goneL dep l = false) : (x.leave dep res).ow b = some (.at l) := by simp [Cx.leave, h, hl]
theorem leave_gone {x : Cx} {dep : Nat} {b : Nat} {l : Loc} (h : x.ow b = some (.at l)) (hl : goneL dep l = true) : (x.leave dep none).ow b = none := by simp [Cx.leave, h, hl]
theorem leave_res {x : Cx} {dep : Nat} {b : Nat} {l : Loc} (h : x.ow b = some (.at l)) (hl : goneL dep l = true) : (x.leave dep (some l)).ow b = some .res := by simp [Cx.leave, h, hl]

section
variable {P : Program} {cfg : Cfg} {x : Cx} {N dep : Nat} {a : Act} {w : World}

theorem RdV.homeN {x x' : Cx} {s s' : Get} {cv cv' : Loc → Option Value} {l : Loc} {u : Value} {v : V} (n : Nat) (h : RdV x s cv w (some l) u v)
    (hc : ∀ b o u, x.ow b = none → w.cell? (ad3 b o) = some u → x'.ow b = none ∧ w.cell? (ad3 b o) = some u)
    (hB : ∀ d k, d < n → (s (.cell ⟨d, k, 0⟩)).isSome → (s' (.cell ⟨d, k, 0⟩)).isSome ∧ x'.ad d k = x.ad d k)
    (hO : ∀ b, x.ow b = some (.at l) → x'.ow b = some (.at l)) : RdV x' s' cv' w (some l) u (v.homeN n) := by
  have go : (if v.upTo n then v else .junk) = v.homeN n → RdV x' s' cv' w (some l) u (v.homeN n) := fun e => by
    rw [← e]
    split
    · rename_i hup
      exact h.move n hc (.refl _) hB (fun l0 e b hb => by cases e; exact ⟨hO b hb, fun o u h => h⟩) hup
    · exact .junk _ _
  cases v with
  | own nw z es =>
    cases h with
    | own _ b o len cap _ _ _ how hlen hcap A => exact .own _ _ _ _ _ _ _ _ (hO b how) hlen hcap (A.mono (fun b o u h1 h2 => hc b o u h1 h2) (fun _ _ h => h) (fun _ _ _ h => h))
  | _ => exact go rfl

theorem Rel.leave {st : St} (R : Rel cfg x N st.get a w) (dep : Nat) (res : Option Loc) : Rel cfg (x.leave dep res) 0 (get0 (leaveM dep st.mem)) act0 w := by
  have hc : ∀ b o u, x.ow b = none → w.cell? (ad3 b o) = some u → (x.leave dep res).ow b = none ∧ w.cell? (ad3 b o) = some u := fun b o u h1 h2 => ⟨leave_none h1, h2⟩
  have hcell : ∀ c v', get0 (leaveM dep st.mem) (.cell c) = some v' → c.d < dep ∧ ∃ v, st.get (.cell c) = some v ∧ v' = v.homeN dep := fun c v' h => by
    have h' : lk (leaveM dep st.mem) c = some v' := h
    rw [lk_leaveM] at h'
    split at h'
    · rename_i hd
      rw [Option.map_eq_some_iff] at h'
      obtain ⟨v, h1, h2⟩ := h'
      exact ⟨hd, v, h1, h2.symm⟩
    · cases h'
  have hal : ∀ d k, d < dep → (st.get (.cell ⟨d, k, 0⟩)).isSome → (get0 (leaveM dep st.mem) (.cell ⟨d, k, 0⟩)).isSome := fun d k hd h => by
    show (lk (leaveM dep st.mem) _).isSome
    rw [lk_leaveM, if_pos hd, Option.isSome_map]
    exact h
  refine ⟨rfl, rfl, fun b hb => R.bound b fun e => hb (leave_none e), fun l v' h => ?_, (fun k v h => by cases h), fun c v' h => ?_, fun n e hg => (R.globs n e hg).mono hc, fun b h => R.nofz b ?_, fun n ob hg => ⟨leave_none (R.gobj n ob hg).1, (R.gobj n ob hg).2⟩⟩
  rotate_left 2
  · simp only [Cx.leave] at h
    split at h
    · rename_i l e; exact .inr ⟨l, e⟩
    · exact h
  · cases l with
    | slot k => cases h
    | cell c =>
      obtain ⟨hd, v, h1, rfl⟩ := hcell c v' h
      obtain ⟨u, hu, hr⟩ := R.locs (.cell c) v h1
      exact ⟨u, hu, hr.homeN dep hc (fun d k hd h => ⟨hal d k hd h, rfl⟩) (fun b hb => leave_keep hb (by simp [goneL]; omega))⟩
  · obtain ⟨hd, v, h1, rfl⟩ := hcell c v' h
    obtain ⟨g1, g2, g3⟩ := R.box c v h1
    exact ⟨by simp [Cx.leave, g1], hal _ _ hd g2, g3⟩

theorem Fr.leave (dep' : Nat) (dep : Nat) (res : Option Loc) : Fr dep' x (x.leave dep res) w w :=
  ⟨Nat.le_refl _, fun b _ h => ⟨rfl, by rcases h with h | h <;> simp [Cx.leave, h]⟩, fun _ _ _ => rfl, .refl _, .refl _⟩

/-- the run of one result -/
def resRun (tmps : Array Value) : ResultVar → Sem Value
  | .tmp t => pure (tmps.getD t undef)
  | .cell a t => do loadVar t (← asAddr (tmps.getD a undef))

theorem mapM_run {P : Program} {w : World} {f : ResultVar → Sem Value} : ∀ {l : List ResultVar} {vs : List Value}, l.length = vs.length → (∀ (i : Nat) r v, l[i]? = some r → vs[i]? = some v → (f r).run P w = .ok v w) →
    (l.mapM f).run P w = .ok vs w
  | [], [], _, _ => rfl
  | r :: l, v :: vs, hl, h => by
    rw [List.mapM_cons]
    simp only [Sem.run_bind, h 0 r v rfl rfl, Result.andThen_ok]
    rw [mapM_run (l := l) (vs := vs) (by simpa using hl) (fun i r v h1 h2 => h (i + 1) r v (by simpa using h1) (by simpa using h2))]
    rfl
  | [], _ :: _, h, _ => by cases h
  | _ :: _, [], h, _ => by cases h

def tupled : List Value → Value
  | [v] => v
  | vs => .tuple vs.toArray

theorem run_results {P : Program} {w : World} {fn : Func} {tmps : Array Value} {vs : List Value} (hl : fn.results.toList.length = vs.length)
    (h : ∀ (i : Nat) r v, fn.results.toList[i]? = some r → vs[i]? = some v → (resRun tmps r).run P w = .ok v w) :
    (results fn tmps).run P w = .ok (tupled vs) w := by
  have e : ∀ g : ResultVar → Sem Value, (∀ r, g r = resRun tmps r) → (fn.results.mapM g).run P w = .ok vs.toArray w := fun g hg => by
    have : g = resRun tmps := funext hg
    subst this
    rw [Array.mapM_eq_mapM_toList, map_eq_pure_bind]
    simp only [Sem.run_bind, mapM_run hl h, Result.andThen_ok, Sem.run_pure]
  unfold results
  rw [Sem.run_bind, e _ (fun r => by cases r <;> rfl), Result.andThen_ok]
  match vs with
  | [] => rfl
  | [v] => rfl
  | _ :: _ :: _ => simp [tupled]

/-- what a result's value is -/
def ResIs (x : Cx) (s : Get) (cv : Loc → Option Value) (w : World) (dep : Nat) (v : Value) : V → Prop
  | .own _ z es => ∃ l b o cap, v = .slice (some (ad3 b o)) es.length cap ∧ x.ow b = some (.at l) ∧ goneL dep l = true ∧ es.length ≤ cap ∧ Arr (freeB x) w b o cap z es
  | .d y => Rd (freeB (x.leave dep none)) w v y
  | r => RdV x s cv w none v r

def ResMatch (P : Program) : ResultVar → IRes → Prop
  | .tmp t, .t k => k = t
  | .cell a t, .cell k z => k = a ∧ zOpt P t = some z
  | _, _ => False

theorem cRes_spec : ∀ {l : List ResultVar} {is : List IRes}, cRes P l = some is → l.length = is.length ∧ ∀ (i : Nat) rv ir, l[i]? = some rv → is[i]? = some ir → ResMatch P rv ir
  | [], is, h => by cases h; simp
  | .tmp t :: r, is, h => by
    simp only [cRes, Option.map_eq_some_iff] at h
    obtain ⟨l, h1, rfl⟩ := h
    obtain ⟨g1, g2⟩ := cRes_spec h1
    refine ⟨by simp [g1], fun i rv ir e1 e2 => ?_⟩
    cases i with
    | zero => simp at e1 e2; subst e1; subst e2; rfl
    | succ i => exact g2 i rv ir (by simpa using e1) (by simpa using e2)
  | .cell a t :: r, is, h => by
    simp only [cRes] at h
    split at h
    · rename_i z l hz h1
      cases h
      obtain ⟨g1, g2⟩ := cRes_spec h1
      refine ⟨by simp [g1], fun i rv ir e1 e2 => ?_⟩
      cases i with
      | zero => simp at e1 e2; subst e1; subst e2; exact ⟨rfl, hz⟩
      | succ i => exact g2 i rv ir (by simpa using e1) (by simpa using e2)
    · cases h

theorem plainV_own {v : V} (h : v.plainV = true) : v.isOwn = false := by cases v <;> first | rfl | simp [V.plainV] at h

/-- a plain value as a result -/
theorem res_plain {s : Get} {cv : Loc → Option Value} {l : Option Loc} {v : Value} {r : V} (h : RdV x s cv w l v r) (hp : r.plainV = true) (dep : Nat) : ResIs x s cv w dep v r := by
  cases r with
  | d y => exact (RdV.d_inv h).mono fun b o u h1 h2 => ⟨leave_none h1, h2⟩
  | own nw z es => simp [V.plainV] at hp
  | bor => simp [V.plainV] at hp
  | bref => simp [V.plainV] at hp
  | junk => simp [V.plainV] at hp
  | iptr e off => exact h.reloc rfl
  | ref d k off => exact h.reloc rfl
  | clo f a b => exact h.reloc rfl
  | ifc t v => exact h.reloc rfl

theorem res_own {s : Get} {cv : Loc → Option Value} {l : Loc} {v : Value} {nw nw' : Bool} {z : Nat} {es : List D} (h : RdV x s cv w (some l) v (.own nw z es)) (hl : goneL dep l = true) : ResIs x s cv w dep v (.own nw' z es) := by
  cases h with
  | own _ b o len cap _ _ _ how hlen hcap A =>
    subst hlen
    exact ⟨l, b, o, cap, rfl, how, hl, hcap, A⟩

theorem resCell_rd {s : Get} {cv : Loc → Option Value} {v : Value} {r : V} {y : D} (h : ResIs x s cv w dep v r) (hr : resCell r = some y) : Rd (freeB (x.leave dep none)) w v y := by
  unfold resCell at hr
  split at hr
  · cases hr; exact Rd.canon h
  · cases hr
    obtain ⟨l, b, o, cap, rfl, how, hl, hcap, A⟩ := h
    exact (A.mono (fun b o u h1 h2 => ⟨leave_none h1, h2⟩) (fun _ _ h => h) (fun _ _ _ h => h)).rd (leave_gone how hl) rfl hcap
  · cases hr
    have h' : RdV x s cv w none v _ := h
    exact h'.iptr_rd.mono fun b o u h1 h2 => ⟨leave_none h1, h2⟩
  · cases hr

theorem gatherR_ok {s : Get} (R : Rel cfg x N s a w) {d k : Nat} (hd : dep ≤ d) : ∀ (n off : Nat) {cs : List D}, gatherR s d k off n = some cs → cs.length = n ∧ (∀ c ∈ cs, c.isCell = true) ∧
    ∀ (j : Nat) c, cs[j]? = some c → ∃ v, w.cell? (ad3 (x.ad d k) (off + j)) = some v ∧ Rd (freeB (x.leave dep none)) w v c
  | 0, off, cs, h => by cases h; simp
  | n + 1, off, cs, h => by
    unfold gatherR at h
    split at h
    · rename_i y r h1 h2
      split at h
      · rename_i hcell
        cases h
        obtain ⟨g0, g1, g2⟩ := gatherR_ok R hd n (off + 1) h2
        refine ⟨by simp [g0], ?_, fun j c hj => ?_⟩
        · intro c hc
          rcases List.mem_cons.1 hc with rfl | hc
          · exact hcell
          · exact g1 c hc
        · cases j with
          | zero =>
            simp at hj
            subst hj
            obtain ⟨v0, h3, h4⟩ := Option.bind_eq_some_iff.1 h1
            obtain ⟨u, hu, hr⟩ := R.locs (.cell ⟨d, k, off⟩) v0 h3
            refine ⟨u, hu, ?_⟩
            cases v0 with
            | own nw z es => exact resCell_rd (res_own (nw' := nw) hr (dep := dep) (by simp [goneL]; exact hd)) h4
            | d y => exact resCell_rd (res_plain hr rfl dep) h4
            | iptr e o => exact resCell_rd (res_plain hr rfl dep) h4
            | _ => cases h4
          | succ j =>
            obtain ⟨v, h5, h6⟩ := g2 j c (by simpa using hj)
            exact ⟨v, by rw [← h5]; congr 2; omega, h6⟩
      · cases h
    · cases h

theorem resV_ok {s : Get} (R : Rel cfg x N s a w) {rv : ResultVar} {ir : IRes} (hm : ResMatch P rv ir) {r : V} (h : resV dep s ir = some r) :
    ∃ v, (resRun a.tmps rv).run P w = .ok v w ∧ ResIs x s (conc x a w) w dep v r := by
  cases rv with
  | tmp t =>
    cases ir with
    | cell k z => exact hm.elim
    | t k =>
      have hm' : k = t := hm
      subst hm'
      have hloc : ∀ v0, s (.slot k) = some v0 → RdV x s (conc x a w) w (some (.slot k)) (a.tmps.getD k undef) v0 := fun v0 h0 => by
        obtain ⟨u, hu, hr⟩ := R.locs (.slot k) v0 h0
        simp only [conc, Option.some.injEq] at hu
        rw [hu]; exact hr
      refine ⟨a.tmps.getD k undef, rfl, ?_⟩
      simp only [resV] at h
      split at h
      · rename_i nw z es h0
        cases h
        exact res_own (hloc _ h0) rfl
      · rename_i v0 h0
        split at h
        · rename_i hp
          cases h
          exact res_plain (hloc _ ‹_›) hp dep
        · cases h
      · cases h
  | cell b t =>
    cases ir with
    | t k => exact hm.elim
    | cell k z =>
      obtain ⟨rfl, hz⟩ := hm
      simp only [resV] at h
      split at h
      · rename_i d j off h0
        split at h
        · rename_i hd
          obtain ⟨u, hu, hr⟩ := R.locs (.slot k) _ h0
          simp only [conc, Option.some.injEq] at hu
          cases hr with
          | ref _ _ _ _ hal =>
          have hrun : ∀ v, (loadVar t (ad3 (x.ad d j) off)).run P w = .ok v w → (resRun a.tmps (.cell k t)).run P w = .ok v w := fun v h1 => by
            simp only [resRun, Sem.run_bind, hu, asAddr, Sem.run_pure, Result.andThen_ok, h1]
          cases z with
          | none =>
            have hld : ∀ u, w.cell? (ad3 (x.ad d j) off) = some u → (loadVar t (ad3 (x.ad d j) off)).run P w = .ok u w := fun u hu => by
              simp only [loadVar, Sem.run_bind, (zOpt_none hz).1, Result.andThen_ok, Bool.false_eq_true, if_false, run_load, hu]
            simp only at h
            split at h
            · rename_i nw z es h1
              cases h
              obtain ⟨u, hu, hr⟩ := R.locs (.cell ⟨d, j, off⟩) _ h1
              exact ⟨u, hrun u (hld u hu), res_own hr (by simp [goneL]; exact hd)⟩
            · split at h
              · rename_i hp
                cases h
                obtain ⟨u, hu, hr⟩ := R.locs (.cell ⟨d, j, off⟩) _ ‹_›
                exact ⟨u, hrun u (hld u hu), res_plain hr hp dep⟩
              · cases h
            · cases h
          | some n =>
            simp only [Option.map_eq_some_iff] at h
            obtain ⟨cs, h1, rfl⟩ := h
            obtain ⟨g0, g1, g2⟩ := gatherR_ok R hd n off h1
            obtain ⟨v, h2, h3⟩ := run_load_cells (P := P) (b := x.ad d j) (o := off) (off := 0) (e := .agg cs) (r := .agg cs) hz ⟨g1, g2⟩ (by simp [ldD, D.cells, g0]; subst g0; exact List.take_length)
            exact ⟨v, hrun v h2, h3⟩
        · cases h
      · cases h

theorem resD_ok {s : Get} (R : Rel cfg x N s a w) : ∀ {rvs : List ResultVar} {irs : List IRes}, rvs.length = irs.length → (∀ (i : Nat) rv ir, rvs[i]? = some rv → irs[i]? = some ir → ResMatch P rv ir) → ∀ {ds : List D}, resD dep s irs = some ds →
    ∃ vs : List Value, vs.length = ds.length ∧ rvs.length = vs.length ∧ (∀ (i : Nat) r v, rvs[i]? = some r → vs[i]? = some v → (resRun a.tmps r).run P w = .ok v w) ∧ ∀ (i : Nat) v d, vs[i]? = some v → ds[i]? = some d → Rd (freeB (x.leave dep none)) w v d
  | [], [], _, _, ds, h => by cases h; exact ⟨[], by simp⟩
  | rv :: rvs, ir :: irs, hl, hm, ds, h => by
    unfold resD at h
    split at h
    · rename_i d ds' h1 h2
      cases h
      obtain ⟨r, h3, h4⟩ := Option.bind_eq_some_iff.1 h1
      obtain ⟨v, h5, h6⟩ := resV_ok R (hm 0 rv ir rfl rfl) h3
      obtain ⟨vs, g1, g2, g3, g4⟩ := resD_ok R (rvs := rvs) (irs := irs) (by simpa using hl) (fun i rv ir e1 e2 => hm (i + 1) rv ir (by simpa using e1) (by simpa using e2)) h2
      refine ⟨v :: vs, by simp [g1], by simp [g2], fun i r v' e1 e2 => ?_, fun i v' d' e1 e2 => ?_⟩
      · cases i with
        | zero => simp at e1 e2; subst e1; subst e2; exact h5
        | succ i => exact g3 i r v' (by simpa using e1) (by simpa using e2)
      · cases i with
        | zero => simp at e1 e2; subst e1; subst e2; exact resCell_rd h6 h4
        | succ i => exact g4 i v' d' (by simpa using e1) (by simpa using e2)
    · cases h
  | [], _ :: _, h, _, _, _ => by cases h
  | _ :: _, [], h, _, _, _ => by cases h

/-- all results, and what the call leaves -/
theorem results_ok {st : St} (R : Rel cfg x N st.get a w) {fn : Func} {irs : List IRes} (hc : cRes P fn.results.toList = some irs) {r r' : V} {m' : List (Cel × V)} (h : resAll dep st.get irs = some r) (hl : leaveR dep r st.mem = some (r', m')) :
    ∃ v x', (results fn a.tmps).run P w = .ok v w ∧ Rel cfg x' 0 (get0 m') act0 w ∧ ResOk x' (get0 m') (conc x' act0 w) w v r' ∧ Fr dep x x' w w := by
  obtain ⟨rfl, rfl, hup⟩ := leaveR_spec hl
  obtain ⟨g1, g2⟩ := cRes_spec hc
  have hal : ∀ d k, d < dep → (st.get (.cell ⟨d, k, 0⟩)).isSome → (get0 (leaveM dep st.mem) (.cell ⟨d, k, 0⟩)).isSome := fun d k hd h => by
    show (lk (leaveM dep st.mem) _).isSome
    rw [lk_leaveM, if_pos hd, Option.isSome_map]
    exact h
  have hc0 : ∀ res b o u, x.ow b = none → w.cell? (ad3 b o) = some u → (x.leave dep res).ow b = none ∧ w.cell? (ad3 b o) = some u := fun res b o u h1 h2 => ⟨leave_none h1, h2⟩
  have hmany : ∀ ds, resD dep st.get irs = some ds → irs.length ≠ 1 → r' = .d (.tup ds) → ∃ v x', (results fn a.tmps).run P w = .ok v w ∧ Rel cfg x' 0 (get0 (leaveM dep st.mem)) act0 w ∧ ResOk x' (get0 (leaveM dep st.mem)) (conc x' act0 w) w v r' ∧ Fr dep x x' w w := by
    rintro ds hds hne rfl
    obtain ⟨vs, e1, e2, e3, e4⟩ := resD_ok R g1 g2 hds
    refine ⟨_, x.leave dep none, run_results e2 e3, R.leave dep none, ?_, .leave _ _ _⟩
    have : tupled vs = .tuple vs.toArray := by
      match vs, e2 with
      | [], _ => rfl
      | [v], e2 => exact absurd (g1.symm.trans e2) hne
      | _ :: _ :: _, _ => rfl
    rw [this]
    exact .d _ _ _ (.tup vs ds e1 e4)
  match irs, h, g1, g2, hmany with
  | [], h, g1, g2, hmany =>
    simp only [resAll, Option.map_eq_some_iff] at h
    obtain ⟨ds, h1, h2⟩ := h
    exact hmany ds h1 (by simp) h2.symm
  | _ :: _ :: _, h, g1, g2, hmany =>
    simp only [resAll, Option.map_eq_some_iff] at h
    obtain ⟨ds, h1, h2⟩ := h
    exact hmany ds h1 (by simp) h2.symm
  | [ir], h, g1, g2, _ =>
    have h : resV dep st.get ir = some r' := h
    obtain ⟨rv, hrv⟩ : ∃ rv, fn.results.toList = [rv] := List.length_eq_one_iff.1 g1
    obtain ⟨v, h5, h6⟩ := resV_ok R (g2 0 rv ir (by rw [hrv]; rfl) rfl) h
    have hrun : (results fn a.tmps).run P w = .ok v w := run_results (vs := [v]) (by rw [hrv]; rfl) (fun i r v' e1 e2 => by
      rw [hrv] at e1
      cases i with
      | zero => simp at e1 e2; subst e1; subst e2; exact h5
      | succ i => simp at e1)
    cases r' with
    | own nw z es =>
      obtain ⟨l, b, o, cap, rfl, how, hgl, hcap, A⟩ := h6
      refine ⟨_, x.leave dep (some l), hrun, R.leave dep _, ⟨b, o, cap, rfl, leave_res how hgl, hcap, ?_⟩, .leave _ _ _⟩
      exact A.mono (fun b o u h1 h2 => hc0 _ b o u h1 h2) (fun _ _ h => h) (fun _ _ _ h => h)
    | d y => exact ⟨v, x.leave dep none, hrun, R.leave dep _, .d _ _ _ h6, .leave _ _ _⟩
    | bor l off n => simp [V.upTo] at hup
    | bref l off n => simp [V.upTo] at hup
    | junk => exact ⟨v, x.leave dep none, hrun, R.leave dep _, .junk _ _, .leave _ _ _⟩
    | iptr e off => exact ⟨v, x.leave dep none, hrun, R.leave dep _, RdV.move dep h6 (hc0 _) (.refl _) (fun d k hd h => ⟨hal d k hd h, rfl⟩) (fun l0 e => by cases e) hup, .leave _ _ _⟩
    | ref d k off => exact ⟨v, x.leave dep none, hrun, R.leave dep _, RdV.move dep h6 (hc0 _) (.refl _) (fun d k hd h => ⟨hal d k hd h, rfl⟩) (fun l0 e => by cases e) hup, .leave _ _ _⟩
    | clo f p q => exact ⟨v, x.leave dep none, hrun, R.leave dep _, RdV.move dep h6 (hc0 _) (.refl _) (fun d k hd h => ⟨hal d k hd h, rfl⟩) (fun l0 e => by cases e) hup, .leave _ _ _⟩
    | ifc t y => exact ⟨v, x.leave dep none, hrun, R.leave dep _, RdV.move dep h6 (hc0 _) (.refl _) (fun d k hd h => ⟨hal d k hd h, rfl⟩) (fun l0 e => by cases e) hup, .leave _ _ _⟩

theorem lk_entry : ∀ (vs : List V) (i k : Nat), lk (entry i vs) k = if i ≤ k then vs[k - i]? else none
  | [], i, k => by simp [entry, lk]
  | v :: vs, i, k => by
    simp only [entry, lk]
    split
    · rename_i e; subst e; simp
    · rename_i e
      rw [lk_entry vs (i + 1) k]
      by_cases h : i ≤ k
      · rw [if_pos h, if_pos (by omega)]
        have : k - i = (k - (i + 1)) + 1 := by omega
        rw [this]; rfl
      · rw [if_neg h, if_neg (by omega)]

/-- the state at a function's head -/
theorem Rel.enter {vs : List V} {m : List (Cel × V)} {args : Array Value} (E : Enters cfg x vs m args w) (hpl : ∀ (k : Nat) (v : V), vs[k]? = some v → v.isOwn = false) {n : Nat} (hn : vs.length ≤ n) :
    Rel cfg x n (St.get ⟨entry 0 vs, m⟩) ⟨args ++ Array.replicate (n - args.size) undef, []⟩ w := by
  have hslot : ∀ k v, St.get ⟨entry 0 vs, m⟩ (.slot k) = some v → vs[k]? = some v := fun k v h => by
    have h' : lk (entry 0 vs) k = some v := h
    rw [lk_entry, if_pos (Nat.zero_le _)] at h'
    exact h'
  have hmono : ∀ l v y, RdV x (get0 m) (conc x act0 w) w l v y → RdV x (St.get ⟨entry 0 vs, m⟩) (conc x ⟨args ++ Array.replicate (n - args.size) undef, []⟩ w) w l v y := fun l v y h => by
    refine h.mono (fun b o u h1 h2 => ⟨h1, h2⟩) (fun b o u h1 h2 => ⟨⟨u, h1⟩, h2⟩) (fun l' z es hs => ?_) (fun d k h => ⟨h, rfl⟩) (fun l0 _ b hb => ⟨hb, fun o u h => h⟩)
    cases l' with
    | slot k => have := hpl k _ (hslot k _ hs); simp [V.isOwn] at this
    | cell c => exact ⟨es, hs, rfl, fun b o L C h => ⟨L, C, h⟩⟩
  have hsz := E.size
  refine ⟨by simp; omega, rfl, E.rel.bound, fun l v h => ?_, fun k v h => ?_, fun c v h => E.rel.box c v h, E.rel.globs, E.rel.nofz, E.rel.gobj⟩
  · cases l with
    | slot k =>
      have h1 := hslot k v h
      have hk : k < vs.length := (List.getElem?_eq_some_iff.1 h1).1
      refine ⟨args[k]'(by omega), ?_, ((hmono _ _ _ ((E.args k _ v (Array.getElem?_eq_getElem (by omega)) h1).rd (hpl k v h1))).reloc (hpl k v h1))⟩
      simp only [conc, Option.some.injEq]
      rw [Array.getD_eq_getD_getElem?, Array.getElem?_append_left (by omega), Array.getElem?_eq_getElem (by omega)]
      rfl
    | cell c =>
      obtain ⟨u, hu, hr⟩ := E.rel.locs (.cell c) v h
      exact ⟨u, hu, hmono _ _ _ hr⟩
  · have h1 := hslot k v h
    have hk : k < vs.length := (List.getElem?_eq_some_iff.1 h1).1
    omega

theorem oneOwn_spec : ∀ {vs : List V}, oneOwn vs = true → ∃ i z es, vs[i]? = some (.own false z es) ∧ ∀ (j : Nat) v, vs[j]? = some v → j ≠ i → ∃ d, v = .d d
  | [], h => by simp [oneOwn] at h
  | v :: vs, h => by
    unfold oneOwn at h
    split at h
    · rename_i z es r e
      cases e
      refine ⟨0, z, es, rfl, fun j v hj hne => ?_⟩
      cases j with
      | zero => exact absurd rfl hne
      | succ j =>
        have := List.all_eq_true.1 h v (List.mem_of_getElem? hj)
        cases v <;> first | exact ⟨_, rfl⟩ | simp [V.isD] at this
    · rename_i d r e
      cases e
      obtain ⟨i, z, es, h1, h2⟩ := oneOwn_spec h
      refine ⟨i + 1, z, es, h1, fun j v hj hne => ?_⟩
      cases j with
      | zero => cases hj; exact ⟨_, rfl⟩
      | succ j => exact h2 j v hj (by omega)
    · cases h

/-- the state at a function's head; one argument may be an array that it is given -/
theorem Rel.enterG {vs : List V} {m : List (Cel × V)} {args : Array Value} (E : Enters cfg x vs m args w) (hp : argsOk vs m = true) {n : Nat} (hn : vs.length ≤ n) :
    ∃ x', Rel cfg x' n (St.get ⟨entry 0 vs, m⟩) ⟨args ++ Array.replicate (n - args.size) undef, []⟩ w ∧ Fr dep x x' w w := by
  unfold argsOk at hp
  rw [Bool.or_eq_true] at hp
  rcases hp with hp | hp
  · exact ⟨x, Rel.enter E (fun k v h => plainV_own (List.all_eq_true.1 hp _ (List.mem_of_getElem? h))) hn, .refl _ _ _⟩
  · rw [Bool.and_eq_true, List.isEmpty_iff] at hp
    obtain ⟨rfl, hp⟩ := hp
    obtain ⟨i, z, es, hi, hd⟩ := oneOwn_spec hp
    have hsz := E.size
    have hlt : i < vs.length := (List.getElem?_eq_some_iff.1 hi).1
    obtain ⟨b, o, cap, hv, how, hcap, hA⟩ : ∃ b o cap, args[i]'(by omega) = .slice (some (ad3 b o)) es.length cap ∧ x.ow b = some .res ∧ es.length ≤ cap ∧ Arr (freeB x) w b o cap z es := E.args i _ _ (Array.getElem?_eq_getElem (by omega)) hi
    have hbn : ∀ b', x.ow b' ≠ x.ow b → b' ≠ b := fun b' h e => h (e ▸ rfl)
    have hmono : ∀ b' o' u, freeB x b' → w.cell? (ad3 b' o') = some u → freeB (x.give b (some (.at (.slot i)))) b' ∧ w.cell? (ad3 b' o') = some u := fun b' o' u h1 h2 => by
      refine ⟨?_, h2⟩
      show (x.give b _).ow b' = none
      rw [Cx.give_ne _ _ (hbn b' (by rw [how, show x.ow b' = none from h1]; simp))]
      exact h1
    have hslot : ∀ k v, St.get ⟨entry 0 vs, []⟩ (.slot k) = some v → vs[k]? = some v := fun k v h => by
      have h' : lk (entry 0 vs) k = some v := h
      rw [lk_entry, if_pos (Nat.zero_le _)] at h'
      exact h'
    refine ⟨x.give b (some (.at (.slot i))), ⟨by simp; omega, rfl, fun b' hb' => ?_, fun l v h => ?_, fun k v h => ?_, (fun c v h => by cases h), fun n e hg => (E.rel.globs n e hg).mono hmono, E.rel.nofz_give (fun _ => .inl how), fun n ob hg => ?_⟩, Fr.giveRes how _⟩
    · by_cases e : b' = b
      · subst e; exact E.rel.bound _ (by rw [how]; simp)
      · rw [Cx.give_ne _ _ e] at hb'; exact E.rel.bound _ hb'
    · cases l with
      | cell c => cases h
      | slot k =>
        have h1 := hslot k v h
        have hk : k < vs.length := (List.getElem?_eq_some_iff.1 h1).1
        refine ⟨args[k]'(by omega), ?_, ?_⟩
        · simp only [conc, Option.some.injEq]
          rw [Array.getD_eq_getD_getElem?, Array.getElem?_append_left (by omega), Array.getElem?_eq_getElem (by omega)]
          rfl
        · by_cases e : k = i
          · subst e
            rw [hi] at h1
            cases h1
            rw [hv]
            exact .own _ b o _ cap z false es (by simp) rfl hcap (hA.mono hmono (fun _ _ h => h) (fun _ _ _ h => h))
          · obtain ⟨d, rfl⟩ := hd k v h1 e
            have := RdV.d_inv (E.args k _ _ (Array.getElem?_eq_getElem (by omega)) h1)
            exact .d _ _ _ (this.mono hmono)
    · have h1 := hslot k v h
      have hk : k < vs.length := (List.getElem?_eq_some_iff.1 h1).1
      omega
    · obtain ⟨g1, g2⟩ := E.rel.gobj n ob hg
      exact ⟨by rw [Cx.give_ne _ _ (hbn n (by rw [g1, how]; simp))]; exact g1, g2⟩

theorem run_enter {f : FuncId} {fn : Func} {c : Code} (hf : P.funcs[f]? = some fn) (hname : (fn.name == "runtime.NumGoroutine") = false) (hb : fn.body = some c) (args : Array Value) (w : World) :
    (callFunc f args).run P w = .ok (.enter f args) w := by
  have h1 : fn.name ≠ "runtime.NumGoroutine" := by simpa using hname
  simp [callFunc, hf, h1, hb]

/-- the table of functions is the program's -/
def FuncsOk (P : Program) (cfg : Cfg) : Prop :=
  ∀ f fn, cfg.funcs f = some fn → ∃ F ad c, P.funcs[f]? = some F ∧ (F.name == "runtime.NumGoroutine") = false ∧ F.body = some c ∧ cFunc P ad F = some fn

/-- functions that are taken by their contracts -/
def ExtOk (P : Program) (cfg : Cfg) : Prop :=
  ∀ f g, cfg.ext f = some g → ∀ ds r, g ds = some r → ∀ (F : Nat → Prop) (args : Array Value) (w : World), args.size = ds.length → (∀ (i : Nat) v d, args[i]? = some v → ds[i]? = some d → Rd F w v d) → (∀ n e, cfg.glob n = some e → PtrAt F w n 0 e) → (∀ n ob, cfg.gobj n = some ob → HoldsG w n ob) →
    Does P f args w fun v w' => w.heap.size ≤ w'.heap.size ∧ (∀ b, b < w.heap.size → w'.heap[b]? = w.heap[b]?) ∧ SameIO w w' ∧
      match r with
      | .own _ z es => ∃ b o cap, v = .slice (some (ad3 b o)) es.length cap ∧ w.heap.size ≤ b ∧ b < w'.heap.size ∧ es.length ≤ cap ∧ NoFz w' b ∧ Arr (fun b' => (F b' ∧ b' < w.heap.size) ∨ (w.heap.size ≤ b' ∧ b' ≠ b)) w' b o cap z es
      | .d y => Rd (fun b' => F b' ∨ w.heap.size ≤ b') w' v y
      | _ => False

theorem Rel.older {s : Get} (R : Rel cfg x N s a w) {w' : World} (hz : w.heap.size ≤ w'.heap.size) (hh : ∀ b, b < w.heap.size → w'.heap[b]? = w.heap[b]?) (hio : SameIO w w')
    {x' : Cx} (hx : ∀ b, b < w.heap.size → x'.ow b = x.ow b) (hx' : ∀ b, x'.ow b ≠ none → b < w'.heap.size) (had : x'.ad = x.ad) (hZ : ∀ b, w.heap.size ≤ b → Held (x'.ow b) → NoFz w' b) : Rel cfg x' N s a w' ∧ Fr dep x x' w w' := by
  have hlt : ∀ b o u, w.cell? (ad3 b o) = some u → b < w.heap.size := fun b o u h => by simpa using World.block_lt_of_cell? _ _ h
  have hcell : ∀ b o u, w.cell? (ad3 b o) = some u → w'.cell? (ad3 b o) = some u := fun b o u h => by rw [cell_of_heap (hh b (hlt b o u h))]; exact h
  have hroom : Room w w' := fun b o u h1 h2 => ⟨⟨u, hcell b o u h1⟩, by rw [froz_of_heap (hh b (hlt b o u h1))]; exact h2⟩
  refine ⟨R.step [] R.size R.defs hx' (fun l _ v hv => ⟨hv, fun u hu => ?_⟩) (fun l hl => by simp at hl) (fun k hk => by simp at hk) (fun b o u h1 h2 => ⟨by rw [hx b (hlt b o u h2)]; exact h1, hcell b o u h2⟩) hroom (fun l hl => by simp at hl)
    (fun d k h => ⟨h, by rw [had]⟩) (fun l0 _ b hb => ⟨by rw [hx b (R.bound b (by rw [hb]; simp))]; exact hb, fun o u h => hcell b o u h⟩) (fun c v hc => ?_) (fun b h => ?_) (fun b h hb => ⟨by rw [hx b hb]; exact h, hh b hb⟩), hz, fun b hb _ => ⟨hh b hb, hx b hb⟩, fun _ _ _ => by rw [had], hio, hroom⟩
  · cases l with
    | slot k => exact hu
    | cell c => show w'.cell? (ad3 (x'.ad _ _) _) = _; rw [had]; exact hcell _ _ _ hu
  · obtain ⟨h1, h2, h3⟩ := R.box c v hc
    have hb := R.bound _ (by rw [h1]; simp)
    exact ⟨by rw [had, hx _ hb]; exact h1, h2, by rw [had, froz_of_heap (hh _ hb)]; exact h3⟩
  · by_cases hb : b < w.heap.size
    · rw [hx b hb] at h
      exact (R.nofz b h).heap (hh b hb)
    · exact hZ b (by omega) h

theorem allD_spec : ∀ {vs : List V} {ds : List D}, allD vs = some ds → vs = ds.map .d
  | [], ds, h => by cases h; rfl
  | .d x :: r, ds, h => by
    simp only [allD, Option.map_eq_some_iff] at h
    obtain ⟨ds', h1, rfl⟩ := h
    simp [allD_spec h1]
  | .own _ _ _ :: _, _, h | .bor _ _ _ :: _, _, h | .bref _ _ _ :: _, _, h | .iptr _ _ :: _, _, h | .ref _ _ _ :: _, _, h | .clo _ _ _ :: _, _, h | .ifc _ _ :: _, _, h | .junk :: _, _, h => by cases h

end
end Go.Ev

/-! EvZm -/
/- The evaluator is sound. Own work. -/
namespace Go.Ev
open Go

section
variable {P : Program} {cfg : Cfg}

theorem ext_ok (hX : ExtOk P cfg) {f : FuncId} {g : List D → Option V} (hf : cfg.ext f = some g) {dep : Nat} {vs : List V} {m : List (Cel × V)} {r : V} (h : (allD vs).bind g = some r) {x : Cx} {w : World} {args : Array Value}
    (E : Enters cfg x vs m args w) : Does P f args w fun v w' => ∃ x', Leaves cfg x x' dep m m r v w w' := by
  obtain ⟨ds, h1, h2⟩ := Option.bind_eq_some_iff.1 h
  have hvs := allD_spec h1
  subst hvs
  have hfree : ∀ b, w.heap.size ≤ b → x.ow b = none := fun b hb => by
    by_cases e : x.ow b = none
    · exact e
    · have := E.rel.bound b e; omega
  refine (hX f g hf ds r h2 (freeB x) args w (by simpa using E.size) (fun i v d e1 e2 => ?_) ?_ (fun n ob h => (E.rel.gobj n ob h).2)).mono ?_
  · exact RdV.d_inv (E.args i v (.d d) e1 (by rw [List.getElem?_map, e2]; rfl))
  · exact E.rel.globs
  · rintro v w' ⟨hz, hh, hio, hr⟩
    cases r with
    | d y =>
      obtain ⟨R', F'⟩ := E.rel.older (dep := dep) (x' := x) hz hh hio (fun _ _ => rfl) (fun b hb => Nat.lt_of_lt_of_le (E.rel.bound b hb) hz) rfl (fun b hb h => by rw [hfree b hb] at h; rcases h with h | ⟨_, h⟩ <;> cases h)
      refine ⟨x, R', .d _ _ _ (Rd.mono hr fun b o u h1 h2 => ⟨?_, h2⟩), F', fun c _ h => h⟩
      rcases h1 with h1 | h1
      · exact h1
      · exact hfree b h1
    | own nw z es =>
      obtain ⟨b, o, cap, rfl, hb, hb', hcap, hnf, A⟩ := hr
      obtain ⟨R', F'⟩ := E.rel.older (dep := dep) (x' := x.give b (some .res)) hz hh hio (fun b' hlt => Cx.give_ne _ _ (by omega)) (fun b' hne => by
        by_cases e : b' = b
        · omega
        · rw [Cx.give_ne _ _ e] at hne
          exact Nat.lt_of_lt_of_le (E.rel.bound b' hne) hz) rfl (fun b' hb' h => by
        by_cases e : b' = b
        · subst e; exact hnf
        · rw [Cx.give_ne _ _ e, hfree b' hb'] at h; rcases h with h | ⟨_, h⟩ <;> cases h)
      refine ⟨_, R', ⟨b, o, cap, rfl, by simp [Cx.give], hcap, A.mono (fun b' o' u h1 h2 => ⟨?_, h2⟩) (fun _ _ h => h) (fun _ _ _ h => h)⟩, F', fun c _ h => h⟩
      rcases h1 with ⟨h1, h3⟩ | ⟨h1, h3⟩
      · show (x.give b _).ow b' = none
        rw [Cx.give_ne _ _ (by omega)]; exact h1
      · show (x.give b _).ow b' = none
        rw [Cx.give_ne _ _ h3]; exact hfree b' h1
    | _ => exact hr.elim

theorem cFunc_spec {ad : Advice} {F : Func} {fn : IFunc} (h : cFunc P ad F = some fn) {c : Code} (hb : F.body = some c) :
    cRot P ad F.ntmps c = some fn.body ∧ cRes P F.results.toList = some fn.results ∧ fn.arity ≤ F.ntmps := by
  unfold cFunc at h
  rw [hb] at h
  simp only at h
  split at h
  · rename_i b rs h1 h2
    split at h
    · rename_i hle
      cases h
      exact ⟨h1, h2, hle⟩
    · cases h
  · cases h

theorem body_ok (hm : P.follows .mixedOrders = true) (hC : CfgOk P cfg) {orc : Orc} (hO : OrcOk P cfg orc) (hA : OrcAlive orc) {n : Nat} {f : FuncId} {F : Func} {ad : Advice} {c : Code} {fn : IFunc} (hf : P.funcs[f]? = some F) (hname : (F.name == "runtime.NumGoroutine") = false)
    (hb : F.body = some c) (hc : cFunc P ad F = some fn) {dep : Nat} {vs : List V} {m m' : List (Cel × V)} {r : V} (h : evBody cfg orc n fn dep vs m = some (r, m')) (halive : ∀ c : Cel, c.d < dep → (lk m c).isSome → (lk m' c).isSome) {x : Cx} {w : World} {args : Array Value}
    (E : Enters cfg x vs m args w) : Does P f args w fun v w' => ∃ x', Leaves cfg x x' dep m m' r v w w' := by
  obtain ⟨hcode, hres, har⟩ := cFunc_spec hc hb
  unfold evBody at h
  split at h
  · rename_i hv
    obtain ⟨x0, R0, F0⟩ := Rel.enterG (dep := dep) E hv.2 (n := F.ntmps) (by omega)
    have key : ∀ {e st v}, exitOf e = .normal ∨ exitOf e = .ret → evCode cfg orc dep n fn.body ⟨entry 0 vs, m⟩ = some (e, st) → resAll dep st.get fn.results = some v → leaveR dep v st.mem = some (r, m') → Does P f args w fun v w' => ∃ x', Leaves cfg x x' dep m m' r v w w' := by
      intro e st v he hev h1 h2
      refine .inr ⟨run_enter hf hname hb args w, calls_of_wp hf hb ?_⟩
      refine rot_wp hm hC hO c fn.body hcode hev R0 (fun a' w' x' R' F' => ?_)
      obtain ⟨u, x'', g1, g2, g3, g4⟩ := results_ok R' hres h1 h2
      have hp : a'.defers = [] ∧ ∃ v, (results F a'.tmps).run P w' = .ok v w' ∧ ∃ x', Leaves cfg x x' dep m m' r v w w' := ⟨R'.defs, u, g1, x'', g2, g3, (F0.trans F').trans g4, halive⟩
      rcases he with he | he <;> rw [he] <;> exact hp
    split at h
    · rename_i st hev
      obtain ⟨v, h1, h2⟩ := Option.bind_eq_some_iff.1 h
      exact key (.inl rfl) hev h1 h2
    · rename_i st hev
      obtain ⟨v, h1, h2⟩ := Option.bind_eq_some_iff.1 h
      exact key (.inr rfl) hev h1 h2
    · cases h
  · cases h

theorem fn_ok (hm : P.follows .mixedOrders = true) (hC : CfgOk P cfg) (hF : FuncsOk P cfg) (hX : ExtOk P cfg) : ∀ n, OrcOk P cfg (evFn cfg n)
  | 0 => fun _ _ _ _ _ _ h => by cases h
  | n + 1 => fun f dep vs m r m' h x w args E => by
    have halive := alive_fn cfg (n + 1) f dep vs m r m' h
    unfold evFn at h
    split at h
    · rename_i g hg
      simp only [Option.map_eq_some_iff] at h
      obtain ⟨v, h1, he⟩ := h
      cases he
      exact ext_ok hX hg h1 E
    · split at h
      · rename_i fn hfn
        obtain ⟨F, ad, c, h1, h2, h3, h4⟩ := hF f fn hfn
        exact body_ok hm hC (fn_ok hm hC hF hX n) (alive_fn cfg n) h1 h2 h3 h4 h halive E
      · cases h

end
end Go.Ev
