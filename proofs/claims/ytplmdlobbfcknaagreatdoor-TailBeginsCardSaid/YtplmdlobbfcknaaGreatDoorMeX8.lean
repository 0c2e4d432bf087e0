/- Closed calls on blocks of literals, whole or windows; what new blocks hold behind them. Own work. -/
import Derived.Test.YtplmdlobbfcknaaGreatDoorMeX6
namespace Go.Me
open Go Go.RowKit
set_option linter.unusedSimpArgs false
set_option linter.unusedVariables false

/-- are all known cells literals? -/
def Ob.lit : Ob → Bool
  | .cells n _ d t => (List.range n).all fun i => match (Ob.cells n 0 d t).at i with
    | some x => (Me.toV x).isSome
    | none => true
  | _ => false
theorem at_ez {n e e' : Nat} {d : M} {t : Tr M} {i : Nat} : (Ob.cells n e d t).at i = (Ob.cells n e' d t).at i := rfl
theorem OR.lit {ν ν' : Nm} {ρ : Nat × Nat} {o : Ob} {ob : Obj} (h : OR ν ρ o ob) (hl : o.lit = true) : OR ν' ρ o ob := by
  cases h with
  | cells n ex d t cs e fr hn hx hf hi =>
    refine .cells n ex d t cs e fr hn hx hf fun i x h => ?_
    obtain ⟨v, h1, h2⟩ := hi i x h
    obtain ⟨h3, _⟩ := cells_at h
    have h4 := List.all_eq_true.1 hl i (List.mem_range.2 h3)
    rw [at_ez (e' := ex), h] at h4
    obtain ⟨u, hu⟩ := Option.isSome_iff_exists.1 h4
    have := h2.toV hu
    subst this
    exact ⟨v, h1, vr_toV hu⟩
  | map => cases hl
/-- the block c is what o says -/
def ObAt (w : World) (c : Nat) (ρ : Nat × Nat) (o : Ob) : Prop := ∃ ob, w.heap[c]? = some ob ∧ OR Nm.none ρ o ob
theorem ObAt.lt {w : World} {c : Nat} {ρ : Nat × Nat} {o : Ob} (h : ObAt w c ρ o) : c < w.heap.size := by
  obtain ⟨ob, h, _⟩ := h
  exact (Array.getElem?_eq_some_iff.1 h).1
theorem ObAt.same {w w' : World} {c : Nat} {ρ : Nat × Nat} {o : Ob} (h : ObAt w c ρ o) (k : w'.heap[c]? = w.heap[c]?) : ObAt w' c ρ o := by
  obtain ⟨ob, h1, h2⟩ := h
  exact ⟨ob, k.trans h1, h2⟩
theorem ObAt.cell {w : World} {c : Nat} {ρ : Nat × Nat} {o : Ob} (h : ObAt w c ρ o) {i : Nat} {x : M} {v : Value} (hx : o.at i = some x) (hv : Me.toV x = some v) : w.cell? ⟨c, i + ρ.2, none⟩ = some v := by
  obtain ⟨ob, h1, h2⟩ := h
  cases h2 with
  | cells n ex d t cs e fr hn hxx hf hi =>
    obtain ⟨u, g1, g2⟩ := hi i x hx
    have := g2.toV hv
    subst this
    simp [World.cell?, h1, g1]
  | map => cases hx
theorem RowAt.obAt {w : World} {c : Nat} {us : List Value} (h : RowAt w c us) {xs : List M} (hx : Me.toVs xs = some us) : ObAt w c (0, 0) (cellsL 0 .nilP xs) := h.or (vr_toVs hx)
theorem ObAt.row {w : World} {c : Nat} {us : List Value} {xs : List M} (h : ObAt w c (0, 0) (cellsL 0 .nilP xs)) (hx : Me.toVs xs = some us) : RowAt w c us := by
  obtain ⟨ob, h1, h2⟩ := h
  obtain ⟨us', q1, q2⟩ := RowAt.ofOr h1 h2
  have := q2.toVs hx
  rwa [this] at q1

/-- some blocks: where they stand, their room and beginning, what they hold -/
abbrev Blk := Nat × (Nat × Nat) × Ob
def hpG (os : List Ob) : Hp := ⟨os.length, (List.range os.length).foldr (fun i t => match os[i]? with | some p => t.put i p | none => t) .lf⟩
def nmG (l : List Blk) : Nm := ⟨fun b => (l[b]?).map (·.1), fun b => match l[b]? with | some p => p.2.1 | none => (0, 0)⟩
theorem hpG_aux (l : List Ob) (b : Nat) : ∀ is : List Nat, (is.foldr (fun i t => match l[i]? with | some p => t.put i p | none => t) Tr.lf).get b = if b ∈ is then l[b]? else none
  | [] => rfl
  | i :: is => by
    rw [List.foldr_cons]
    cases hi : l[i]? with
    | none =>
      simp only
      rw [hpG_aux l b is]
      by_cases e : b = i
      · subst e; simp [hi]
      · simp [e]
    | some p =>
      simp only
      rw [Tr.get_put, hpG_aux l b is]
      by_cases e : b = i
      · subst e; simp [hi]
      · simp [e]
theorem hpG_get (l : List Ob) (b : Nat) : (hpG l).get b = l[b]? := by
  unfold hpG Hp.get
  rw [hpG_aux]
  by_cases h : b < l.length
  · rw [if_pos (List.mem_range.2 h)]
  · rw [if_neg (fun hm => h (List.mem_range.1 hm)), List.getElem?_eq_none (by omega)]
theorem WR.blks {C : Cfg} {base : Nat} {l : List Blk} {w : World} (hg : Laid C w) (hgb : ∀ k cs, C.gobj k = some cs → k < base) (hbw : base ≤ w.heap.size) (hn : (l.map (·.1)).Nodup)
    (h : ∀ p ∈ l, base ≤ p.1 ∧ p.2.2.lit = true ∧ ObAt w p.1 p.2.1 p.2.2) : WR C base (nmG l) (hpG (l.map (·.2.2))).get l.length w := by
  have at_ : ∀ {b c : Nat}, nmG l b = some c → ∃ p, l[b]? = some p ∧ p.1 = c := fun {b c} hb => by
    have hb : (l[b]?).map (·.1) = some c := hb
    cases hl : l[b]? with
    | none => rw [hl] at hb; cases hb
    | some p => rw [hl] at hb; cases hb; exact ⟨p, rfl, rfl⟩
  refine ⟨fun b c hb => ?_, fun b o c h1 h2 h3 => ?_, fun b b' c _ _ h1 h2 => ?_, fun k cs hk => ?_, hbw, fun b o hb => ?_⟩
  · obtain ⟨p, hl, rfl⟩ := at_ hb
    obtain ⟨g1, _, g3⟩ := h p (List.mem_of_getElem? hl)
    exact ⟨(List.getElem?_eq_some_iff.1 hl).1, g1, g3.lt⟩
  · obtain ⟨p, hl, rfl⟩ := at_ h3
    rw [hpG_get, List.getElem?_map, hl] at h1
    cases h1
    obtain ⟨_, g2, ob, g3, g4⟩ := h p (List.mem_of_getElem? hl)
    refine ⟨ob, g3, ?_⟩
    have : (nmG l).rm b = p.2.1 := by simp [nmG, hl]
    rw [this]
    exact g4.lit g2
  · obtain ⟨p, l1, e1⟩ := at_ h1
    obtain ⟨q, l2, e2⟩ := at_ h2
    have q1 : (l.map (·.1))[b]? = some c := by simp [l1, e1]
    have q2 : (l.map (·.1))[b']? = some c := by simp [l2, e2]
    obtain ⟨r1, r2⟩ := List.getElem?_eq_some_iff.1 q1
    obtain ⟨r3, r4⟩ := List.getElem?_eq_some_iff.1 q2
    exact (List.getElem_inj hn).1 (r2.trans r4.symm)
  · obtain ⟨vs, e, fr, h1, h2⟩ := hg k cs hk
    exact ⟨hgb k cs hk, vs, e, fr, h1, h2⟩
  · rw [hpG_get] at hb
    have := (List.getElem?_eq_some_iff.1 hb).1
    simpa using this
/-- a closed run: what it tells, what some blocks hold behind it -/
def ranG (C : Cfg) (n : Nat) (f : FuncId) (args : List M) (os : List Ob) (y : M) (outs : List (Nat × Ob)) : Bool := match evF C n f args (hpG os) with
  | some (z, H) => M.beq z y && hasAll H outs
  | none => false
/-- a call that runs so -/
theorem blks_call {C : Cfg} (hC : ∀ n, CallOk C (evF C n)) {f : FuncId} {F : Func} {c : Code} (hf : C.P.funcs[f]? = some F) (hname : (F.name == "runtime.NumGoroutine") = false) (hb : F.body = some c)
    {n : Nat} {args : List M} {y : M} {outs : List (Nat × Ob)} {l : List Blk} (h : ranG C n f args (l.map (·.2.2)) y outs = true)
    {base : Nat} {w : World} {vs : List Value} (hg : Laid C w) (hgb : ∀ k cs, C.gobj k = some cs → k < base) (hbw : base ≤ w.heap.size) (hn : (l.map (·.1)).Nodup)
    (hr : ∀ p ∈ l, base ≤ p.1 ∧ p.2.2.lit = true ∧ ObAt w p.1 p.2.1 p.2.2) (hv : VRs (nmG l) args vs) (hout : outs.all (fun p => p.2.lit) = true) :
    Calls C.P f vs.toArray w fun e w' => ∃ v ν', e = .returned v ∧ VR ν' y v ∧ (∀ (b : Nat) p, l[b]? = some p → ν' b = some p.1 ∧ ν'.rm b = p.2.1) ∧ (∀ p ∈ outs, ∀ c, ν' p.1 = some c → ObAt w' c (ν'.rm p.1) p.2) ∧
      (∀ b c, l.length ≤ b → ν' b = some c → w.heap.size ≤ c ∨ ∃ p ∈ l, p.1 = c) ∧
      (∀ k, k < w.heap.size → (∀ p ∈ l, p.1 ≠ k) → w'.heap[k]? = w.heap[k]?) ∧ w.heap.size ≤ w'.heap.size ∧ w'.os = w.os ∧ w'.tape = w.tape ∧ w'.output = w.output ∧
      (∀ p ∈ outs, ∀ q ∈ outs, ∀ c, ν' p.1 = some c → ν' q.1 = some c → p.1 = q.1) := by
  unfold ranG at h
  split at h
  · rename_i z H hev
    simp only [Bool.and_eq_true] at h
    obtain ⟨h1, h2⟩ := h
    have h1 := M.beq_eq h1
    subst h1
    have R := WR.blks hg hgb hbw hn hr
    have hlen : (hpG (l.map (·.2.2))).n = l.length := by simp [hpG]
    have R0 : WR C base (nmG l) (hpG (l.map (·.2.2))).get (hpG (l.map (·.2.2))).n w := by rw [hlen]; exact R
    have nm_l : ∀ (b : Nat) p, l[b]? = some p → nmG l b = some p.1 ∧ (nmG l).rm b = p.2.1 := fun b p hp => by simp [nmG, hp]
    rcases hC n f args (hpG (l.map (·.2.2))) z H hev base (nmG l) w vs R0 hv with ⟨v, w', ν', h4, _⟩ | ⟨_, h5⟩
    · rw [run_enter hf hname hb] at h4
      cases h4
    · refine h5.mono fun e w' ⟨v, ν', he, hv', R', T⟩ => ?_
      refine ⟨v, ν', he, hv', fun b p hp => ?_, fun p hp c hc => ?_, fun b c hb hc => ?_, fun k hk hkc => T.keep k hk fun b _ hbk => ?_, T.size, T.rest.1, T.rest.2.1, T.rest.2.2, fun p hp q hq c h6 h7 => ?_⟩
      · obtain ⟨g1, g2⟩ := T.old b (by rw [hlen]; exact (List.getElem?_eq_some_iff.1 hp).1)
        obtain ⟨g3, g4⟩ := nm_l b p hp
        exact ⟨g1.trans g3, g2.trans g4⟩
      · have h3 := List.all_eq_true.1 h2 p hp
        have hlit := List.all_eq_true.1 hout p hp
        split at h3
        · rename_i o ho
          have e1 := Ob.beq_eq h3
          subst e1
          have hlive : p.2.live = true := by
            have hlit : p.2.lit = true := hlit
            cases hq : p.2 <;> rw [hq] at hlit <;> first | rfl | cases hlit
          obtain ⟨ob, g1, g2⟩ := R'.ob p.1 _ c ho hlive hc
          exact ⟨ob, g1, g2.lit hlit⟩
        · cases h3
      · rcases T.new b c (by rw [hlen]; exact hb) hc with h | ⟨b0, _, h6⟩
        · exact .inl h
        · have h6 : (l[b0]?).map (·.1) = some c := h6
          cases hl : l[b0]? with
          | none => rw [hl] at h6; cases h6
          | some p => rw [hl] at h6; cases h6; exact .inr ⟨p, List.mem_of_getElem? hl, rfl⟩
      · have hbk : (l[b]?).map (·.1) = some k := hbk
        cases hl : l[b]? with
        | none => rw [hl] at hbk; cases hbk
        | some p => rw [hl] at hbk; cases hbk; exact hkc p (List.mem_of_getElem? hl) rfl
      · have lv : ∀ p ∈ outs, liveAt H.get p.1 := fun p hp => by
          have h3 := List.all_eq_true.1 h2 p hp
          have hlit : p.2.lit = true := List.all_eq_true.1 hout p hp
          split at h3
          · rename_i o ho
            refine ⟨o, ho, ?_⟩
            have e1 := Ob.beq_eq h3
            subst e1
            cases hq : p.2 <;> rw [hq] at hlit <;> first | rfl | cases hlit
          · cases h3
        exact R'.inj p.1 q.1 c (lv p hp) (lv q hq) h6 h7
  · cases h
end Go.Me
