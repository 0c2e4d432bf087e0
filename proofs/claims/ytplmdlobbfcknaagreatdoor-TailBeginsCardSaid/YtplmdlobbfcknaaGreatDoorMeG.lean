/- Operations that leave the memory as it is: structs, pieces, conversions, maps. Own work. -/
import Derived.Test.YtplmdlobbfcknaaGreatDoorMeF
import Derived.Laws.Tables
namespace Go.Me
open Go
set_option linter.unusedSimpArgs false
set_option linter.unusedVariables false

section
variable {C : Cfg} {base : Nat} {ν : Nm} {g : Gt} {n : Nat} {w : World} {H : Hp} {s : Tr M} {a : Act}

/-! parts put into cells -/
theorem foldl_set : ∀ (xs : List Value) (off j0 : Nat) (cells : Array Value), (xs.zipIdx j0).foldl (fun cs (p : Value × Nat) => cs.setIfInBounds (off + p.2) p.1) cells = (xs.zipIdx j0).foldl (fun cs (p : Value × Nat) => cs.setIfInBounds (off + p.2) p.1) cells := fun _ _ _ _ => rfl
theorem setAt_vr : ∀ (xs : List M) (us : List Value) {l : List M} {vs : List Value} (off j0 : Nat), VRs ν xs us → VRs ν l vs → VRs ν (setAt l (off + j0) xs) ((us.zipIdx j0).foldl (fun cs (p : Value × Nat) => cs.setIfInBounds (off + p.2) p.1) vs.toArray).toList
  | [], us, l, vs, off, j0, h1, h2 => by rw [h1.inv_nil]; exact h2
  | x :: xs, us, l, vs, off, j0, h1, h2 => by
    obtain ⟨u, r, rfl, h3, h4⟩ := h1.inv_cons
    have := setAt_vr xs r (l := l.set (off + j0) x) (vs := vs.set (off + j0) u) off (j0 + 1) h4 (h2.set _ h3)
    simpa [setAt, List.zipIdx_cons, List.setIfInBounds_toArray, Nat.add_assoc] using this
theorem setAt_len : ∀ (xs : List M) (l : List M) (o : Nat), (setAt l o xs).length = l.length
  | [], _, _ => rfl
  | x :: xs, l, o => by simp [setAt, setAt_len xs]
theorem and3 {a b c : Bool} {β : Type} {x : Option β} {r : β} (h : (bif a && b && c then x else none) = some r) : a = true ∧ b = true ∧ c = true ∧ x = some r := by
  cases a <;> cases b <;> cases c <;> first | (cases h; done) | exact ⟨rfl, rfl, rfl, h⟩
theorem and2 {a b : Bool} {β : Type} {x : Option β} {r : β} (h : (bif a && b then x else none) = some r) : a = true ∧ b = true ∧ x = some r := by
  cases a <;> cases b <;> first | (cases h; done) | exact ⟨rfl, rfl, h⟩
theorem and1 {a : Bool} {β : Type} {x : Option β} {r : β} (h : (bif a then x else none) = some r) : a = true ∧ x = some r := by
  cases a <;> first | (cases h; done) | exact ⟨rfl, h⟩
theorem fill_vr {place pl : Nat → Option (Nat × Nat)} (hp : ∀ i q, pl i = some q → place i = some q) : ∀ (ps : List (Nat × M)) (us : List (Nat × Value)) {l : List M} {cells : Array Value} {r : List M},
    ps.length = us.length → (∀ (i : Nat) x u, ps[i]? = some x → us[i]? = some u → x.1 = u.1 ∧ VR ν x.2 u.2) → VRs ν l cells.toList → fillM pl l ps = some r → ∃ cells', Instr.fill place cells us = some cells' ∧ VRs ν r cells'.toList
  | [], us, l, cells, r, hl, hu, h, e => by
    have : us = [] := List.eq_nil_of_length_eq_zero hl.symm
    subst this
    simp only [fillM, Option.some.injEq] at e
    subst e
    exact ⟨cells, rfl, h⟩
  | (i, x) :: ps, us, l, cells, r, hl, hu, h, e => by
    cases us with
    | nil => simp at hl
    | cons q us =>
      obtain ⟨i', u⟩ := q
      obtain ⟨e1, e2⟩ := hu 0 _ _ rfl rfl
      simp only at e1 e2
      subst e1
      unfold fillM at e
      split at e
      · rename_i o z hq
        obtain ⟨h1, h2, h3, h4⟩ := and3 e
        have hc := e2.cells h3
        have hz : u.cells.size = z := by
          have := hc.1
          simp only [beq_iff_eq] at h1
          simpa [h1] using this.symm
        have hb : o + z ≤ cells.size := by
          have := h.1
          simp only [Nat.ble_eq] at h2
          simp at this
          omega
        have hs := setAt_vr (ν := ν) x.cells u.cells.toList o 0 hc h
        have ih := fill_vr hp ps us (cells := (u.cells.toList.zipIdx 0).foldl (fun cs (p : Value × Nat) => cs.setIfInBounds (o + p.2) p.1) cells) (by simpa using hl) (fun j y v h5 h6 => hu (j + 1) y v (by simpa using h5) (by simpa using h6)) (by simpa using hs) h4
        obtain ⟨c', f1, f2⟩ := ih
        refine ⟨c', ?_, f2⟩
        rw [← f1]
        simp only [Instr.fill, hp i _ hq, hz, ne_eq, not_true_eq_false, decide_false, Bool.false_or]
        rw [if_neg (by simp; omega)]
        congr 1
        rw [← Array.foldl_toList]
        simp
      · cases e
theorem parts2_vr (S : SR ν s a) : ∀ {l : List (Nat × Operand)} {xs : List (Nat × M)}, parts2 s l = some xs → xs.length = l.length ∧ ∀ (i : Nat) x u, xs[i]? = some x → (l.map fun p => (p.1, a.eval p.2))[i]? = some u → x.1 = u.1 ∧ VR ν x.2 u.2
  | [], xs, h => by simp only [parts2, Option.some.injEq] at h; subst h; exact ⟨rfl, by simp⟩
  | (i, X) :: l, xs, h => by
    unfold parts2 at h
    split at h
    · rename_i v r h1 h2
      cases h
      obtain ⟨g1, g2⟩ := parts2_vr S h2
      refine ⟨by simp [g1], fun j x u h3 h4 => ?_⟩
      cases j with
      | zero => simp at h3 h4; subst h3; subst h4; exact ⟨rfl, val_vr S h1⟩
      | succ j => simp only [List.getElem?_cons_succ, List.map_cons] at h3 h4; exact g2 j x u h3 h4
    · cases h
theorem size_info {t : TypeId} {z : Nat} (h : size C t = some z) : ∃ i, C.P.info? t = some i ∧ i.size = z := by
  unfold size at h
  split at h
  · rename_i i hi; cases h; exact ⟨i, hi, rfl⟩
  · cases h
theorem zero_info {t : TypeId} {x : M} (h : zero C t = some x) : ∃ i v, C.P.info? t = some i ∧ i.zero = some v ∧ ∀ ν, VR ν x v := by
  unfold zero at h
  split at h
  · rename_i i hi
    split at h
    · rename_i v hv; exact ⟨i, v, hi, hv, fun ν => vr_ofV h⟩
    · cases h
  · cases h
theorem ofVs_cell : ∀ {l : List Value} {xs : List M}, ofVs l = some xs → xs.all M.cell = true
  | [], _, e => by simp [ofVs] at e; subst e; rfl
  | v :: l, xs, e => by
    unfold ofVs at e
    split at e
    · rename_i x r h1 h2
      cases e
      have : x.cell = true := by
        unfold ofV0 at h1
        split at h1 <;> first | (cases h1; done) | (cases h1; rfl)
      simp [this, ofVs_cell h2]
    · cases e
theorem zero_cells {t : TypeId} {x : M} (h : zero C t = some x) : x.cells.all M.cell = true := by
  unfold zero at h
  split at h
  · split at h
    · rename_i v hv
      unfold ofV at h
      split at h
      · split at h
        · rename_i l hl; cases h; exact ofVs_cell hl
        · cases h
      · split at h
        · cases h; rfl
        · cases h
      · split at h
        · cases h; rfl
        · cases h
      · unfold ofV0 at h
        split at h <;> first | (cases h; done) | (cases h; rfl)
    · cases h
  · cases h
theorem zero_rel {t : TypeId} {x : M} (h : zero C t = some x) : ∃ i v, C.P.info? t = some i ∧ i.zero = some v ∧ VR ν x v ∧ VRs ν x.cells v.cells.toList := by
  obtain ⟨i, v, h1, h2, h3⟩ := zero_info h
  exact ⟨i, v, h1, h2, h3 ν, (h3 ν).cells (zero_cells h)⟩
theorem places_ok : ∀ {l : List Field}, allSized C l = true → ∃ pl, l.mapM (fun f => (C.P.info? f.type).map fun i => (f.offset, i.size)) = some pl ∧ ∀ (i : Nat) f, l[i]? = some f → ∀ z, size C f.type = some z → pl[i]? = some (f.offset, z)
  | [], _ => ⟨[], rfl, by simp⟩
  | f :: l, h => by
    simp only [allSized, Bool.and_eq_true] at h
    obtain ⟨pl, h1, h2⟩ := places_ok h.2
    have h3 := h.1
    split at h3
    · rename_i z hz
      obtain ⟨i, hi, hsz⟩ := size_info hz
      refine ⟨(f.offset, i.size) :: pl, by simp [hi, h1], fun j f' hj z' hz' => ?_⟩
      cases j with
      | zero =>
        simp at hj; subst hj
        obtain ⟨i', hi', hsz'⟩ := size_info hz'
        rw [hi] at hi'; cases hi'
        simp [hsz']
      | succ j => simp at hj; simpa using h2 j f' hj z' hz'
    · cases h3
theorem run_buildM {t : TypeId} {ps : List (Nat × M)} {us : Array (Nat × Value)} {r : M} (hl : ps.length = us.toList.length) (hu : ∀ (i : Nat) x u, ps[i]? = some x → us.toList[i]? = some u → x.1 = u.1 ∧ VR ν x.2 u.2) (h : buildM C t ps = some r) :
    ∃ v, (Instr.build t us).run C.P w = .ok v w ∧ VR ν r v := by
  unfold buildM at h
  split at h
  · rename_i zv hz
    obtain ⟨i, z, hi, hz1, _, hz2⟩ := zero_rel (ν := ν) hz
    split at h
    · rename_i fs hf
      obtain ⟨h1, h2⟩ := and1 h
      split at h2
      · rename_i l hl'
        cases h2
        obtain ⟨pl, p1, p2⟩ := places_ok h1
        obtain ⟨c', f1, f2⟩ := fill_vr (ν := ν) (place := (pl.toArray[·]?)) (pl := placeS C fs) (fun i q hq => by
          unfold placeS at hq
          split at hq
          · rename_i f hf'
            split at hq
            · rename_i k hk
              cases hq
              simpa using p2 i f (by simpa using hf') k hk
            · cases hq
          · cases hq) ps us.toList hl hu hz2 hl'
        refine ⟨.agg c', run_build w t us c' ?_, ?_⟩
        · unfold Program.built
          have : C.P.underlying t = some (.struct fs) := hf
          simp only [hi, this, hz1, p1]
          exact f1
        · have := VR.agg' f2
          simpa using this
      · cases h2
    · rename_i k e hf
      split at h
      · rename_i sz hsz
        split at h
        · rename_i l hl'
          cases h
          obtain ⟨ie, hie, hse⟩ := size_info hsz
          obtain ⟨c', f1, f2⟩ := fill_vr (ν := ν) (place := fun i => some (i * sz, sz)) (fun i q hq => hq) ps us.toList hl hu hz2 hl'
          refine ⟨.agg c', run_build w t us c' ?_, ?_⟩
          · unfold Program.built
            have : C.P.underlying t = some (.array k e) := hf
            simp only [hi, this, hz1, hie, hse]
            exact f1
          · have := VR.agg' f2
            simpa using this
        · cases h
      · cases h
    · cases h
  · cases h
end
end Go.Me
