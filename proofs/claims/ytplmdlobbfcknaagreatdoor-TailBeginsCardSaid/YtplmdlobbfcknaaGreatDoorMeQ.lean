/- Regions in the order of their text. Own work. -/
import Derived.Test.YtplmdlobbfcknaaGreatDoorMeP
import Derived.Tactics
namespace Go.Me
open Go
set_option linter.unusedSimpArgs false
set_option linter.unusedVariables false

section
variable {C : Cfg} {base : Nat} {ν : Nm} {g : Gt} {n N : Nat} {w : World} {H : Hp} {s : Tr M} {a : Act} {call : FuncId → List M → Hp → Option (M × Hp)}

theorem SR.put (S : SR ν s a) {d : Option Nat} {x : M} {v : Value} (hv : VR ν x v) {s' : Tr M} (h : putM N s d x = some s') (hN : N ≤ a.tmps.size) : SR ν s' (a.put d v) := by
  intro k y hk
  unfold putM at h
  split at h
  · cases h; exact S k y hk
  · rename_i j
    obtain ⟨h1, h2⟩ := and1 h
    cases h2
    have h1 : j < N := by simpa [Nat.blt_eq] using h1
    rw [Tr.get_put] at hk
    by_cases e : k = j
    · subst e
      rw [if_pos rfl] at hk
      cases hk
      have hlt : k < a.tmps.size := by omega
      simpa [Act.put, hlt] using hv
    · rw [if_neg e] at hk
      have := S k y hk
      simpa [Act.put, Array.getD_eq_getD_getElem?, Array.getElem?_setIfInBounds_ne (Ne.symm e)] using this
theorem put_size (a : Act) (d : Option Nat) (v : Value) : (a.put d v).tmps.size = a.tmps.size := by cases d <;> simp [Act.put]
theorem put_defers (a : Act) (d : Option Nat) (v : Value) : (a.put d v).defers = a.defers := by cases d <;> rfl
/-- is it wanted? -/
theorem want_ok {ops : Array Oper} {o : Oper} (S : ∀ j want d, o.guard = some (j, want) → (ops[j]?).bind (·.dst) = some d → ∀ x, s.get d = some x → VR ν x (a.tmps.getD d undef)) {b : Bool} (h : wantM ops s o = some b) : Region.wanted o (yielded ops a.tmps) = b := by
  unfold wantM at h
  unfold Region.wanted
  split at h
  · rename_i hg; cases h; rw [hg]
  · rename_i j want hg
    rw [hg]
    simp only
    split at h
    · rename_i d hd
      have hy : yielded ops a.tmps j = match a.tmps[d]? with
          | some (.bool b) => some b
          | _ => none := by unfold yielded; rw [hd]; rfl
      rw [hy]
      split at h
      · rename_i c hc
        cases h
        have hr := S j want d hg hd _ hc
        rw [Array.getD_eq_getD_getElem?] at hr
        cases hq : a.tmps[d]? with
        | none => rw [hq] at hr; cases hr
        | some u =>
          rw [hq] at hr
          cases hr
          simp
      · cases h
      · rename_i x hx1 hx2 hx
        cases h
        have hr := S j want d hg hd _ hx
        rw [Array.getD_eq_getD_getElem?] at hr
        cases hq : a.tmps[d]? with
        | none => simp
        | some u =>
          rw [hq] at hr
          simp only [Option.getD_some] at hr
          cases u <;> first | simp | skip
          rename_i bb
          cases hr
          · exact absurd rfl (hx1 bb)
          · exact absurd rfl hx2
      · cases h
    · rename_i hd
      cases h
      have hy : yielded ops a.tmps j = none := by unfold yielded; rw [hd]; rfl
      rw [hy]
      simp

/-- operations one after the other -/
theorem evOps_ok (hM : MethOk C) (hC : CallOk C call) {ops : Array Oper} {Q : Exit → Act → World → Prop} : ∀ (l : List Oper) {st st' : S} {ν : Nm} {a : Act} {w : World}, evOps C call ops N l st = some st' → WR C base ν st.H.get st.H.n w → SR ν st.s a → N ≤ a.tmps.size →
    (∀ a' w' ν', WR C base ν' st'.H.get st'.H.n w' → SR ν' st'.s a' → N ≤ a'.tmps.size → a'.defers = a.defers → St ν st.H.get st.H.n w ν' st'.H.get st'.H.n w' → Q .normal a' w') → wpList C.P ops Q l a w
  | [], st, st', ν, a, w, h, R, S, hN, hQ => by
    simp only [evOps, Option.some.injEq] at h
    subst h
    exact hQ a w ν R S hN rfl R.refl
  | o :: r, st, st', ν, a, w, h, R, S, hN, hQ => by
    unfold evOps at h
    split at h
    · rename_i d H1 hd
      split at h
      · rename_i s1 hs1
        have next : ∀ v w' ν', VR ν' d.val v → WR C base ν' H1.get H1.n w' → St ν st.H.get st.H.n w ν' H1.get H1.n w' → wpList C.P ops Q r (a.put o.dst v) w' := fun v w' ν' hv R' T => by
          refine evOps_ok hM hC r h R' ((S.mono (T.le R)).put hv hs1 hN) (by rw [put_size]; exact hN) fun a' w'' ν'' R2 S2 hN2 hdf T2 => hQ a' w'' ν'' R2 S2 hN2 (by rw [hdf, put_defers]) (T.trans R T2)
        have wnt : ∀ {b}, wantM ops st.s o = some b → Region.wanted o (yielded ops a.tmps) = b := fun hb => want_ok (ν := ν) (fun j want d _ _ x hx => S d x hx) hb
        unfold wpList
        unfold did at hd
        split at hd
        · cases hd
        · rename_i hw
          cases hd
          rw [if_neg (by rw [wnt hw]; simp)]
          exact next undef w ν (VR.tup' .nil) R R.refl
        · rename_i hw
          rw [if_pos (wnt hw)]
          left
          split at hd
          · rename_i x hx
            cases hd
            obtain ⟨v, w', h1, h2, h3, h4⟩ := evPure_ok R (fun b o h _ => h) S hx
            unfold Oper.wp
            rw [h1]
            exact next v w' ν h2 h3 h4
          · split at hd
            · rename_i ob f hmk
              cases hd
              obtain ⟨w1, obj, v, ρ, h1, h2, h3, h4, h5, h6⟩ := evMk_ok (w := w) S hmk
              obtain ⟨g1, g2⟩ := R.alloc h2 h3 h4
              unfold Oper.wp
              rw [h1]
              refine next v _ (ν.add st.H.n w.heap.size (ρ, 0)) (h6 _ _ (Nm.add_same _ _ _ _) (Nm.rm_same _ _ _ _)) ?_ ?_
              · rw [push_get]; exact g1
              · rw [push_get]; exact g2
            · split at hd
              · rename_i x H' heff
                cases hd
                exact evEff_ok hM hC R S heff fun v w' ν' h1 h2 h3 => next v w' ν' h1 h2 h3
              · cases hd
      · cases h
    · cases h
end
end Go.Me
