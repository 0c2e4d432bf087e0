/- Operations that leave the memory as it is: pieces, conversions, maps, builtins. Own work. -/
import Derived.Test.YtplmdlobbfcknaaGreatDoorMeG
namespace Go.Me
open Go
set_option linter.unusedSimpArgs false
set_option linter.unusedVariables false

section
variable {C : Cfg} {base : Nat} {ν : Nm} {g : Gt} {n : Nat} {w : World} {H : Hp} {s : Tr M} {a : Act}

/-- an optional value -/
inductive VO (ν : Nm) : Option M → Option Value → Prop
  | none : VO ν none none
  | some (x : M) (v : Value) (h : VR ν x v) : VO ν (some x) (some v)
theorem valO_VO (S : SR ν s a) {X : Option Operand} {x : Option M} (h : valO s X = some x) : VO ν x (X.map a.eval) := by
  rcases valO_vr S h with ⟨rfl, e⟩ | ⟨y, v, rfl, e, hv⟩
  · rw [e]; exact .none
  · rw [e]; exact .some y v hv
theorem run_bound {x : M} {v : Value} (hx : VR ν x v) {d m k : Nat} (h : bound (some x) d m = some k) : k ≤ m ∧ ∀ (c : BoundsCode) (top : Nat), k ≤ top → (Instr.sliceBound v top c).run C.P w = .ok k w := by
  cases x <;> first | (simp [bound] at h; done) | skip
  rename_i ik i
  cases hx
  unfold bound at h
  simp only at h
  split at h
  · rename_i q
    obtain ⟨h1, h2⟩ := and1 h
    cases h2
    exact ⟨by simpa [Nat.ble_eq] using h1, fun c top ht => by simp [Instr.sliceBound, asIntOf, ht]⟩
  · cases h
theorem run_bnds {n top cap : Nat} (ht : top ≤ cap) (hn : n ≤ top) {lo hi mx : Option M} {vl vh vm : Option Value} (hl : VO ν lo vl) (hh : VO ν hi vh) (hm : VO ν mx vm) (isS : Bool) {l h : Nat} {m : Option Nat} (e : bnds n top lo hi mx = some (l, h, m)) :
    (Instr.sliceBounds isS n cap vl vh vm).run C.P w = .ok (l, h, m.getD cap) w ∧ l ≤ h ∧ (∀ k, m = some k → h ≤ k ∧ k ≤ top) ∧ (m = none → h ≤ top) := by
  have low : ∀ h, bound lo 0 h = some l → l ≤ h := fun h e => by
    cases hl with
    | none => simp only [bound, Option.some.injEq] at e; omega
    | some x v hv => exact (run_bound (C := C) (w := w) hv e).1
  cases hm with
  | some x3 v3 h3 =>
    cases hh with
    | none => simp [bnds] at e
    | some x2 v2 h2 =>
      simp only [bnds] at e
      split at e
      · rename_i m' hm'
        split at e
        · rename_i h' hh'
          split at e
          · rename_i l' hl'
            cases e
            obtain ⟨q1, q2⟩ := run_bound (C := C) (w := w) h3 hm'
            obtain ⟨q3, q4⟩ := run_bound (C := C) (w := w) h2 hh'
            refine ⟨?_, low _ hl', fun k hk => by cases hk; exact ⟨q3, q1⟩, fun h => by cases h⟩
            cases hl with
            | none =>
              simp only [bound, Option.some.injEq] at hl'
              subst hl'
              simp [Instr.sliceBounds, q2 _ cap (Nat.le_trans q1 ht), q4 _ _ q3]
            | some x v hv =>
              obtain ⟨r1, r2⟩ := run_bound (C := C) (w := w) hv hl'
              simp [Instr.sliceBounds, q2 _ cap (Nat.le_trans q1 ht), q4 _ _ q3, r2 _ _ r1]
          · cases e
        · cases e
      · cases e
  | none =>
    simp only [bnds] at e
    split at e
    · rename_i h' hh'
      split at e
      · rename_i l' hl'
        cases e
        have hi' : h ≤ top := by
          cases hh with
          | none => simp only [bound, Option.some.injEq] at hh'; omega
          | some y v hv => exact (run_bound (C := C) (w := w) hv hh').1
        refine ⟨?_, low _ hl', fun k hk => (by cases hk), fun _ => hi'⟩
        cases hh with
        | none =>
          simp only [bound, Option.some.injEq] at hh'
          subst hh'
          cases hl with
          | none =>
            simp only [bound, Option.some.injEq] at hl'
            subst hl'
            simp [Instr.sliceBounds]
          | some x v hv =>
            obtain ⟨r1, r2⟩ := run_bound (C := C) (w := w) hv hl'
            simp [Instr.sliceBounds, r2 _ _ r1]
        | some y v2 hv2 =>
          obtain ⟨q3, q4⟩ := run_bound (C := C) (w := w) hv2 hh'
          cases hl with
          | none =>
            simp only [bound, Option.some.injEq] at hl'
            subst hl'
            simp [Instr.sliceBounds, q4 _ _ (Nat.le_trans q3 ht)]
          | some x v hv =>
            obtain ⟨r1, r2⟩ := run_bound (C := C) (w := w) hv hl'
            simp [Instr.sliceBounds, q4 _ _ (Nat.le_trans q3 ht), r2 _ _ r1]
      · cases e
    · cases e

theorem cutM_vr {b o z l h m c : Nat} (hb : ν b = some c) (h1 : l ≤ h) (h2 : h ≤ m) : VR ν (cutM b o z l h m) (.slice (some (if m = l then ⟨c, o + (ν.rm b).2, none⟩ else (⟨c, o + (ν.rm b).2, none⟩ : Addr).add (l * z))) (h - l) (m - l)) := by
  unfold cutM
  rw [add_none]
  by_cases e : m = l
  · rw [if_pos e, show (m == l) = true by simpa using e]; exact .sl b o _ _ c _ hb (by omega) (fun k hk => by cases hk; rfl) (fun h => by cases h)
  · rw [if_neg e, show (m == l) = false by simpa using e, Nat.add_right_comm]; exact .sl b (o + l * z) _ _ c _ hb (by omega) (fun k hk => by cases hk; rfl) (fun h => by cases h)
theorem run_sliceM {t : TypeId} {x r : M} {u : Value} {lo hi mx : Option M} {vl vh vm : Option Value} (hx : VR ν x u) (hl : VO ν lo vl) (hh : VO ν hi vh) (hm : VO ν mx vm) (h : sliceM C t x lo hi mx = some r) :
    ∃ v, (Instr.sliceAt t u vl vh vm).run C.P w = .ok v w ∧ VR ν r v := by
  unfold sliceM at h
  split at h
  · rename_i b o n c
    cases hx with | sl _ _ _ _ d cap hb hc hk hr =>
    split at h
    · rename_i e hu
      split at h
      · rename_i z hz
        have htop : c.getD n ≤ cap ∧ n ≤ c.getD n := by
          cases c with
          | none => exact ⟨hc, Nat.le_refl _⟩
          | some k => have := hk k rfl; subst this; exact ⟨Nat.le_refl _, hc⟩
        split at h
        · rename_i l q m hb'
          cases h
          obtain ⟨p1, p2, p3, p4⟩ := run_bnds (C := C) (w := w) htop.1 htop.2 hl hh hm true hb'
          obtain ⟨p5, p6⟩ := p3 m rfl
          refine ⟨_, ?_, cutM_vr (z := z) hb p2 p5⟩
          simp only [Instr.sliceAt, Instr.slice, Sem.run_bind, run_und hu, Result.andThen_ok, p1, run_size hz, Sem.run_pure]
          congr 2
          by_cases e : m = l <;> simp [e]
        · rename_i l q hb'
          obtain ⟨p1, p2, p3, p4⟩ := run_bnds (C := C) (w := w) htop.1 htop.2 hl hh hm true hb'
          have p4 := p4 rfl
          have run : (Instr.sliceAt t (.slice (some ⟨d, o + (ν.rm b).2, none⟩) n cap) vl vh vm).run C.P w = .ok (.slice (some (if cap = l then ⟨d, o + (ν.rm b).2, none⟩ else (⟨d, o + (ν.rm b).2, none⟩ : Addr).add (l * z))) (q - l) (cap - l)) w := by
            simp only [Instr.sliceAt, Instr.slice, Sem.run_bind, run_und hu, Result.andThen_ok, p1, run_size hz, Sem.run_pure]
            congr 2
            by_cases e : cap = l <;> simp [e]
          refine ⟨_, run, ?_⟩
          cases c with
          | some k =>
            cases h
            have := hk k rfl
            subst this
            exact cutM_vr (z := z) hb p2 p4
          | none =>
            simp only [Option.getD_none] at h p4
            cases e0 : l == 0
            · rw [e0] at h
              simp only [cond_false] at h
              have hl0 : l ≠ 0 := by simpa using e0
              cases e1 : Nat.blt l n
              · rw [e1] at h
                cases h
                have : ¬ l < n := by rw [← Nat.blt_eq, e1]; simp
                rw [show q - l = 0 by omega]
                exact .slz _ _
              · rw [e1] at h
                simp only [cond_true] at h
                have : l < n := by rw [← Nat.blt_eq, e1]
                cases e2 : z == 0
                · rw [e2] at h
                  cases h
                  have hz0 : z ≠ 0 := by simpa using e2
                  rw [if_neg (by omega), add_none, Nat.add_right_comm]
                  have hlz : l * z ≠ 0 := Nat.mul_ne_zero hl0 hz0
                  exact .sl b (o + l * z) _ _ d _ hb (by omega) (fun k hk => by cases hk) (fun _ h => by omega)
                · rw [e2] at h; cases h
            · rw [e0] at h
              cases h
              have hl0 : l = 0 := by simpa using e0
              subst hl0
              rw [Nat.zero_mul, add_none]
              simp only [Nat.add_zero, ite_self, Nat.sub_zero]
              exact .sl _ _ _ _ d _ hb (by omega) (fun k hk => by cases hk) hr
        · cases h
      · cases h
    · cases h
  · cases hx with | slz ad cap =>
    split at h
    · rename_i e hu
      split at h
      · rename_i z y hz hb'
        cases h
        obtain ⟨l, q, m⟩ := y
        obtain ⟨p1, p2, p3, p4⟩ := run_bnds (C := C) (w := w) (Nat.zero_le cap) (Nat.le_refl 0) hl hh hm true hb'
        have hq : q = 0 := by
          cases m with
          | none => have := p4 rfl; omega
          | some k => have := p3 k rfl; omega
        have hl0 : l = 0 := by omega
        subst hq; subst hl0
        refine ⟨_, ?_, VR.slz ad (m.getD cap - 0)⟩
        simp only [Instr.sliceAt, Instr.slice, Sem.run_bind, run_und hu, Result.andThen_ok, p1, run_size hz, Sem.run_pure, Nat.zero_mul, Option.map_some]
        congr 2
        simp [Addr.add]
      · cases h
    · cases h
  · cases hx with | nilS =>
    split at h
    · rename_i e hu
      split at h
      · rename_i z y hz hb'
        cases h
        obtain ⟨l, q, m⟩ := y
        obtain ⟨p1, p2, p3, p4⟩ := run_bnds (C := C) (w := w) (Nat.le_refl 0) (Nat.le_refl 0) hl hh hm true hb'
        have hq : q = 0 := by
          cases m with
          | none => have := p4 rfl; omega
          | some k => have := p3 k rfl; omega
        have hl0 : l = 0 := by omega
        have hm0 : m.getD 0 = 0 := by
          cases m with
          | none => rfl
          | some k => have := p3 k rfl; simp; omega
        subst hq; subst hl0
        refine ⟨.slice none 0 0, ?_, VR.nilS⟩
        simp only [Instr.sliceAt, Instr.slice, Sem.run_bind, run_und hu, Result.andThen_ok, p1, run_size hz, Sem.run_pure, Nat.zero_mul, Option.map_none]
        rw [hm0]
        simp
      · cases h
    · cases h
  · rename_i b o
    cases hx with | ptr _ _ d hb =>
    split at h
    · rename_i ar hu
      split at h
      · rename_i k e hu2
        split at h
        · rename_i z l q m hz hb'
          cases h
          obtain ⟨p1, p2, p3, p4⟩ := run_bnds (C := C) (w := w) (Nat.le_refl k) (Nat.le_refl k) hl hh hm false hb'
          have hqm : q ≤ m.getD k := by
            cases m with
            | none => exact p4 rfl
            | some k' => exact (p3 k' rfl).1
          refine ⟨_, ?_, cutM_vr (z := z) hb p2 hqm⟩
          simp only [Instr.sliceAt, Instr.slice, Sem.run_bind, run_und hu, Result.andThen_ok, asAddr, Sem.run_pure, run_und hu2, p1, run_size hz]
        · cases h
      · cases h
    · rename_i k e hu
      split at h
      · rename_i z l q m hz hb'
        cases h
        obtain ⟨p1, p2, p3, p4⟩ := run_bnds (C := C) (w := w) (Nat.le_refl k) (Nat.le_refl k) hl hh hm false hb'
        have hqm : q ≤ m.getD k := by
          cases m with
          | none => exact p4 rfl
          | some k' => exact (p3 k' rfl).1
        refine ⟨_, ?_, cutM_vr (z := z) hb p2 hqm⟩
        simp only [Instr.sliceAt, Instr.sureAddr, Sem.run_bind, run_und hu, Result.andThen_ok, Sem.run_pure, p1, run_size hz]
      · cases h
    · cases h
  · cases h
end
end Go.Me
