/- Functions. Own work. -/
import Derived.Test.YtplmdlobbfcknaaGreatDoorMeW
namespace Go.Me
open Go Go.RowKit
set_option linter.unusedSimpArgs false
set_option linter.unusedVariables false

theorem run_enter {P : Program} {f : FuncId} {fn : Func} {c : Code} (hf : P.funcs[f]? = some fn) (hname : (fn.name == "runtime.NumGoroutine") = false) (hb : fn.body = some c) (args : Array Value) (w : World) :
    (callFunc f args).run P w = .ok (.enter f args) w := by
  have h1 : fn.name ≠ "runtime.NumGoroutine" := by simpa using hname
  simp [callFunc, hf, h1, hb]

/-! results -/
def resRun (tmps : Array Value) : ResultVar → Sem Value
  | .tmp t => pure (tmps.getD t undef)
  | .cell a t => do loadVar t (← asAddr (tmps.getD a undef))
def tupled : List Value → Value
  | [v] => v
  | vs => .tuple vs.toArray
theorem run_results {P : Program} {w : World} {fn : Func} {tmps : Array Value} {vs : List Value} (h : (fn.results.toList.mapM (resRun tmps)).run P w = .ok vs w) : (results fn tmps).run P w = .ok (tupled vs) w := by
  have e : ∀ g : ResultVar → Sem Value, (∀ r, g r = resRun tmps r) → (fn.results.mapM g).run P w = .ok vs.toArray w := fun g hg => by
    have : g = resRun tmps := funext hg
    subst this
    rw [Array.mapM_eq_mapM_toList, map_eq_pure_bind]
    simp only [Sem.run_bind, h, Result.andThen_ok, Sem.run_pure]
  unfold results
  rw [Sem.run_bind, e _ (fun r => by cases r <;> rfl), Result.andThen_ok]
  match vs with
  | [] => rfl
  | [v] => rfl
  | _ :: _ :: _ => simp [tupled]
section
variable {C : Cfg} {base : Nat} {ν : Nm} {w : World} {H : Hp} {s : Tr M} {a : Act}
theorem resM1_ok (R : WR C base ν H.get H.n w) (S : SR ν s a) {r : ResultVar} {x : M} (h : resM1 C H s r = some x) : ∃ v, (resRun a.tmps r).run C.P w = .ok v w ∧ VR ν x v := by
  unfold resM1 at h
  split at h
  · rename_i t
    exact ⟨_, rfl, S t x h⟩
  · rename_i p t
    split at h
    · rename_i y hy
      obtain ⟨v, h1, h2⟩ := run_loadM R (fun b o h _ => h) (S p y hy) h
      refine ⟨v, ?_, h2⟩
      have e : ∀ u : Value, (Instr.loadAt t u).run C.P w = .ok v w → (do loadVar t (← asAddr u) : Sem Value).run C.P w = .ok v w := fun u h1 => by
        unfold Instr.loadAt at h1
        rcases u with _ | _ | _ | _ | _ | (_ | q) | _ | _ | _ | _ | _ | _ | _ | _ | _ <;> first | exact h1 | (simp [Instr.sureAddr, stuck] at h1; done) | simpa [Instr.sureAddr, asAddr] using h1
      exact e _ h1
    · cases h
theorem resMs_ok (R : WR C base ν H.get H.n w) (S : SR ν s a) : ∀ {l : List ResultVar} {xs : List M}, resMs C H s l = some xs → ∃ vs, (l.mapM (resRun a.tmps)).run C.P w = .ok vs w ∧ VRs ν xs vs
  | [], xs, h => by
    simp only [resMs, Option.some.injEq] at h
    subst h
    exact ⟨[], rfl, .nil⟩
  | r :: l, xs, h => by
    unfold resMs at h
    split at h
    · rename_i x xs' h1 h2
      cases h
      obtain ⟨v, h3, h4⟩ := resM1_ok R S h1
      obtain ⟨vs, h5, h6⟩ := resMs_ok R S h2
      refine ⟨v :: vs, ?_, .cons h4 h6⟩
      rw [List.mapM_cons]
      simp only [Sem.run_bind, h3, h5, Result.andThen_ok, Sem.run_pure]
    · cases h
theorem resM_ok (R : WR C base ν H.get H.n w) (S : SR ν s a) {fn : Func} {x : M} (h : resM C H s fn.results.toList = some x) : ∃ v, (results fn a.tmps).run C.P w = .ok v w ∧ VR ν x v := by
  unfold resM at h
  split at h
  · rename_i y hy
    cases h
    obtain ⟨vs, h1, h2⟩ := resMs_ok R S hy
    obtain ⟨v, r, rfl, h3, h4⟩ := h2.inv_cons
    rw [h4.inv_nil] at h1
    exact ⟨v, run_results h1, h3⟩
  · rename_i xs hne hy
    cases h
    obtain ⟨vs, h1, h2⟩ := resMs_ok R S hy
    refine ⟨_, run_results h1, ?_⟩
    have : tupled vs = .tuple vs.toArray := by
      match vs, h2.1 with
      | [], _ => rfl
      | [v], hl =>
        obtain ⟨x, rfl⟩ := List.length_eq_one_iff.1 hl
        exact absurd rfl (hne x)
      | _ :: _ :: _, _ => rfl
    rw [this]
    exact VR.tup' h2
  · cases h

theorem enter_ok {args : List M} {vs : List Value} (h : VRs ν args vs) (n : Nat) : SR ν (trOf 0 .lf args) ⟨vs.toArray ++ Array.replicate n undef, []⟩ := fun k x hk => by
  rw [trOf_get, if_neg (by omega), Nat.sub_zero] at hk
  split at hk
  · rename_i y hy
    cases hk
    obtain ⟨v, h1, h2⟩ := h.get hy
    have hl : k < vs.length := (List.getElem?_eq_some_iff.1 h1).1
    rw [Array.getD_eq_getD_getElem?, Array.getElem?_append_left (by simpa using hl)]
    simpa [h1] using h2
  · cases hk

/-- the marks are taken away, one after the other -/
theorem shut {g : Gt} {n : Nat} {ν0 : Nm} {g0 : Gt} {n0 : Nat} {w0 : World} {tmps : Array Value} {fn : Func} {T : Ending → World → Prop} (hb : base ≤ w0.heap.size) : ∀ (l : List Nat) (w : World), WR C base ν g n w → St ν0 g0 n0 w0 ν g n w → l.Nodup → (∀ D ∈ l, w0.heap.size ≤ D ∧ D < w.heap.size ∧ Free ν g D ∧ w.heap[D]? = some (.deferred (some []))) →
    ∃ w', WR C base ν g n w' ∧ St ν0 g0 n0 w0 ν g n w' ∧ (LeavesIn Fence.wide 0 C.P fn tmps T [] .returning w' → LeavesInM Fence.wide 0 C.P fn tmps T (l.map markD) .returning w)
  | [], w, R, S, _, _ => ⟨w, R, S, fun h => h⟩
  | D :: l, w, R, S, hn, hD => by
    obtain ⟨h1, h2, h3, h4⟩ := hD D (by simp)
    obtain ⟨hno, hn'⟩ := List.nodup_cons.1 hn
    have hgr := grownBy_putObj' w D (.deferred none)
    obtain ⟨w', R', g1, g5⟩ := shut hb l (w.putObj D (.deferred none)) (R.grown hgr fun r e => by cases e; exact ⟨h3, Nat.le_trans hb h1⟩) (S.grown hgr fun r e => by cases e; exact h1) hn' (fun D' hD' => by
      obtain ⟨k1, k2, k3, k4⟩ := hD D' (by simp [hD'])
      refine ⟨k1, by simpa using k2, k3, ?_⟩
      rw [World.putObj_heap_other (by rintro rfl; exact hno hD')]; exact k4)
    exact ⟨w', R', g1, fun h => ⟨by simp, .inl ⟨D, _, rfl, run_takeDeferred h4, g5 h⟩⟩⟩
end

/-- the table of functions is the program's -/
def FnOk (C : Cfg) : Prop := ∀ f F, C.fn f = some F → C.P.funcs[f]? = some F ∧ (F.name == "runtime.NumGoroutine") = false
def ExtOk (C : Cfg) : Prop := ∀ f g, C.ext f = some g → ∀ args H x H', g args H = some (x, H') → ∀ base ν w vs, WR C base ν H.get H.n w → VRs ν args vs → CallTo C base ν H w f vs.toArray x H'

theorem evF_ok {C : Cfg} (hm : C.P.follows .mixedOrders = true) (hM : MethOk C) (hI : IterOk C) (hF : FnOk C) (hX : ExtOk C) : ∀ n, CallOk C (evF C n)
  | 0 => fun f args H x H' h => by cases h
  | n + 1 => fun f args H x H' h base ν w vs R hv => by
    have ih := evF_ok hm hM hI hF hX n
    unfold evF at h
    split at h
    · rename_i g hg
      exact hX f g hg args H x H' h base ν w vs R hv
    · split at h
      · rename_i F hfn
        obtain ⟨hf, hname⟩ := hF f F hfn
        split at h
        · rename_i c hb
          have key : ∀ {e t}, exitOf e = .normal ∨ exitOf e = .ret → evC C (evF C n) n F.ntmps c ⟨trOf 0 .lf args, H⟩ = some (e, t) → resM C t.H t.s F.results.toList = some x → H' = t.H → CallTo C base ν H w f vs.toArray x H' := by
            intro e t he hev hres hH
            subst hH
            refine .inr ⟨run_enter hf hname hb _ w, callsIn_wide.1 (callsIn_of_wp_marks (n := 0) hf hb trivial ?_)⟩
            refine evC_ok hm hM ih hI c (.inl rfl) (k := w.heap.size) hev R (enter_ok hv _) (by simp; omega) (.nil rfl) R.big (Nat.le_refl _) fun a' w' ν' r1 r2 r3 r4 r5 => ?_
            obtain ⟨l, hl, hnd, hD⟩ := r4
            obtain ⟨w2, R2, T2, k5⟩ := shut (fn := F) (tmps := a'.tmps) (T := fun e w' => ∃ v ν', e = .returned v ∧ VR ν' x v ∧ WR C base ν' t.H.get t.H.n w' ∧ St ν H.get H.n w ν' t.H.get t.H.n w') R.big l w' r1 r5 hnd hD
            obtain ⟨v, g1, g2⟩ := resM_ok R2 r2 hres
            have hp : LeavesInM Fence.wide 0 C.P F a'.tmps (fun e w' => ∃ v ν', e = .returned v ∧ VR ν' x v ∧ WR C base ν' t.H.get t.H.n w' ∧ St ν H.get H.n w ν' t.H.get t.H.n w') a'.defers .returning w' := by
              rw [hl]
              exact k5 ⟨v, g1, v, ν', rfl, g2, R2, T2⟩
            rcases he with he | he <;> rw [he] <;> exact hp
          split at h
          · rename_i t hev
            split at h
            · rename_i y hy
              cases h
              exact key (.inl rfl) hev hy rfl
            · cases h
          · rename_i t hev
            split at h
            · rename_i y hy
              cases h
              exact key (.inr rfl) hev hy rfl
            · cases h
          · cases h
        · unfold extP at h
          split at h
          · rename_i us hus
            split at h
            · rename_i z hz
              split at h
              · rename_i y hy
                cases h
                refine .inl ⟨z, w, ν, ?_, vr_ofV hy, R, R.refl⟩
                rw [hv.toVs hus]
                exact pureRun_run w hz
              · cases h
            · cases h
          · cases h
      · cases h
end Go.Me
