/- Operations that turn the memory: all of them; calls. Own work. -/
import Derived.Test.YtplmdlobbfcknaaGreatDoorMeO
import Derived.Calls
namespace Go.Me
open Go
set_option linter.unusedSimpArgs false
set_option linter.unusedVariables false

/-- what a call comes to -/
def CallTo (C : Cfg) (base : Nat) (ν : Nm) (H : Hp) (w : World) (f : FuncId) (vs : Array Value) (x : M) (H' : Hp) : Prop :=
  Turns C base ν H w (fun w' z => (callFunc f vs).run C.P w = .ok (.value z) w') x H' ∨
  (callFunc f vs).run C.P w = .ok (.enter f vs) w ∧ Calls C.P f vs w fun e w' => ∃ v ν', e = .returned v ∧ VR ν' x v ∧ WR C base ν' H'.get H'.n w' ∧ St ν H.get H.n w ν' H'.get H'.n w'
def CallOk (C : Cfg) (call : FuncId → List M → Hp → Option (M × Hp)) : Prop :=
  ∀ f args H x H', call f args H = some (x, H') → ∀ base ν w vs, WR C base ν H.get H.n w → VRs ν args vs → CallTo C base ν H w f vs.toArray x H'
/-- methods are found -/
def MethOk (C : Cfg) : Prop := ∀ t name f r, C.meth t name = some (f, r) → ∀ v w, (r = none → (method (C.P.types.size + Made.depth) t v name).run C.P w = .ok (f, v) w) ∧
  ∀ i cs u, r = some i → v = .agg cs → cs[i]? = some u → (method (C.P.types.size + Made.depth) t v name).run C.P w = .ok (f, u) w

section
variable {C : Cfg} {base : Nat} {ν : Nm} {g : Gt} {n : Nat} {w : World} {H : Hp} {s : Tr M} {a : Act} {call : FuncId → List M → Hp → Option (M × Hp)}

theorem upon_call {o : Oper} {f : FuncId} {vs : Array Value} {x : M} {H' : Hp} (h : CallTo C base ν H w f vs x H') {next : Act → World → Prop} {Q : Exit → Act → World → Prop}
    (hn : ∀ v w' ν', VR ν' x v → WR C base ν' H'.get H'.n w' → St ν H.get H.n w ν' H'.get H'.n w' → next (a.put o.dst v) w') : o.upon C.P a next Q ((callFunc f vs).run C.P w) := by
  rcases h with ⟨v, w', ν', h1, h2, h3, h4⟩ | ⟨h1, h2⟩
  · rw [h1]; exact hn v w' ν' h2 h3 h4
  · rw [h1]
    refine h2.mono fun e w' ⟨v, ν', he, h3, h4, h5⟩ => ?_
    subst he
    exact hn v w' ν' h3 h4 h5
theorem ext1 (x : Value) (xs : Array Value) : (#[x] ++ xs).extract 1 (#[x] ++ xs).size = xs := by apply Array.ext'; simp
theorem evEff_ok (hM : MethOk C) (hC : CallOk C call) (R : WR C base ν H.get H.n w) (S : SR ν s a) {o : Oper} {x : M} {H' : Hp} (h : evEff C H s call o = some (x, H')) {next : Act → World → Prop} {Q : Exit → Act → World → Prop}
    (hn : ∀ v w' ν', VR ν' x v → WR C base ν' H'.get H'.n w' → St ν H.get H.n w ν' H'.get H'.n w' → next (a.put o.dst v) w') : o.wp C.P a w next Q := by
  have turns : ∀ {q : Sem Value}, execOp a.eval o = (do pure (.value (← q))) → Turns C base ν H w (fun w' z => q.run C.P w = .ok z w') x H' → o.wp C.P a w next Q := fun {q} e ⟨v, w', ν', h1, h2, h3, h4⟩ => by
    unfold Oper.wp
    rw [exec_val e h1]
    exact hn v w' ν' h2 h3 h4
  have blt : ∀ {b : Builtin} {as : Array Operand} {ts : Array TypeId}, o.op = .call { callee := .builtin b, args := as, argTypes := ts } → ∀ {q : Sem Value}, (∀ cs, builtin b ts o.type cs (as.toList.map a.eval).toArray = (do pure (.value (← q)))) → Turns C base ν H w (fun w' z => q.run C.P w = .ok z w') x H' → o.wp C.P a w next Q := fun {b as ts} ho {q} e ⟨v, w', ν', h1, h2, h3, h4⟩ => by
    unfold Oper.wp
    rw [run_blt (v := v) (w' := w') ho (by rw [arr_map a.eval as, e _]; simp [h1])]
    exact hn v w' ν' h2 h3 h4
  have skip : ∀ {q : Sem Unit} {w' : World}, execOp a.eval o = (do q; pure .skip) → q.run C.P w = .ok () w' → x = .tup [] → WR C base ν H'.get H'.n w' → St ν H.get H.n w ν H'.get H'.n w' → o.wp C.P a w next Q := fun {q w'} e h1 h2 h3 h4 => by
    unfold Oper.wp
    rw [e]
    simp only [Sem.run_bind, h1, Result.andThen_ok, Sem.run_pure]
    exact hn undef w' ν (by rw [h2]; exact VR.tup' .nil) h3 h4
  unfold evEff at h
  split at h
  · rename_i t A X ho
    split at h
    · rename_i p u hp hu
      obtain ⟨e, w', h1, h2, h3⟩ := storeM_ok R (val_vr S hp) (val_vr S hu) h
      exact skip (by simp only [execOp, ho]) h1 e h2 h3
    · cases h
  · rename_i t m k X ho
    split at h
    · rename_i u v y hu hv hy
      obtain ⟨e, w', h1, h2, h3⟩ := insM_ok R (val_vr S hu) (val_vr S hv) (val_vr S hy) h
      exact skip (by simp only [execOp, ho]) h1 e h2 h3
    · cases h
  · rename_i t m k X ho
    split at h
    · rename_i u v y hu hv hy
      obtain ⟨e, w', h1, h2, h3⟩ := insM_ok R (val_vr S hu) (val_vr S hv) (val_vr S hy) h
      exact skip (by simp only [execOp, ho]) h1 e h2 h3
    · cases h
  · rename_i b as ts ho
    split at h
    · rename_i y z hl
      have hv := vals_vr S hl
      obtain ⟨u, r, e1, h1, h2⟩ := hv.inv_cons
      obtain ⟨v, r', e2, h3, h4⟩ := h2.inv_cons
      rw [h4.inv_nil] at e2
      rw [e2] at e1
      split at h
      · refine blt ho (q := Builtin.append_ ts o.type #[u, v]) (fun cs => by rw [e1]; rfl) ?_
        split at h
        · rename_i q hq
          cases h
          exact appendM_ok R h1 h3 hq
        · exact zerosM_ok R h1 h3 h
      · exact blt ho (q := Builtin.copy_ ts o.type #[u, v]) (fun cs => by rw [e1]; rfl) (copyM_ok R h1 h3 h)
      · cases h
    · rename_i y hl
      have hv := vals_vr S hl
      obtain ⟨u, r, e1, h1, h2⟩ := hv.inv_cons
      rw [h2.inv_nil] at e1
      split at h
      · exact blt ho (q := Builtin.clear_ ts o.type #[u]) (fun cs => by rw [e1]; rfl) (clearM_ok R h1 h)
      · cases h
    · cases h
  · rename_i f as ts ho
    split at h
    · rename_i gf p q l hf hl
      have hv := vals_vr S hl
      obtain ⟨vp, vq, ef, hp, hq⟩ := (val_vr S hf).fn_inv
      have hall := (hp.app hv).app hq
      have := hC gf (p ++ l ++ q) H x H' h base ν w _ R hall
      unfold Oper.wp
      have e : (execOp a.eval o).run C.P w = (callFunc gf (vp ++ as.toList.map a.eval ++ vq).toArray).run C.P w := by
        simp only [execOp, ho, resolve, ef, Deferred.ofValue, Sem.run_bind, Sem.run_pure, Result.andThen_ok, invoke]
        congr 2
        apply Array.ext'
        simp
      rw [e]
      exact upon_call this hn
    · cases h
  · rename_i r name as ts ho
    split at h
    · rename_i t y l hr hl
      have hv := vals_vr S hl
      obtain ⟨u, er, hu⟩ := (val_vr S hr).ifc_inv
      have e : ∀ {f : FuncId} {rv : Value}, (method (C.P.types.size + Made.depth) t u name).run C.P w = .ok (f, rv) w → (execOp a.eval o).run C.P w = (callFunc f (rv :: as.toList.map a.eval).toArray).run C.P w := fun {f rv} hm => by
        simp only [execOp, ho, resolve, er, Sem.run_bind, Sem.run_pure, Result.andThen_ok, invoke]
        have e0 : (#[Value.iface t u] ++ as.map a.eval)[0]? = some (.iface t u) := by rw [Array.getElem?_append_left (by simp)]; rfl
        rw [e0]
        simp only [callMethod, Sem.run_bind, run_program, Result.andThen_ok, hm, ext1]
        have e2 : #[rv] ++ as.map a.eval = (rv :: as.toList.map a.eval).toArray := by apply Array.ext'; simp
        rw [e2]
      split at h
      · rename_i gf hm
        obtain ⟨m1, _⟩ := hM t name gf none hm u w
        unfold Oper.wp
        rw [e (m1 rfl)]
        exact upon_call (hC gf (y :: l) H x H' h base ν w _ R (.cons hu hv)) hn
      · rename_i gf i hm
        obtain ⟨_, m2⟩ := hM t name gf (some i) hm u w
        split at h
        · rename_i cs
          split at h
          · rename_i z hz
            obtain ⟨us, e1, h1⟩ := hu.agg_inv
            obtain ⟨v, h2, h3⟩ := h1.get hz
            subst e1
            unfold Oper.wp
            rw [e (m2 i us.toArray v rfl rfl (by simpa using h2))]
            exact upon_call (hC gf (z :: l) H x H' h base ν w _ R (.cons h3 hv)) hn
          · cases h
        · cases h
      · cases h
    · cases h
  · cases h
end
end Go.Me
