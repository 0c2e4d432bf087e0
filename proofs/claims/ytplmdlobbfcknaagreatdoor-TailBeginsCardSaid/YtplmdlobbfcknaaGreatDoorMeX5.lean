/- A memory of some blocks, read off a world; closed calls there. Own work. -/
import Derived.Test.YtplmdlobbfcknaaGreatDoorMeX3
namespace Go.Me
open Go Go.RowKit
set_option linter.unusedSimpArgs false
set_option linter.unusedVariables false

def nmOf (l : List (Nat × Ob)) : Nm := ⟨fun b => (l[b]?).map (·.1), fun _ => (0, 0)⟩
def hpOf (l : List (Nat × Ob)) : Hp := ⟨l.length, (List.range l.length).foldr (fun i t => match l[i]? with | some p => t.put i p.2 | none => t) .lf⟩
theorem hpOf_aux (l : List (Nat × Ob)) (b : Nat) : ∀ is : List Nat, (is.foldr (fun i t => match l[i]? with | some p => t.put i p.2 | none => t) Tr.lf).get b = if b ∈ is then (l[b]?).map (·.2) else none
  | [] => rfl
  | i :: is => by
    rw [List.foldr_cons]
    cases hi : l[i]? with
    | none =>
      simp only
      rw [hpOf_aux l b is]
      by_cases e : b = i
      · subst e; simp [hi]
      · simp [e]
    | some p =>
      simp only
      rw [Tr.get_put, hpOf_aux l b is]
      by_cases e : b = i
      · subst e; simp [hi]
      · simp [e]
theorem hpOf_get (l : List (Nat × Ob)) (b : Nat) : (hpOf l).get b = (l[b]?).map (·.2) := by
  unfold hpOf Hp.get
  rw [hpOf_aux]
  by_cases h : b < l.length
  · rw [if_pos (List.mem_range.2 h)]
  · rw [if_neg (fun hm => h (List.mem_range.1 hm)), List.getElem?_eq_none (by omega)]; rfl
theorem WR.blocks {C : Cfg} (hg : C.gobj = fun _ => none) {l : List (Nat × Ob)} {w : World} (hn : (l.map (·.1)).Nodup) (h : ∀ (b c : Nat) (o : Ob), l[b]? = some (c, o) → ∃ ob, w.heap[c]? = some ob ∧ OR (nmOf l) (0, 0) o ob) : WR C 0 (nmOf l) (hpOf l).get l.length w := by
  have at_ : ∀ {b c : Nat}, nmOf l b = some c → ∃ o, l[b]? = some (c, o) := fun {b c} hb => by
    have hb : (l[b]?).map (·.1) = some c := hb
    cases hl : l[b]? with
    | none => rw [hl] at hb; cases hb
    | some p => rw [hl] at hb; cases hb; exact ⟨p.2, rfl⟩
  refine ⟨fun b c hb => ?_, fun b o c h1 h2 h3 => ?_, fun b b' c _ _ h1 h2 => ?_, fun k cs hk => (by rw [hg] at hk; cases hk), Nat.zero_le _, fun b o hb => ?_⟩
  · obtain ⟨o, hl⟩ := at_ hb
    obtain ⟨ob, h1, _⟩ := h b c o hl
    exact ⟨(List.getElem?_eq_some_iff.1 hl).1, Nat.zero_le _, (Array.getElem?_eq_some_iff.1 h1).1⟩
  · obtain ⟨o', hl⟩ := at_ h3
    rw [hpOf_get, hl] at h1
    cases h1
    exact h b c o' hl
  · obtain ⟨o1, l1⟩ := at_ h1
    obtain ⟨o2, l2⟩ := at_ h2
    have q1 : (l.map (·.1))[b]? = some c := by simp [l1]
    have q2 : (l.map (·.1))[b']? = some c := by simp [l2]
    obtain ⟨r1, r2⟩ := List.getElem?_eq_some_iff.1 q1
    obtain ⟨r3, r4⟩ := List.getElem?_eq_some_iff.1 q2
    exact (List.getElem_inj hn).1 (r2.trans r4.symm)
  · rw [hpOf_get] at hb
    cases hl : l[b]? with
    | none => rw [hl] at hb; cases hb
    | some p => exact (List.getElem?_eq_some_iff.1 hl).1

/-- what the laid variables hold -/
def Laid (C : Cfg) (w : World) : Prop := ∀ k cs, C.gobj k = some cs → ∃ (vs : Array Value) (e : TypeId) (fr : Nat × Nat), w.heap[k]? = some (.cells vs e fr) ∧ ∀ (i : Nat) x, cs[i]? = some x → ∃ v, vs[i]? = some v ∧ VR Nm.none x v
theorem WR.laid {C : Cfg} {w : World} (hg : Laid C w) : WR C w.heap.size noNm (Hp.get ⟨0, .lf⟩) 0 w :=
  ⟨fun b c h => (by cases h), fun b o c h => (by cases h), fun b b' c ⟨o, h, _⟩ => (by cases h), fun k cs h => (by
    obtain ⟨vs, e, fr, h1, h2⟩ := hg k cs h
    exact ⟨(Array.getElem?_eq_some_iff.1 h1).1, vs, e, fr, h1, h2⟩), Nat.le_refl _, fun b o h => (by cases h)⟩
/-- a closed run that tells true, where variables are laid -/
theorem closed_laid {C : Cfg} (hm : C.P.follows .mixedOrders = true) (hM : MethOk C) (hI : IterOk C) (hF : FnOk C) (hX : ExtOk C) {f : FuncId} {F : Func} {c : Code} {n : Nat} (hf : C.P.funcs[f]? = some F) (hname : (F.name == "runtime.NumGoroutine") = false) (hb : F.body = some c)
    (h : isTrue (evF C n f [] ⟨0, .lf⟩) = true) (w : World) (hg : Laid C w) : Calls C.P f #[] w fun e w' => e = .returned (.bool true) ∧ Below w.heap.size w w' := by
  unfold isTrue at h
  split at h
  · rename_i H hev
    have := evF_ok hm hM hI hF hX n f [] ⟨0, .lf⟩ _ H hev w.heap.size noNm w [] (WR.laid hg) .nil
    rcases this with ⟨v, w', ν', h1, _⟩ | ⟨_, h2⟩
    · rw [run_enter hf hname hb] at h1
      cases h1
    · refine h2.mono fun e w' ⟨v, ν', he, hv, hw, T⟩ => ?_
      cases hv
      exact ⟨he, T.below⟩
  · cases h
end Go.Me
