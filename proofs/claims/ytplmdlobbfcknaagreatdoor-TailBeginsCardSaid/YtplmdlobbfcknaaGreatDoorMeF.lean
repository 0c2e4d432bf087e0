/- Operations that leave the memory as it is: values, fields, places. Own work. -/
import Derived.Test.YtplmdlobbfcknaaGreatDoorMeE
namespace Go.Me
open Go

/-- the slots' relation -/
def SR (ν : Nm) (s : Tr M) (a : Act) : Prop := ∀ k x, s.get k = some x → VR ν x (a.tmps.getD k undef)

section
variable {C : Cfg} {base : Nat} {ν : Nm} {g : Gt} {n : Nat} {w : World} {H : Hp} {s : Tr M} {a : Act}

theorem SR.mono {ν' : Nm} (S : SR ν s a) (h : ν.le ν') : SR ν' s a := fun k x e => (S k x e).mono h
theorem val_vr (S : SR ν s a) {X : Operand} {x : M} (h : val s X = some x) : VR ν x (a.eval X) := by
  cases X with
  | tmp t => exact S t x h
  | const v => exact vr_ofV h
  | global g => simp only [val, Option.some.injEq] at h; subst h; exact .glob g 0
  | func f =>
    simp only [val, Option.some.injEq] at h
    subst h
    exact .fn (.func f) [] [] [] [] rfl rfl (by simp) (by simp)
theorem vals_vr (S : SR ν s a) : ∀ {l : List Operand} {xs : List M}, vals s l = some xs → VRs ν xs (l.map a.eval)
  | [], xs, h => by simp only [vals, Option.some.injEq] at h; subst h; exact .nil
  | X :: l, xs, h => by
    unfold vals at h
    split at h
    · rename_i v r h1 h2
      cases h
      exact .cons (val_vr S h1) (vals_vr S h2)
    · cases h
theorem valO_vr (S : SR ν s a) {X : Option Operand} {x : Option M} (h : valO s X = some x) : (x = none ∧ X.map a.eval = none) ∨ ∃ y v, x = some y ∧ X.map a.eval = some v ∧ VR ν y v := by
  cases X with
  | none => simp only [valO, Option.some.injEq] at h; subst h; exact .inl ⟨rfl, rfl⟩
  | some X =>
    unfold valO at h
    simp only at h
    split at h
    · rename_i v hv
      cases h
      exact .inr ⟨v, _, rfl, rfl, val_vr S hv⟩
    · cases h

/-! loads -/
theorem rdsG_vr {cs : List M} {vs : Array Value} {ν : Nm} (h : ∀ (i : Nat) x, cs[i]? = some x → ∃ v, vs[i]? = some v ∧ VR ν x v) : ∀ (k i : Nat) {l : List M}, rdsG cs i k = some l →
    ∃ us : List Value, us.length = k ∧ VRs ν l us ∧ ∀ (j : Nat) v, us[j]? = some v → vs[i + j]? = some v
  | 0, i, l, e => by simp only [rdsG, Option.some.injEq] at e; subst e; exact ⟨[], rfl, .nil, by simp⟩
  | k + 1, i, l, e => by
    unfold rdsG at e
    split at e
    · rename_i x l' h1 h2
      cases e
      obtain ⟨v, h3, h4⟩ := h i x h1
      obtain ⟨us, h5, h6, h7⟩ := rdsG_vr h k (i + 1) h2
      refine ⟨v :: us, by simp [h5], .cons h4 h6, fun j u hu => ?_⟩
      cases j with
      | zero => simp at hu; subst hu; exact h3
      | succ j => simp at hu; rw [show i + (j + 1) = i + 1 + j by omega]; exact h7 j u hu
    · cases e
theorem run_loadM (R : WR C base ν g n w) (hs : ∀ b o, H.get b = some o → o.live = true → g b = some o) {t : TypeId} {p x : M} {u : Value} (hp : VR ν p u) (h : loadM C H t p = some x) :
    ∃ v, (Instr.loadAt t u).run C.P w = .ok v w ∧ VR ν x v := by
  unfold loadM at h
  split at h
  · rename_i b o
    cases hp with | ptr _ _ c hb =>
    split at h
    · rename_i k ha hz
      split at h
      · rename_i l hl
        cases h
        obtain ⟨vs, h1, h2, h3⟩ := R.rds hs hb k o hl
        refine ⟨.agg vs.toArray, ?_, VR.agg' h2⟩
        have := run_rds (P := C.P) h3
        rw [h1] at this
        simp [Instr.loadAt, Instr.sureAddr, loadVar, run_isAgg ha, run_size hz, this]
      · cases h
    · rename_i ha
      obtain ⟨v, h1, h2⟩ := R.rd hs hb h
      exact ⟨v, by simp [Instr.loadAt, Instr.sureAddr, loadVar, run_isAgg ha, h1], h2⟩
    · cases h
  · rename_i k o
    cases hp with | glob =>
    split at h
    · rename_i cs hcs
      obtain ⟨_, vs, e, fr, h1, h2⟩ := R.gl k cs hcs
      have hc : ∀ j v, vs[j]? = some v → w.cell? ⟨k, j, none⟩ = some v := fun j v hv => by simp [World.cell?, h1, hv]
      split at h
      · rename_i z ha hz
        split at h
        · rename_i l hl
          cases h
          obtain ⟨us, h3, h4, h5⟩ := rdsG_vr h2 z o hl
          refine ⟨.agg us.toArray, ?_, VR.agg' (h4.mono (fun b c h => by cases h))⟩
          have := run_rds (P := C.P) (w := w) (c := k) (i := o) (vs := us) fun j v hv => hc _ _ (h5 j v hv)
          rw [h3] at this
          simp [Instr.loadAt, Instr.sureAddr, loadVar, run_isAgg ha, run_size hz, this]
        · cases h
      · rename_i ha
        obtain ⟨v, h3, h4⟩ := h2 o x h
        exact ⟨v, by simp [Instr.loadAt, Instr.sureAddr, loadVar, run_isAgg ha, hc o v h3], h4.mono (fun b c h => by cases h)⟩
      · cases h
    · cases h
  · cases h

/-! comparisons -/
set_option linter.unusedSimpArgs false
set_option linter.unusedVariables false
def eqVal : Value → Bool
  | .pointer _ | .slice _ _ _ | .func _ _ _ | .nilFunc | .iface _ _ | .nilIface | .map _ => true
  | _ => false
theorem run_eq (op : BinOp) (neg : Bool) (hop : op = if neg then .neq else .eql) (t : TypeId) {u v : Value} (hu : eqVal u = true) (hv : eqVal v = true) {r : Bool}
    (h : (Op.equal t u v).run C.P w = .ok r w) : (binOp op t u v).run C.P w = .ok (.bool (if neg then !r else r)) w := by
  have h' : (Op.equalIn Op.maxDepth t u v).run C.P w = .ok r w := h
  cases neg <;> subst hop <;> cases u <;> simp [eqVal] at hu <;> cases v <;> simp [eqVal] at hv <;> simp [binOp, Op.equal, h']
theorem run_nilguard (op : BinOp) (t : TypeId) (X Y : Operand) {u v : Value} (h : (∀ n, u ≠ .agg n)) (h' : u = .nilIface → v ≠ .nilIface) : (eqGuard op t X Y u v).run C.P w = .ok () w := by
  unfold eqGuard
  cases op <;> try rfl
  all_goals
    cases u <;> first | rfl | (exact absurd rfl (h _)) | skip
    cases v <;> first | rfl | (exact absurd rfl (h' rfl))

theorem run_eqM {d : TypeDesc} {t : TypeId} (ht : und C t = some d) {x y : M} {u v : Value} (hx : VR ν x u) (hy : VR ν y v) {r : Bool} (h : eqM d x y = some r) :
    eqVal u = true ∧ eqVal v = true ∧ (u = .nilIface → v ≠ .nilIface) ∧ (Op.equal t u v).run C.P w = .ok r w := by
  have ht' : (underlying t).run C.P w = .ok d w := run_und ht
  have go : ∀ q : Sem Bool, Op.equal t u v = q → q.run C.P w = .ok r w → (Op.equal t u v).run C.P w = .ok r w := fun q e h => by rw [e]; exact h
  unfold eqM at h
  split at h <;> first | (cases h; done) | (split at h)
  all_goals first | (cases h; done) | skip
  all_goals first | (cases h) | skip
  all_goals first
    | (cases hx; cases hy; refine ⟨rfl, rfl, by simp, ?_⟩; show (Op.equalIn (9999 + 1) t _ _).run C.P w = _; unfold Op.equalIn; simp [ht']; done)
    | skip
  rename_i f p g' q
  cases hx; cases hy
  cases hfg : f == g'
  · rw [hfg] at h
    simp only [cond_false, Option.some.injEq] at h
    subst h
    refine ⟨rfl, rfl, by simp, ?_⟩
    show (Op.equalIn (9999 + 1) t _ _).run C.P w = _
    unfold Op.equalIn
    have hne : f ≠ g' := by simpa using hfg
    simp [ht', hne]
  · rw [hfg] at h; cases h
theorem run_binM {op : BinOp} {t : TypeId} {X Y : Operand} {x y r : M} {u v : Value} (hx : VR ν x u) (hy : VR ν y v) (h : binM C op t X Y x y = some r) :
    ∃ z, (do eqGuard op t X Y u v; binOp op t u v : Sem Value).run C.P w = .ok z w ∧ VR ν r z := by
  unfold binM at h
  split at h
  · rename_i u' v' e1 e2
    rw [hx.toV e1, hy.toV e2]
    split at h
    · rename_i z hz
      exact ⟨z, pureRun_run w hz, vr_ofV0 h⟩
    · cases h
  · split at h
    · rename_i d hd
      split at h
      · rename_i b hb
        cases h
        obtain ⟨e1, e2, e3, e4⟩ := run_eqM (w := w) hd hx hy hb
        refine ⟨.bool b, ?_, .bool b⟩
        have := run_eq .eql false rfl t e1 e2 e4
        simp only [Sem.run_bind, run_nilguard .eql t X Y (fun n h => by subst h; simp [eqVal] at e1) e3, Result.andThen_ok, this]
        rfl
      · rename_i b hb
        cases h
        obtain ⟨e1, e2, e3, e4⟩ := run_eqM (w := w) hd hx hy hb
        refine ⟨.bool (!b), ?_, .bool _⟩
        have := run_eq .neq true rfl t e1 e2 e4
        simp only [Sem.run_bind, run_nilguard .neq t X Y (fun n h => by subst h; simp [eqVal] at e1) e3, Result.andThen_ok, this]
        rfl
      · cases h
    · cases h

/-! fields, places -/
theorem fieldOf_spec {t : TypeId} {f : Nat} {fd : Field} (h : fieldOf C t f = some fd) : ∃ fs, und C t = some (.struct fs) ∧ fs[f]? = some fd := by
  unfold fieldOf at h
  split at h
  · rename_i fs hu; exact ⟨fs, hu, h⟩
  · cases h
theorem run_fieldAM {t : TypeId} {f : Nat} {x r : M} {u : Value} (hx : VR ν x u) (h : fieldAM C t x f = some r) : ∃ v, (Instr.fieldAt t u f).run C.P w = .ok v w ∧ VR ν r v := by
  unfold fieldAM at h
  split at h
  · rename_i fd hf
    obtain ⟨fs, hu, hfs⟩ := fieldOf_spec hf
    split at h
    · rename_i z hz
      split at h
      · rename_i b o
        cases h
        cases hx with | ptr _ _ c hb =>
        exact ⟨_, by simp [Instr.fieldAt, run_und hu, hfs, Instr.sureAddr, fieldPlace, run_size hz, add_none], .ptr _ _ c hb⟩
      · rename_i b o
        cases h
        cases hx
        exact ⟨_, by simp [Instr.fieldAt, run_und hu, hfs, Instr.sureAddr, fieldPlace, run_size hz, add_none], .glob _ _⟩
      · cases h
    · cases h
  · cases h
theorem run_partM {t : TypeId} {l : List M} {vs : List Value} {o : Nat} {r : M} (hv : VRs ν l vs) (h : partM C t l o = some r) : ∃ v, (part t vs.toArray o).run C.P w = .ok v w ∧ VR ν r v := by
  unfold partM at h
  split at h
  · rename_i ha
    split at h
    · rename_i z hz
      cases h
      refine ⟨.agg ((vs.drop o).take z).toArray, ?_, VR.agg' ((hv.drop o).take z)⟩
      simp only [part, Sem.run_bind, run_isAgg ha, Result.andThen_ok, if_true, run_size hz, Sem.run_pure]
      congr 1
      congr 1
      apply Array.ext'
      simp [List.take_drop, Nat.add_comm]
    · cases h
  · rename_i ha
    obtain ⟨v, h1, h2⟩ := hv.get h
    refine ⟨v, ?_, h2⟩
    simp [part, run_isAgg ha, h1]
  · cases h
theorem run_fieldM {t : TypeId} {f : Nat} {x r : M} {u : Value} (hx : VR ν x u) (h : fieldM C t x f = some r) : ∃ v, (Instr.field t u f).run C.P w = .ok v w ∧ VR ν r v := by
  unfold fieldM at h
  split at h
  · rename_i fd l hf
    obtain ⟨fs, hu, hfs⟩ := fieldOf_spec hf
    obtain ⟨vs, rfl, hv⟩ := hx.agg_inv
    obtain ⟨v, h1, h2⟩ := run_partM (w := w) hv h
    exact ⟨v, by simp [Instr.field, run_und hu, hfs, asAgg, h1], h2⟩
  · cases h
theorem lt_of_blt {a b : Nat} {β : Type} {x : Option β} {r : β} (h : (bif Nat.blt a b then x else none) = some r) : a < b ∧ x = some r := by
  cases e : Nat.blt a b
  · rw [e] at h; cases h
  · rw [e] at h; exact ⟨by simpa [Nat.blt_eq] using e, h⟩
theorem run_idxAM {t : TypeId} {x i r : M} {u v : Value} (hx : VR ν x u) (hi : VR ν i v) (h : idxAM C t x i = some r) : ∃ z, (Instr.indexAt t u v).run C.P w = .ok z w ∧ VR ν r z := by
  unfold idxAM at h
  split at h
  · rename_i ik k
    cases hi
    split at h
    · rename_i b o m c
      cases hx with | sl _ _ _ _ c cap hb hc hk hr =>
      split at h
      · rename_i e hu
        split at h
        · rename_i z hz
          obtain ⟨h1, h2⟩ := lt_of_blt h
          cases h2
          exact ⟨_, by simp [Instr.indexAt, asIntOf, run_und hu, h1, Nat.not_le.2 h1, run_size hz, add_none], .ptr _ _ c hb⟩
        · cases h
      · cases h
    · rename_i b o
      cases hx with | ptr _ _ c hb =>
      split at h
      · rename_i m e hu
        split at h
        · rename_i z hz
          obtain ⟨h1, h2⟩ := lt_of_blt h
          cases h2
          exact ⟨_, by simp [Instr.indexAt, asIntOf, run_und hu, h1, Nat.not_le.2 h1, Instr.sureAddr, run_size hz, add_none], .ptr _ _ c hb⟩
        · cases h
      · cases h
    · rename_i b o
      cases hx with | glob =>
      split at h
      · rename_i m e hu
        split at h
        · rename_i z hz
          obtain ⟨h1, h2⟩ := lt_of_blt h
          cases h2
          exact ⟨_, by simp [Instr.indexAt, asIntOf, run_und hu, h1, Nat.not_le.2 h1, Instr.sureAddr, run_size hz, add_none], .glob _ _⟩
        · cases h
      · cases h
    · cases h
  · cases h
theorem run_idxM {t : TypeId} {x i r : M} {u v : Value} (hx : VR ν x u) (hi : VR ν i v) (h : idxM C t x i = some r) : ∃ z, (Instr.index t u v).run C.P w = .ok z w ∧ VR ν r z := by
  unfold idxM at h
  split at h
  · rename_i l
    split at h
    · rename_i ik k
      cases hi
      obtain ⟨vs, rfl, hv⟩ := hx.agg_inv
      split at h
      · rename_i m e hu
        split at h
        · rename_i z hz
          obtain ⟨h1, h2⟩ := lt_of_blt h
          obtain ⟨q, h3, h4⟩ := run_partM (w := w) hv h2
          exact ⟨q, by simp [Instr.index, asIntOf, run_und hu, h1, Nat.not_le.2 h1, run_size hz, h3], h4⟩
        · cases h
      · cases h
    · cases h
  · split at h
    · rename_i p q e1 e2
      rw [hx.toV e1, hi.toV e2]
      split at h
      · rename_i z hz
        exact ⟨z, pureRun_run w hz, vr_ofV0 h⟩
      · cases h
    · cases h
end
end Go.Me
