/- The evaluator of Go code and its proofs, part 8. Own work. -/
import Derived.Test.YteckebocflnkdaaDoorL7
import Derived.Attr
import Derived.ChangeArms
import Derived.ChangeOld
import Derived.Below
set_option linter.unusedVariables false
set_option linter.unusedSimpArgs false
set_option linter.unusedSectionVars false
/-! EvZn -/
/- More fuel, same answer. Own work. -/
namespace Go.Ev
open Go

def Le (o o' : Orc) : Prop := ∀ f d vs m r, o f d vs m = some r → o' f d vs m = some r

section
variable {cfg : Cfg} {o o' : Orc} {dep : Nat}

theorem callU_le (h : Le o o') {s : Get} {dst : Option Nat} {own : Bool} {f : FuncId} {vs : List V} {u} (hu : callU o s dst own f vs = some u) : callU o' s dst own f vs = some u := by
  unfold callU at hu ⊢
  split at hu
  · rename_i ds sh hd
    split at hu
    · rename_i r m hr
      simp only [h _ _ _ _ _ hr]
      exact hu
    · cases hu
  · cases hu

theorem callG_le (h : Le o o') {s : Get} {dst : Option Nat} {own : Bool} {f : FuncId} {args : List IOpd} {i : Nat} {u} (hu : callG cfg o s dst own f args i = some u) : callG cfg o' s dst own f args i = some u := by
  unfold callG at hu ⊢
  simp only [Option.bind_eq_some_iff] at hu ⊢
  obtain ⟨ix, hix, v, hv, g, hg, vs, hvs, q, hq, ⟨r, m⟩, hor, hl⟩ := hu
  exact ⟨ix, hix, v, hv, g, hg, vs, hvs, q, hq, ⟨r, m⟩, h _ _ _ _ _ hor, hl⟩

theorem evOpG_le (h : Le o o') {s : Get} {dst : Option Nat} {op : IOp} {u} (hu : evOpG cfg o dep s dst op = some u) : evOpG cfg o' dep s dst op = some u := by
  unfold evOpG at hu ⊢
  split at hu
  · exact callG_le h hu
  · exact hu

theorem stepU_le (h : Le o o') {s : Get} {io : IOper} {u} (hu : stepU cfg o dep s io = some u) : stepU cfg o' dep s io = some u := by
  unfold stepU at hu ⊢
  split at hu
  · cases hu
  · exact hu
  · split at hu
    · cases hu
    · rename_i hno
      rw [if_neg hno]
      split at hu
      · rename_i hcl
        rw [if_pos hcl]
        split at hu
        · exact hu
        · split at hu
          · exact callU_le h hu
          · cases hu
      · rename_i hcl
        rw [if_neg hcl]; exact evOpG_le h hu

theorem callM_le (h : Le o o') {s : St} {dst : Option Nat} {own : Bool} {f : FuncId} {vs : List V} {s'} (hu : callM o dep s dst own f vs = some s') : callM o' dep s dst own f vs = some s' := by
  unfold callM at hu ⊢
  split at hu
  · rename_i hc
    rw [if_pos hc]
    split at hu
    · rename_i r m hr
      simp only [h _ _ _ _ _ hr]
      exact hu
    · cases hu
  · cases hu

theorem stepM_inv {s s' : St} {io : IOper} (hu : stepM cfg o dep s io = some s') : ∃ own f vs, guardOk s.get io.guard = some true ∧ (io.dst.isSome && isCallOp io.op && (clipArg cfg io.op).isNone) = true ∧ target cfg s.get io.op = some (own, f, vs) ∧
    callM o dep s io.dst own f vs = some s' := by
  unfold stepM at hu
  split at hu
  · rename_i hg
    split at hu
    · rename_i hc
      split at hu
      · rename_i own f vs ht
        exact ⟨own, f, vs, hg, hc, ht, hu⟩
      · cases hu
    · cases hu
  · cases hu

theorem stepM_le (h : Le o o') {s s' : St} {io : IOper} (hu : stepM cfg o dep s io = some s') : stepM cfg o' dep s io = some s' := by
  obtain ⟨own, f, vs, hg, hc, ht, hm⟩ := stepM_inv hu
  unfold stepM
  simp only [hg, hc, ht, if_true]
  exact callM_le h hm

/-- never both -/
theorem stepU_none {o'' : Orc} {s s' : St} {io : IOper} (hu : stepM cfg o dep s io = some s') : stepU cfg o'' dep s.get io = none := by
  obtain ⟨own, f, vs, hg, hc, ht, hm⟩ := stepM_inv hu
  simp only [Bool.and_eq_true, Option.isNone_iff_eq_none] at hc
  obtain ⟨⟨h1, h2⟩, h3⟩ := hc
  have hn : argsD s.get vs = none := by
    unfold callM at hm
    split at hm
    · rename_i hq
      simp only [Bool.and_eq_true, Option.isNone_iff_eq_none] at hq
      exact hq.1
    · cases hm
  unfold stepU
  have h1' : io.dst.isNone = false := by cases hd : io.dst <;> simp_all
  simp only [hg, h1', Bool.false_and, Bool.false_eq_true, if_false, h2, if_true, h3, ht, callU, hn]

theorem evStep_le (h : Le o o') {s s' : St} {io : IOper} (hu : evStep cfg o dep s io = some s') : evStep cfg o' dep s io = some s' := by
  unfold evStep at hu ⊢
  split at hu
  · rename_i u h1
    simp only [stepU_le h h1]
    exact hu
  · simp only [stepU_none (o'' := o') hu]
    exact stepM_le h hu

theorem evOps_le (h : Le o o') : ∀ (l : List IOper) {s s' : St}, evOps cfg o dep l s = some s' → evOps cfg o' dep l s = some s'
  | [], _, _, hu => hu
  | io :: l, s, s', hu => by
    unfold evOps at hu ⊢
    split at hu
    · rename_i s1 h1
      simp only [evStep_le h h1]
      exact evOps_le h l hu
    · cases hu

theorem evOpsU_le (h : Le o o') : ∀ (l : List IOper) {s : St} {r}, evOpsU cfg o dep l s = some r → evOpsU cfg o' dep l s = some r
  | [], _, _, hu => hu
  | io :: l, s, r, hu => by
    unfold evOpsU at hu ⊢
    split at hu
    · rename_i u h1
      split at hu
      · rename_i l' s' h2
        simp only [stepU_le h h1, evOpsU_le h l h2]
        exact hu
      · cases hu
    · cases hu

theorem evRegion_le (h : Le o o') {l : List IOper} {un : List (Nat × Nat)} {s s' : St} (hu : evRegion cfg o dep l un s = some s') : evRegion cfg o' dep l un s = some s' := by
  unfold evRegion at hu ⊢
  split at hu
  · exact evOps_le h l hu
  · split at hu
    · rename_i l' s1 h1
      simp only [evOpsU_le h _ h1]
      exact hu
    · cases hu

theorem evLoop_le {f g : St → Option (Ex × St)} (h : ∀ s r, f s = some r → g s = some r) : ∀ {n n' : Nat}, n ≤ n' → ∀ {s : St} {r}, evLoop f n s = some r → evLoop g n' s = some r
  | 0, _, _, _, _, hu => by cases hu
  | n + 1, n', hn, s, r, hu => by
    obtain ⟨k, rfl⟩ : ∃ k, n' = k + 1 := ⟨n' - 1, by omega⟩
    unfold evLoop at hu ⊢
    split at hu
    · rename_i s1 h1
      simp only [h _ _ h1]
      exact evLoop_le h (by omega) hu
    · rename_i hno
      cases hf : f s with
      | none => rw [hf] at hu; cases hu
      | some q =>
        rw [hf] at hu
        cases hu
        rw [h _ _ hf]
        split
        · rename_i s1 he
          cases he
          exact absurd hf (hno s1)
        · rfl

theorem evCode_le (h : Le o o') {n n' : Nat} (hn : n ≤ n') : ∀ (c : ICode) {s : St} {r}, evCode cfg o dep n c s = some r → evCode cfg o' dep n' c s = some r := by
  intro c
  induction c with
  | skip => intro s r hu; simpa only [evCode] using hu
  | region ops un keep =>
    intro s r hu
    simp only [evCode] at hu ⊢
    split at hu
    · rename_i s1 h1
      simp only [evRegion_le h h1]
      exact hu
    · cases hu
  | seq a b iha ihb =>
    intro s r hu
    simp only [evCode] at hu ⊢
    split at hu
    · rename_i s1 h1
      simp only [iha h1]
      exact ihb hu
    · rename_i hno
      have := iha hu
      rw [this]
      split
      · rename_i s1 he
        cases he
        exact absurd hu (hno s1)
      · rfl
  | cond x a b iha ihb =>
    intro s r hu
    simp only [evCode] at hu ⊢
    split at hu
    · split at hu
      · rename_i ht; rw [if_pos ht]; exact iha hu
      · rename_i ht; rw [if_neg ht]; exact ihb hu
    · exact bothWays_of (fun r h => iha h) (fun r h => ihb h) hu
    · cases hu
  | block id b ih =>
    intro s r hu
    simp only [evCode] at hu ⊢
    split at hu
    · rename_i id' s1 h1
      simp only [ih h1]
      exact hu
    · rename_i hno
      rw [ih hu]
      split
      · rename_i id' s1 he
        cases he
        exact absurd hu (hno _ _)
      · rfl
  | loop b ih =>
    intro s r hu
    simp only [evCode] at hu ⊢
    exact evLoop_le (fun s r h => ih h) hn hu
  | exit id => intro s r hu; simpa only [evCode] using hu
  | ret => intro s r hu; simpa only [evCode] using hu
  | demote ls => intro s r hu; simpa only [evCode] using hu
  | free k => intro s r hu; simpa only [evCode] using hu
  | bad => intro s r hu; simp [evCode] at hu

theorem evBody_le (h : Le o o') {n n' : Nat} (hn : n ≤ n') {fn : IFunc} {vs : List V} {m : List (Cel × V)} {r} (hu : evBody cfg o n fn dep vs m = some r) : evBody cfg o' n' fn dep vs m = some r := by
  unfold evBody at hu ⊢
  split at hu
  · rename_i hc
    rw [if_pos hc]
    split at hu
    · rename_i s h1
      simp only [evCode_le h hn _ h1]
      exact hu
    · rename_i s h1
      simp only [evCode_le h hn _ h1]
      exact hu
    · cases hu
  · cases hu

theorem evFn_le (cfg : Cfg) : ∀ {n n' : Nat}, n ≤ n' → Le (evFn cfg n) (evFn cfg n')
  | 0, _, _ => fun _ _ _ _ _ h => by cases h
  | n + 1, n', hn => fun f d vs m r h => by
    obtain ⟨k, rfl⟩ : ∃ k, n' = k + 1 := ⟨n' - 1, by omega⟩
    unfold evFn at h ⊢
    split at h
    · exact h
    · split at h
      · exact evBody_le (evFn_le cfg (by omega)) (by omega) h
      · cases h

/-! the limit -/

open Classical in
noncomputable def Lim {β : Type} (f : Nat → Option β) : Option β := if h : ∃ r n, f n = some r then some h.choose else none

def Up {β : Type} (f : Nat → Option β) : Prop := ∀ n n' r, n ≤ n' → f n = some r → f n' = some r

theorem Lim_iff {β : Type} {f : Nat → Option β} (hf : Up f) {r : β} : Lim f = some r ↔ ∃ n, f n = some r := by
  unfold Lim
  constructor
  · intro h
    split at h
    · rename_i hx
      cases h
      exact hx.choose_spec
    · cases h
  · rintro ⟨n, hn⟩
    have hx : ∃ r n, f n = some r := ⟨r, n, hn⟩
    rw [dif_pos hx]
    obtain ⟨k, hk⟩ := hx.choose_spec
    have h1 := hf n (max n k) _ (Nat.le_max_left _ _) hn
    have h2 := hf k (max n k) _ (Nat.le_max_right _ _) hk
    rw [h1] at h2
    exact h2.symm

/-- what a function answers -/
noncomputable def evL (cfg : Cfg) : Orc := fun f d vs m => Lim fun n => evFn cfg n f d vs m

theorem evL_iff {cfg : Cfg} {f : FuncId} {d : Nat} {vs : List V} {m : List (Cel × V)} {r} : evL cfg f d vs m = some r ↔ ∃ n, evFn cfg n f d vs m = some r :=
  Lim_iff fun n n' r hn h => evFn_le cfg hn _ _ _ _ _ h

theorem evFn_evL (cfg : Cfg) (n : Nat) : Le (evFn cfg n) (evL cfg) := fun _ _ _ _ _ h => evL_iff.2 ⟨n, h⟩

/-! what the limit answers is answered on the way -/

theorem callU_on {s : Get} {dst : Option Nat} {own : Bool} {f : FuncId} {vs : List V} {u} (hu : callU (evL cfg) s dst own f vs = some u) : ∃ k, callU (evFn cfg k) s dst own f vs = some u := by
  unfold callU at hu
  split at hu
  · rename_i ds sh hd
    split at hu
    · rename_i r m hr
      obtain ⟨k, hk⟩ := evL_iff.1 hr
      refine ⟨k, ?_⟩
      unfold callU
      simp only [hd, hk]
      exact hu
    · cases hu
  · cases hu

theorem callG_on {s : Get} {dst : Option Nat} {own : Bool} {f : FuncId} {args : List IOpd} {i : Nat} {u} (hu : callG cfg (evL cfg) s dst own f args i = some u) : ∃ k, callG cfg (evFn cfg k) s dst own f args i = some u := by
  unfold callG at hu
  simp only [Option.bind_eq_some_iff] at hu
  obtain ⟨ix, hix, v, hv, g, hg, vs, hvs, q, hq, ⟨r, m⟩, hor, hl⟩ := hu
  obtain ⟨k, hk⟩ := evL_iff.1 hor
  refine ⟨k, ?_⟩
  unfold callG
  simp only [Option.bind_eq_some_iff]
  exact ⟨ix, hix, v, hv, g, hg, vs, hvs, q, hq, ⟨r, m⟩, hk, hl⟩

theorem evOpG_on {s : Get} {dst : Option Nat} {op : IOp} {u} (hu : evOpG cfg (evL cfg) dep s dst op = some u) : ∃ k, evOpG cfg (evFn cfg k) dep s dst op = some u := by
  unfold evOpG at hu
  split at hu
  · obtain ⟨k, hk⟩ := callG_on hu
    exact ⟨k, by simp only [evOpG]; exact hk⟩
  · rename_i hng
    refine ⟨0, ?_⟩
    unfold evOpG
    split
    · rename_i own f args i; exact absurd rfl (hng own f args i)
    · exact hu

theorem stepU_on {s : Get} {io : IOper} {u} (hu : stepU cfg (evL cfg) dep s io = some u) : ∃ k, stepU cfg (evFn cfg k) dep s io = some u := by
  have hu' := hu
  unfold stepU at hu
  split at hu
  · cases hu
  · rename_i hg
    refine ⟨0, ?_⟩
    unfold stepU
    simp only [hg]; exact hu
  · rename_i hg
    split at hu
    · cases hu
    · rename_i hno
      split at hu
      · rename_i hcl
        split at hu
        · rename_i x hx
          refine ⟨0, ?_⟩
          unfold stepU
          simp only [hg, hcl, hx, if_true]
          rw [if_neg hno]; exact hu
        · rename_i hx
          split at hu
          · rename_i own f vs ht
            obtain ⟨k, hk⟩ := callU_on hu
            refine ⟨k, ?_⟩
            unfold stepU
            simp only [hg, hcl, hx, ht, if_true]
            rw [if_neg hno]; exact hk
          · cases hu
      · rename_i hcl
        obtain ⟨k, hk⟩ := evOpG_on hu
        refine ⟨k, ?_⟩
        unfold stepU
        simp only [hg]
        rw [if_neg hno, if_neg hcl]; exact hk

theorem evStep_on {s s' : St} {io : IOper} (hu : evStep cfg (evL cfg) dep s io = some s') : ∃ k, evStep cfg (evFn cfg k) dep s io = some s' := by
  unfold evStep at hu
  split at hu
  · rename_i u h1
    obtain ⟨k, hk⟩ := stepU_on h1
    refine ⟨k, ?_⟩
    unfold evStep
    simp only [hk]; exact hu
  · obtain ⟨own, f, vs, hg, hc, ht, hm⟩ := stepM_inv hu
    have hm' := hm
    unfold callM at hm
    split at hm
    · rename_i hq
      split at hm
      · rename_i r m hr
        obtain ⟨k, hk⟩ := evL_iff.1 hr
        have h2 : stepM cfg (evFn cfg k) dep s io = some s' := by
          unfold stepM
          simp only [hg, hc, ht, if_true]
          unfold callM
          rw [if_pos hq]
          simp only [hk]
          exact hm
        refine ⟨k, ?_⟩
        unfold evStep
        simp only [stepU_none (o'' := evFn cfg k) h2]
        exact h2
      · cases hm
    · cases hm

theorem evOps_on : ∀ (l : List IOper) {s s' : St}, evOps cfg (evL cfg) dep l s = some s' → ∃ k, evOps cfg (evFn cfg k) dep l s = some s'
  | [], _, _, hu => ⟨0, hu⟩
  | io :: l, s, s', hu => by
    unfold evOps at hu
    split at hu
    · rename_i s1 h1
      obtain ⟨k1, g1⟩ := evStep_on h1
      obtain ⟨k2, g2⟩ := evOps_on l hu
      refine ⟨max k1 k2, ?_⟩
      unfold evOps
      simp only [evStep_le (evFn_le cfg (Nat.le_max_left k1 k2)) g1]
      exact evOps_le (evFn_le cfg (Nat.le_max_right k1 k2)) l g2
    · cases hu

theorem evOpsU_on : ∀ (l : List IOper) {s : St} {r}, evOpsU cfg (evL cfg) dep l s = some r → ∃ k, evOpsU cfg (evFn cfg k) dep l s = some r
  | [], _, _, hu => ⟨0, hu⟩
  | io :: l, s, r, hu => by
    unfold evOpsU at hu
    split at hu
    · rename_i u h1
      split at hu
      · rename_i l' s1 h2
        obtain ⟨k1, g1⟩ := stepU_on h1
        obtain ⟨k2, g2⟩ := evOpsU_on l h2
        refine ⟨max k1 k2, ?_⟩
        unfold evOpsU
        simp only [stepU_le (evFn_le cfg (Nat.le_max_left k1 k2)) g1, evOpsU_le (evFn_le cfg (Nat.le_max_right k1 k2)) l g2]
        exact hu
      · cases hu
    · cases hu

theorem evRegion_on {l : List IOper} {un : List (Nat × Nat)} {s s' : St} (hu : evRegion cfg (evL cfg) dep l un s = some s') : ∃ k, evRegion cfg (evFn cfg k) dep l un s = some s' := by
  unfold evRegion at hu
  split at hu
  · exact evOps_on l hu
  · split at hu
    · rename_i hno l' s1 h1
      obtain ⟨k, hk⟩ := evOpsU_on _ h1
      refine ⟨k, ?_⟩
      unfold evRegion
      simp only [hk]
      exact hu
    · cases hu

theorem evLoop_on {f : St → Option (Ex × St)} {g : Nat → St → Option (Ex × St)} (hup : ∀ k k', k ≤ k' → ∀ s r, g k s = some r → g k' s = some r) (h : ∀ s r, f s = some r → ∃ k, g k s = some r) : ∀ (n : Nat) {s : St} {r}, evLoop f n s = some r → ∃ k, evLoop (g k) n s = some r
  | 0, _, _, hu => by cases hu
  | n + 1, s, r, hu => by
    unfold evLoop at hu
    split at hu
    · rename_i s1 h1
      obtain ⟨k1, g1⟩ := h _ _ h1
      obtain ⟨k2, g2⟩ := evLoop_on hup h n hu
      refine ⟨max k1 k2, ?_⟩
      unfold evLoop
      simp only [hup _ _ (Nat.le_max_left k1 k2) _ _ g1]
      exact evLoop_le (hup _ _ (Nat.le_max_right k1 k2)) (Nat.le_refl _) g2
    · rename_i hno
      obtain ⟨k, hk⟩ := h _ _ hu
      refine ⟨k, ?_⟩
      unfold evLoop
      rw [hk]
      split
      · rename_i s1 he
        cases he
        exact absurd hu (hno s1)
      · rfl

theorem evCode_on {n : Nat} : ∀ (c : ICode) {s : St} {r}, evCode cfg (evL cfg) dep n c s = some r → ∃ k, evCode cfg (evFn cfg k) dep n c s = some r := by
  intro c
  induction c with
  | region ops un keep =>
    intro s r hu
    simp only [evCode] at hu ⊢
    split at hu
    · rename_i s1 h1
      obtain ⟨k, hk⟩ := evRegion_on h1
      exact ⟨k, by simp only [hk]; exact hu⟩
    · cases hu
  | seq a b iha ihb =>
    intro s r hu
    simp only [evCode] at hu ⊢
    split at hu
    · rename_i s1 h1
      obtain ⟨k1, g1⟩ := iha h1
      obtain ⟨k2, g2⟩ := ihb hu
      refine ⟨max k1 k2, ?_⟩
      simp only [evCode_le (evFn_le cfg (Nat.le_max_left k1 k2)) (Nat.le_refl n) a g1]
      exact evCode_le (evFn_le cfg (Nat.le_max_right k1 k2)) (Nat.le_refl n) b g2
    · rename_i hno
      obtain ⟨k, hk⟩ := iha hu
      refine ⟨k, ?_⟩
      rw [hk]
      split
      · rename_i s1 he
        cases he
        exact absurd hu (hno s1)
      · rfl
  | cond x a b iha ihb =>
    intro s r hu
    simp only [evCode] at hu ⊢
    split at hu
    · split at hu
      · rename_i ht; obtain ⟨k, hk⟩ := iha hu; exact ⟨k, by rw [if_pos ht]; exact hk⟩
      · rename_i ht; obtain ⟨k, hk⟩ := ihb hu; exact ⟨k, by rw [if_neg ht]; exact hk⟩
    · obtain ⟨h1, h2⟩ := bothWays_eq hu
      obtain ⟨k1, g1⟩ := iha h1
      obtain ⟨k2, g2⟩ := ihb h2
      refine ⟨max k1 k2, ?_⟩
      rw [evCode_le (evFn_le cfg (Nat.le_max_left k1 k2)) (Nat.le_refl n) a g1, evCode_le (evFn_le cfg (Nat.le_max_right k1 k2)) (Nat.le_refl n) b g2]
      rw [h1, h2] at hu
      exact hu
    · cases hu
  | block id b ih =>
    intro s r hu
    simp only [evCode] at hu ⊢
    split at hu
    · rename_i id' s1 h1
      obtain ⟨k, hk⟩ := ih h1
      exact ⟨k, by simp only [hk]; exact hu⟩
    · rename_i hno
      obtain ⟨k, hk⟩ := ih hu
      refine ⟨k, ?_⟩
      rw [hk]
      split
      · rename_i id' s1 he
        cases he
        exact absurd hu (hno _ _)
      · rfl
  | loop b ih =>
    intro s r hu
    simp only [evCode] at hu ⊢
    exact evLoop_on (f := evCode cfg (evL cfg) dep n b) (g := fun k => evCode cfg (evFn cfg k) dep n b) (fun k k' hk s r h => evCode_le (evFn_le cfg hk) (Nat.le_refl n) b h) (fun s r h => ih h) n hu
  | bad => intro s r hu; simp [evCode] at hu
  | _ => intro s r hu; exact ⟨0, by simpa only [evCode] using hu⟩

/-! without fuel -/

noncomputable def evC (cfg : Cfg) (dep : Nat) (c : ICode) (s : St) : Option (Ex × St) := Lim fun n => evCode cfg (evL cfg) dep n c s

theorem evC_iff {c : ICode} {s : St} {r} : evC cfg dep c s = some r ↔ ∃ n, evCode cfg (evL cfg) dep n c s = some r :=
  Lim_iff fun _ _ _ hn h => evCode_le (fun _ _ _ _ _ h => h) hn c h

theorem evCode_up {n n' : Nat} (hn : n ≤ n') {c : ICode} {s : St} {r} (h : evCode cfg (evL cfg) dep n c s = some r) : evCode cfg (evL cfg) dep n' c s = some r := evCode_le (fun _ _ _ _ _ h => h) hn c h

theorem ext_some {β : Type} {a b : Option β} (h1 : ∀ r, a = some r → b = some r) (h2 : ∀ r, b = some r → a = some r) : a = b := by
  cases a with
  | some r => exact (h1 r rfl).symm
  | none => cases b with
    | some r => exact absurd (h2 r rfl) (by simp)
    | none => rfl

/-- code that needs no fuel -/
theorem evC_flat {c : ICode} {s : St} {X : Option (Ex × St)} (h : ∀ n, evCode cfg (evL cfg) dep n c s = X) : evC cfg dep c s = X :=
  ext_some (fun r hr => by obtain ⟨n, hn⟩ := evC_iff.1 hr; rw [← h n]; exact hn) (fun r hr => evC_iff.2 ⟨0, by rw [h 0]; exact hr⟩)

theorem evC_skip (s : St) : evC cfg dep .skip s = some (.normal, s) := evC_flat fun n => by simp only [evCode]
theorem evC_exit (id : Nat) (s : St) : evC cfg dep (.exit id) s = some (.exit id, s) := evC_flat fun n => by simp only [evCode]
theorem evC_ret (s : St) : evC cfg dep .ret s = some (.ret, s) := evC_flat fun n => by simp only [evCode]
theorem evC_bad (s : St) : evC cfg dep .bad s = none := evC_flat fun n => by simp only [evCode]
theorem evC_demote (ls : List Nat) (s : St) : evC cfg dep (.demote ls) s = some (.normal, { s with env := ls.foldl (fun e k => demoteE k e) s.env }) := evC_flat fun n => by simp only [evCode]
theorem evC_free (k : Nat) (s : St) : evC cfg dep (.free k) s = some (.normal, ⟨freeE dep k s.env, freeM dep k s.mem⟩) := evC_flat fun n => by simp only [evCode]
theorem evC_region (ops : List IOper) (un : List (Nat × Nat)) (keep : List Nat) (s : St) : evC cfg dep (.region ops un keep) s = (match evRegion cfg (evL cfg) dep ops un s with
    | some s' => some (.normal, settle dep keep s')
    | none => none) := evC_flat fun n => by simp only [evCode]; cases evRegion cfg (evL cfg) dep ops un s <;> rfl

theorem evC_cond (x : IOpd) (a b : ICode) (s : St) : evC cfg dep (.cond x a b) s = (match val cfg s.get x with
    | some (.d (.bool t)) => if t then evC cfg dep a s else evC cfg dep b s
    | some (.d .unkB) => bothWays (evC cfg dep a s) (evC cfg dep b s)
    | _ => none) := by
  split
  · rename_i t ht
    refine ext_some (fun r hr => ?_) (fun r hr => ?_)
    · obtain ⟨n, hn⟩ := evC_iff.1 hr
      simp only [evCode, ht] at hn
      cases t
      · exact evC_iff.2 ⟨n, by simpa using hn⟩
      · exact evC_iff.2 ⟨n, by simpa using hn⟩
    · cases t
      · obtain ⟨n, hn⟩ := evC_iff.1 hr
        exact evC_iff.2 ⟨n, by simp only [evCode, ht]; exact hn⟩
      · obtain ⟨n, hn⟩ := evC_iff.1 hr
        exact evC_iff.2 ⟨n, by simp only [evCode, ht]; exact hn⟩
  · rename_i ht
    refine ext_some (fun r hr => ?_) (fun r hr => ?_)
    · obtain ⟨n, hn⟩ := evC_iff.1 hr
      simp only [evCode, ht] at hn
      exact bothWays_of (fun r h => evC_iff.2 ⟨n, h⟩) (fun r h => evC_iff.2 ⟨n, h⟩) hn
    · obtain ⟨h1, h2⟩ := bothWays_eq hr
      obtain ⟨n1, g1⟩ := evC_iff.1 h1
      obtain ⟨n2, g2⟩ := evC_iff.1 h2
      refine evC_iff.2 ⟨max n1 n2, ?_⟩
      simp only [evCode, ht]
      rw [evCode_up (Nat.le_max_left n1 n2) g1, evCode_up (Nat.le_max_right n1 n2) g2]
      rw [h1, h2] at hr
      exact hr
  · rename_i hno hno'
    refine evC_flat fun n => ?_
    simp only [evCode]

theorem evC_seq (a b : ICode) (s : St) : evC cfg dep (.seq a b) s = (match evC cfg dep a s with
    | some (.normal, s') => evC cfg dep b s'
    | r => r) := by
  refine ext_some (fun r hr => ?_) (fun r hr => ?_)
  · obtain ⟨n, hn⟩ := evC_iff.1 hr
    simp only [evCode] at hn
    split at hn
    · rename_i s1 h1
      rw [evC_iff.2 ⟨n, h1⟩]
      exact evC_iff.2 ⟨n, hn⟩
    · rename_i hno
      rw [evC_iff.2 ⟨n, hn⟩]
      split
      · rename_i s1 he
        cases he
        exact absurd hn (hno s1)
      · rfl
  · split at hr
    · rename_i s1 h1
      obtain ⟨n1, g1⟩ := evC_iff.1 h1
      obtain ⟨n2, g2⟩ := evC_iff.1 hr
      refine evC_iff.2 ⟨max n1 n2, ?_⟩
      simp only [evCode, evCode_up (Nat.le_max_left n1 n2) g1]
      exact evCode_up (Nat.le_max_right n1 n2) g2
    · rename_i hno
      obtain ⟨n, hn⟩ := evC_iff.1 hr
      refine evC_iff.2 ⟨n, ?_⟩
      simp only [evCode]
      rw [hn]
      split
      · rename_i s1 he
        cases he
        exact absurd hr (hno s1)
      · rfl

theorem evC_block (id : Nat) (b : ICode) (s : St) : evC cfg dep (.block id b) s = (match evC cfg dep b s with
    | some (.exit id', s') => if id' = id then some (.normal, s') else some (.exit id', s')
    | r => r) := by
  refine ext_some (fun r hr => ?_) (fun r hr => ?_)
  · obtain ⟨n, hn⟩ := evC_iff.1 hr
    simp only [evCode] at hn
    split at hn
    · rename_i id' s1 h1
      rw [evC_iff.2 ⟨n, h1⟩]
      exact hn
    · rename_i hno
      rw [evC_iff.2 ⟨n, hn⟩]
      split
      · rename_i id' s1 he
        cases he
        exact absurd hn (hno _ _)
      · rfl
  · split at hr
    · rename_i id' s1 h1
      obtain ⟨n, hn⟩ := evC_iff.1 h1
      refine evC_iff.2 ⟨n, ?_⟩
      simp only [evCode, hn]
      exact hr
    · rename_i hno
      obtain ⟨n, hn⟩ := evC_iff.1 hr
      refine evC_iff.2 ⟨n, ?_⟩
      simp only [evCode]
      rw [hn]
      split
      · rename_i id' s1 he
        cases he
        exact absurd hr (hno _ _)
      · rfl

theorem evC_loop (b : ICode) (s : St) : evC cfg dep (.loop b) s = (match evC cfg dep b s with
    | some (.normal, s') => evC cfg dep (.loop b) s'
    | r => r) := by
  refine ext_some (fun r hr => ?_) (fun r hr => ?_)
  · obtain ⟨n, hn⟩ := evC_iff.1 hr
    cases n with
    | zero => simp [evCode, evLoop] at hn
    | succ n =>
      simp only [evCode, evLoop] at hn
      split at hn
      · rename_i s1 h1
        rw [evC_iff.2 ⟨n + 1, h1⟩]
        exact evC_iff.2 ⟨n + 1, by simp only [evCode]; exact evLoop_le (fun _ _ h => h) (Nat.le_succ n) hn⟩
      · rename_i hno
        rw [evC_iff.2 ⟨n + 1, hn⟩]
        split
        · rename_i s1 he
          cases he
          exact absurd hn (hno s1)
        · rfl
  · split at hr
    · rename_i s1 h1
      obtain ⟨n1, g1⟩ := evC_iff.1 h1
      obtain ⟨n2, g2⟩ := evC_iff.1 hr
      refine evC_iff.2 ⟨max n1 n2 + 1, ?_⟩
      simp only [evCode, evLoop, evCode_up (show n1 ≤ max n1 n2 + 1 by omega) g1]
      simp only [evCode] at g2
      exact evLoop_le (fun s r h => evCode_up (show n2 ≤ max n1 n2 + 1 by omega) h) (Nat.le_max_right n1 n2) g2
    · rename_i hno
      obtain ⟨n, hn⟩ := evC_iff.1 hr
      refine evC_iff.2 ⟨n + 1, ?_⟩
      simp only [evCode, evLoop]
      rw [evCode_up (Nat.le_succ n) hn]
      split
      · rename_i s1 he
        cases he
        exact absurd hr (hno s1)
      · rfl

/-- a function, by its code -/
noncomputable def evB (cfg : Cfg) (fn : IFunc) (dep : Nat) (vs : List V) (m : List (Cel × V)) : Option (V × List (Cel × V)) :=
  if vs.length = fn.arity ∧ argsOk vs m then
    match evC cfg dep fn.body ⟨entry 0 vs, m⟩ with
    | some (.normal, s) | some (.ret, s) => (resAll dep s.get fn.results).bind fun v => leaveR dep v s.mem
    | _ => none
  else none

theorem evL_fn {f : FuncId} {fn : IFunc} (hx : cfg.ext f = none) (hf : cfg.funcs f = some fn) (dep : Nat) (vs : List V) (m : List (Cel × V)) : evL cfg f dep vs m = evB cfg fn dep vs m := by
  refine ext_some (fun r hr => ?_) (fun r hr => ?_)
  · obtain ⟨n, hn⟩ := evL_iff.1 hr
    cases n with
    | zero => cases hn
    | succ n =>
      simp only [evFn, hx, hf] at hn
      have h2 := evBody_le (evFn_evL cfg n) (Nat.le_refl n) hn
      unfold evBody at h2
      unfold evB
      split at h2
      · rename_i hc
        rw [if_pos hc]
        split at h2
        · rename_i s h1
          rw [evC_iff.2 ⟨n, h1⟩]
          exact h2
        · rename_i s h1
          rw [evC_iff.2 ⟨n, h1⟩]
          exact h2
        · cases h2
      · cases h2
  · unfold evB at hr
    have key : ∀ {n : Nat} {e s}, evCode cfg (evL cfg) dep n fn.body ⟨entry 0 vs, m⟩ = some (e, s) → (vs.length = fn.arity ∧ argsOk vs m = true) → (e = .normal ∨ e = .ret) → ((resAll dep s.get fn.results).bind fun v => leaveR dep v s.mem) = some r → evL cfg f dep vs m = some r := by
      intro n e s h1 hc he h2
      obtain ⟨k, hk⟩ := evCode_on fn.body h1
      refine evL_iff.2 ⟨max k n + 1, ?_⟩
      simp only [evFn, hx, hf]
      unfold evBody
      rw [if_pos hc, evCode_le (evFn_le cfg (Nat.le_max_left k n)) (Nat.le_max_right k n) fn.body hk]
      rcases he with rfl | rfl <;> exact h2
    split at hr
    · rename_i hc
      split at hr
      · rename_i s h1
        obtain ⟨n, hn⟩ := evC_iff.1 h1
        exact key hn hc (.inl rfl) hr
      · rename_i s h1
        obtain ⟨n, hn⟩ := evC_iff.1 h1
        exact key hn hc (.inr rfl) hr
      · cases hr
    · cases hr

theorem evL_ext {f : FuncId} {g} (hx : cfg.ext f = some g) (dep : Nat) (vs : List V) (m : List (Cel × V)) : evL cfg f dep vs m = ((allD vs).bind g).map fun v => (v, m) := by
  refine ext_some (fun r hr => ?_) (fun r hr => ?_)
  · obtain ⟨n, hn⟩ := evL_iff.1 hr
    cases n with
    | zero => cases hn
    | succ n => simpa only [evFn, hx] using hn
  · exact evL_iff.2 ⟨1, by simpa only [evFn, hx] using hr⟩

/-- the limit is sound -/
theorem evL_ok {P : Program} (hm : P.follows .mixedOrders = true) (hC : CfgOk P cfg) (hF : FuncsOk P cfg) (hX : ExtOk P cfg) : OrcOk P cfg (evL cfg) :=
  fun f dep vs m r m' h x w args E => by
    obtain ⟨n, hn⟩ := evL_iff.1 h
    exact fn_ok hm hC hF hX n f dep vs m r m' hn x w args E

end
end Go.Ev

/-! EvZo -/
/- Code with what comes behind it. Own work. -/
namespace Go.Ev
open Go

/-- what is still to do -/
inductive Kf where
  | c (c : ICode)
  | b (id : Nat)

/-- where an answer is told, and how deep -/
structure Kx where
  cfg : Cfg
  dep : Nat
  res : List IRes

abbrev Ans := Option (V × List (Cel × V))

def fin (X : Kx) (s : St) : Ans := (resAll X.dep s.get X.res).bind fun v => leaveR X.dep v s.mem

noncomputable def thread (X : Kx) : List Kf → Option (Ex × St) → Ans
  | [], some (.normal, s) => fin X s
  | [], some (.ret, s) => fin X s
  | [], _ => none
  | .c c :: K, some (.normal, s) => thread X K (evC X.cfg X.dep c s)
  | .c _ :: K, r => thread X K r
  | .b id :: K, some (.exit id', s) => if id' = id then thread X K (some (.normal, s)) else thread X K (some (.exit id', s))
  | .b _ :: K, r => thread X K r

noncomputable def go (X : Kx) (K : List Kf) (s : St) : Ans := thread X K (some (.normal, s))
noncomputable def goX (X : Kx) (id : Nat) (K : List Kf) (s : St) : Ans := thread X K (some (.exit id, s))

theorem thread_none (X : Kx) : ∀ K, thread X K none = none
  | [] => rfl
  | .c _ :: K => by rw [thread]; exact thread_none X K; simp
  | .b _ :: K => by rw [thread]; exact thread_none X K; simp

theorem thread_ret (X : Kx) (s : St) : ∀ K, thread X K (some (.ret, s)) = fin X s
  | [] => rfl
  | .c _ :: K => by rw [thread]; exact thread_ret X s K; simp
  | .b _ :: K => by rw [thread]; exact thread_ret X s K; simp

variable {X : Kx} {K : List Kf} {s : St}

theorem go_nil : go X [] s = fin X s := rfl
theorem go_blk (id : Nat) : go X (.b id :: K) s = go X K s := by unfold go; rw [thread]; simp
theorem go_ret : go X (.c .ret :: K) s = fin X s := by unfold go; rw [thread, evC_ret, thread_ret]
theorem go_skip : go X (.c .skip :: K) s = go X K s := by unfold go; rw [thread, evC_skip]
theorem go_exit (id : Nat) : go X (.c (.exit id) :: K) s = goX X id K s := by unfold go goX; rw [thread, evC_exit]
theorem goX_c (id : Nat) (c : ICode) : goX X id (.c c :: K) s = goX X id K s := by unfold goX; rw [thread]; simp
theorem goX_b (id id' : Nat) : goX X id (.b id' :: K) s = if id = id' then go X K s else goX X id K s := by unfold goX go; rw [thread]
theorem goX_same (id : Nat) : goX X id (.b id :: K) s = go X K s := by rw [goX_b, if_pos rfl]

theorem go_seq (a b : ICode) : go X (.c (.seq a b) :: K) s = go X (.c a :: .c b :: K) s := by
  unfold go
  rw [thread, thread, evC_seq]
  cases h : evC X.cfg X.dep a s with
  | none => rw [thread_none, thread_none]
  | some r =>
    obtain ⟨e, s'⟩ := r
    cases e with
    | normal => rw [thread]
    | ret => rw [thread]; simp
    | exit id => rw [thread]; simp

theorem go_loop (b : ICode) : go X (.c (.loop b) :: K) s = go X (.c b :: .c (.loop b) :: K) s := by
  unfold go
  rw [thread, thread, evC_loop]
  cases h : evC X.cfg X.dep b s with
  | none => rw [thread_none, thread_none]
  | some r =>
    obtain ⟨e, s'⟩ := r
    cases e with
    | normal => rw [thread]
    | ret => rw [thread]; simp
    | exit id => rw [thread]; simp

theorem go_block (id : Nat) (b : ICode) : go X (.c (.block id b) :: K) s = go X (.c b :: .b id :: K) s := by
  unfold go
  rw [thread, thread, evC_block]
  cases h : evC X.cfg X.dep b s with
  | none => rw [thread_none, thread_none]
  | some r =>
    obtain ⟨e, s'⟩ := r
    cases e with
    | normal => rw [thread]; simp
    | ret => rw [thread]; simp
    | exit id' => rw [thread]; simp only; split <;> rfl

theorem go_cond (x : IOpd) (a b : ICode) {t : Bool} (h : val X.cfg s.get x = some (.d (.bool t))) : go X (.c (.cond x a b) :: K) s = if t then go X (.c a :: K) s else go X (.c b :: K) s := by
  unfold go
  rw [thread, thread, thread, evC_cond, h]
  cases t <;> rfl

theorem go_demote (ls : List Nat) : go X (.c (.demote ls) :: K) s = go X K { s with env := ls.foldl (fun e k => demoteE k e) s.env } := by unfold go; rw [thread, evC_demote]
theorem go_free (k : Nat) : go X (.c (.free k) :: K) s = go X K ⟨freeE X.dep k s.env, freeM X.dep k s.mem⟩ := by unfold go; rw [thread, evC_free]

/-- a region, its operations still to do -/
noncomputable def goR (X : Kx) (ops : List IOper) (keep : List Nat) (K : List Kf) (s : St) : Ans :=
  match evOps X.cfg (evL X.cfg) X.dep ops s with
  | some s' => go X K (settle X.dep keep s')
  | none => none

theorem go_region (ops : List IOper) (keep : List Nat) : go X (.c (.region ops [] keep) :: K) s = goR X ops keep K s := by
  unfold go goR
  rw [thread, evC_region, evRegion]
  cases evOps X.cfg (evL X.cfg) X.dep ops s with
  | none => exact thread_none _ _
  | some s' => rfl

theorem go_regionU (ops : List IOper) (p : Nat × Nat) (un : List (Nat × Nat)) (keep : List Nat) {l : List (List Loc × List Loc)} {s' : St} (h : evOpsU X.cfg (evL X.cfg) X.dep ops s = some (l, s')) (hu : unordOk l (p :: un) = true) :
    go X (.c (.region ops (p :: un) keep) :: K) s = go X K (settle X.dep keep s') := by
  unfold go
  rw [thread, evC_region]
  unfold evRegion
  simp only [h, hu, if_true]

theorem goR_nil (keep : List Nat) : goR X [] keep K s = go X K (settle X.dep keep s) := rfl

theorem goR_cons (o : IOper) (r : List IOper) (keep : List Nat) {u : List (Loc × V)} (h : stepU X.cfg (evL X.cfg) X.dep s.get o = some u) : goR X (o :: r) keep K s = goR X r keep K (s.upd u) := by
  unfold goR
  rw [evOps, evStep, h]

theorem goR_consM (o : IOper) (r : List IOper) (keep : List Nat) {s' : St} (h : stepM X.cfg (evL X.cfg) X.dep s o = some s') : goR X (o :: r) keep K s = goR X r keep K s' := by
  unfold goR
  rw [evOps, evStep, stepU_none h]
  simp only [h]

/-- a function's answer -/
theorem evL_go {cfg : Cfg} {f : FuncId} {fn : IFunc} (hx : cfg.ext f = none) (hf : cfg.funcs f = some fn) (dep : Nat) (vs : List V) (m : List (Cel × V)) (ha : vs.length = fn.arity) (hp : argsOk vs m = true) :
    evL cfg f dep vs m = go ⟨cfg, dep, fn.results⟩ [.c fn.body] ⟨entry 0 vs, m⟩ := by
  rw [evL_fn hx hf]
  unfold evB
  rw [if_pos ⟨ha, hp⟩]
  unfold go
  rw [thread]
  cases evC cfg dep fn.body ⟨entry 0 vs, m⟩ with
  | none => rfl
  | some r =>
    obtain ⟨e, s⟩ := r
    cases e <;> rfl

end Go.Ev

/-! EvZp -/
/- Rules for reckoning with code. Own work. -/
namespace Go.Ev
open Go

variable {X : Kx} {K : List Kf} {s : St} {cfg : Cfg} {orc : Orc} {dep : Nat}

/-! code -/

noncomputable def goQ (X : Kx) (a b : ICode) (K : List Kf) (s : St) : Option V → Ans
  | some (.d (.bool t)) => if t then go X (.c a :: K) s else go X (.c b :: K) s
  | some (.d .unkB) => thread X K (bothWays (evC X.cfg X.dep a s) (evC X.cfg X.dep b s))
  | _ => none
theorem go_condQ (x : IOpd) (a b : ICode) : go X (.c (.cond x a b) :: K) s = goQ X a b K s (val X.cfg s.get x) := by
  unfold go
  rw [thread, evC_cond]
  generalize val X.cfg s.get x = v
  cases v with
  | none => exact thread_none _ _
  | some v =>
    cases v with
    | d y =>
      cases y with
      | bool t => cases t <;> (simp only [goQ]; unfold go; simp [thread])
      | unkB => rfl
      | _ => exact thread_none _ _
    | _ => exact thread_none _ _
theorem goQ_t (a b : ICode) : goQ X a b K s (some (.d (.bool true))) = go X (.c a :: K) s := rfl
theorem goQ_f (a b : ICode) : goQ X a b K s (some (.d (.bool false))) = go X (.c b :: K) s := rfl
theorem goQ_b (a b : ICode) (t : Bool) : goQ X a b K s (some (.d (.bool t))) = if t then go X (.c a :: K) s else go X (.c b :: K) s := rfl

noncomputable def goC (X : Kx) (o : IOper) (r : List IOper) (keep : List Nat) (K : List Kf) (s : St) : Option (List (Loc × V)) → Ans
  | some u => goR X r keep K (s.upd u)
  | none => match stepM X.cfg (evL X.cfg) X.dep s o with
    | some s' => goR X r keep K s'
    | none => none
theorem goR_step (o : IOper) (r : List IOper) (keep : List Nat) : goR X (o :: r) keep K s = goC X o r keep K s (stepU X.cfg (evL X.cfg) X.dep s.get o) := by
  unfold goR
  rw [evOps]
  unfold goC evStep
  cases stepU X.cfg (evL X.cfg) X.dep s.get o with
  | some u => rfl
  | none =>
    simp only
    cases stepM X.cfg (evL X.cfg) X.dep s o <;> rfl
theorem goC_some (o : IOper) (r : List IOper) (keep : List Nat) (u : List (Loc × V)) : goC X o r keep K s (some u) = goR X r keep K (s.upd u) := rfl
theorem goR_end (keep : List Nat) (e : List (Nat × V)) (m : List (Cel × V)) : goR X [] keep K ⟨e, m⟩ = go X K ⟨settleE X.dep keep e, settleM X.dep m⟩ := rfl

/-! places -/

theorem get_slot (e : List (Nat × V)) (m : List (Cel × V)) (k : Nat) : St.get ⟨e, m⟩ (.slot k) = lk e k := rfl
theorem get_cell (e : List (Nat × V)) (m : List (Cel × V)) (c : Cel) : St.get ⟨e, m⟩ (.cell c) = lk m c := rfl
theorem lk_same {α β : Type} [DecidableEq α] (k : α) (v : β) (r : List (α × β)) : lk ((k, v) :: r) k = some v := by simp [lk]
theorem upd_nil : s.upd [] = s := rfl
theorem upd_slot (e : List (Nat × V)) (m : List (Cel × V)) (k : Nat) (v : V) (u : List (Loc × V)) : St.upd ⟨e, m⟩ ((.slot k, v) :: u) = St.upd ⟨Go.Ev.st e k v, m⟩ u := rfl
theorem upd_cell (e : List (Nat × V)) (m : List (Cel × V)) (c : Cel) (v : V) (u : List (Loc × V)) : St.upd ⟨e, m⟩ ((.cell c, v) :: u) = St.upd ⟨e, Go.Ev.st m c v⟩ u := rfl
theorem put1_some (k : Nat) (v : V) : put1 (some k) v = [(.slot k, v)] := rfl
theorem val_t (s : Get) (k : Nat) : val cfg s (.t k) = s (.slot k) := rfl
theorem val_c (s : Get) (x : D) : val cfg s (.c x) = some (.d x) := rfl
theorem vals_nil (s : Get) : vals cfg s [] = some [] := rfl
theorem vals_cons (s : Get) (x : IOpd) (r : List IOpd) : vals cfg s (x :: r) = (val cfg s x).bind fun v => (vals cfg s r).bind fun vs => some (v :: vs) := by
  rw [vals]
  cases val cfg s x <;> cases vals cfg s r <;> rfl
theorem dats_nil (s : Get) : dats cfg s [] = some [] := rfl
theorem dats_cons (s : Get) (x : IOpd) (r : List IOpd) : dats cfg s (x :: r) = (dat cfg s x).bind fun v => (dats cfg s r).bind fun vs => some (v :: vs) := by
  rw [dats]
  cases dat cfg s x <;> cases dats cfg s r <;> rfl
theorem bind_some {α β : Type} (a : α) (f : α → Option β) : (some a).bind f = f a := rfl

/-! operations -/

theorem U_guard (s : Get) (dst : Option Nat) (k : Nat) (b t : Bool) (op : IOp) (h : s (.slot k) = some (.d (.bool t))) : stepU cfg orc dep s ⟨dst, some (k, b), op⟩ = if t == b then stepU cfg orc dep s ⟨dst, none, op⟩ else some (put1 dst (.d (.tup []))) := by
  unfold stepU
  simp only [guardOk, h]
  cases t <;> cases b <;> rfl
theorem U_guard0 (s : Get) (dst : Option Nat) (k : Nat) (b : Bool) (op : IOp) (h : s (.slot k) = some (.d (.tup []))) : stepU cfg orc dep s ⟨dst, some (k, b), op⟩ = some (put1 dst (.d (.tup []))) := by
  unfold stepU
  simp only [guardOk, h]
def gU (cfg : Cfg) (orc : Orc) (dep : Nat) (s : Get) (dst : Option Nat) (b : Bool) (op : IOp) : Option V → Option (List (Loc × V))
  | some (.d (.bool t)) => if t == b then stepU cfg orc dep s ⟨dst, none, op⟩ else some (put1 dst (.d (.tup [])))
  | some (.d (.tup [])) => some (put1 dst (.d (.tup [])))
  | _ => none
theorem U_g (s : Get) (dst : Option Nat) (k : Nat) (b : Bool) (op : IOp) : stepU cfg orc dep s ⟨dst, some (k, b), op⟩ = gU cfg orc dep s dst b op (s (.slot k)) := by
  unfold gU
  split
  · rename_i t h; exact U_guard s dst k b t op h
  · rename_i h; exact U_guard0 s dst k b op h
  · rename_i h1 h2
    unfold stepU
    have : guardOk s (some (k, b)) = none := by
      unfold guardOk
      split
      · rename_i e; cases e
      · rename_i e
        cases e
        split
        · rename_i t h; exact absurd h (h1 t)
        · rename_i h; exact absurd h h2
        · rfl
    rw [this]
theorem gU_b (s : Get) (dst : Option Nat) (b t : Bool) (op : IOp) : gU cfg orc dep s dst b op (some (.d (.bool t))) = if t == b then stepU cfg orc dep s ⟨dst, none, op⟩ else some (put1 dst (.d (.tup []))) := rfl
theorem gU_t (s : Get) (dst : Option Nat) (op : IOp) : gU cfg orc dep s dst true op (some (.d (.bool true))) = stepU cfg orc dep s ⟨dst, none, op⟩ := rfl
theorem gU_tf (s : Get) (dst : Option Nat) (op : IOp) : gU cfg orc dep s dst true op (some (.d (.bool false))) = some (put1 dst (.d (.tup []))) := rfl
theorem gU_f (s : Get) (dst : Option Nat) (op : IOp) : gU cfg orc dep s dst false op (some (.d (.bool false))) = stepU cfg orc dep s ⟨dst, none, op⟩ := rfl
theorem gU_ft (s : Get) (dst : Option Nat) (op : IOp) : gU cfg orc dep s dst false op (some (.d (.bool true))) = some (put1 dst (.d (.tup []))) := rfl
theorem gU_u (s : Get) (dst : Option Nat) (b : Bool) (op : IOp) : gU cfg orc dep s dst b op (some (.d (.tup []))) = some (put1 dst (.d (.tup []))) := rfl

theorem U_mv (s : Get) (k : Nat) (x : IOpd) : stepU cfg orc dep s ⟨some k, none, .mv x⟩ = (val cfg s x).bind fun v => evMv (some k) x v := rfl
theorem U_asg (s : Get) (k : Nat) (x : IOpd) : stepU cfg orc dep s ⟨some k, none, .asg x⟩ = (val cfg s x).bind fun v => evAsg s (some k) x v := rfl
def evPick (dst : Option Nat) : Option V → Option (List (Loc × V))
  | some (.d x) => some (put1 dst (.d x))
  | _ => none
def pickU (dst : Option Nat) (f : Bool → Option V) : Option V → Option (List (Loc × V))
  | some (.d (.bool t)) => evPick dst (f t)
  | _ => none
theorem pickU_b (dst : Option Nat) (f : Bool → Option V) (t : Bool) : pickU dst f (some (.d (.bool t))) = evPick dst (f t) := rfl
theorem evPick_d (k : Nat) (x : D) : evPick (some k) (some (.d x)) = some [(.slot k, .d x)] := rfl
theorem U_pick (s : Get) (k : Nat) (c a b : IOpd) : stepU cfg orc dep s ⟨some k, none, .pick c a b⟩ = pickU (some k) (fun t => val cfg s (if t then a else b)) (val cfg s c) := by
  show evOp cfg dep s (some k) (.pick c a b) = _
  simp only [evOp]
  generalize val cfg s c = v
  cases v with
  | none => rfl
  | some v =>
    cases v with
    | d y =>
      cases y with
      | bool t => simp only [pickU, evPick]; rfl
      | _ => rfl
    | _ => rfl
theorem U_bin (s : Get) (k : Nat) (op : BinOp) (x y : IOpd) : stepU cfg orc dep s ⟨some k, none, .bin op x y⟩ = match val cfg s x, val cfg s y with
  | some (.d a), some (.d b) => (D.bin op a b).map fun r => [(.slot k, .d r)]
  | _, _ => none := rfl
theorem U_eqn (s : Get) (k : Nat) (n : Bool) (c : ECls) (x y : IOpd) : stepU cfg orc dep s ⟨some k, none, .eqn n c x y⟩ = match val cfg s x, val cfg s y with
  | some a, some b => (V.eqn cfg c a b).map fun r => [(.slot k, .d (.bool (if n then !r else r)))]
  | _, _ => none := rfl
theorem U_isNil (s : Get) (k : Nat) (n : Bool) (x : IOpd) : stepU cfg orc dep s ⟨some k, none, .isNil n x⟩ = (val cfg s x).bind fun v => (evIsNil n v).map fun r => [(.slot k, .d r)] := rfl
theorem U_un (s : Get) (k : Nat) (op : UnOp) (x : IOpd) : stepU cfg orc dep s ⟨some k, none, .un op x⟩ = match val cfg s x with
  | some (.d a) => (D.un op a).map fun r => [(.slot k, .d r)]
  | _ => none := rfl
theorem U_cvInt (s : Get) (j : Nat) (k : IntKind) (x : IOpd) : stepU cfg orc dep s ⟨some j, none, .cvInt k x⟩ = match val cfg s x with
  | some (.d (.int _ n)) => some [(.slot j, .d (.int k (k.wrap n)))]
  | _ => none := rfl
theorem U_b2s (s : Get) (k : Nat) (x : IOpd) : stepU cfg orc dep s ⟨some k, none, .b2s x⟩ = ((val cfg s x).bind (cont s)).bind fun es => (bytesOf? es).map fun b => [(.slot k, .d (.str b))] := rfl
theorem U_load (s : Get) (k : Nat) (z : Option Nat) (x : IOpd) : stepU cfg orc dep s ⟨some k, none, .load z x⟩ = (val cfg s x).bind fun v => evLoad s (some k) z v := rfl
theorem U_store (s : Get) (n : Nat) (a x : IOpd) : stepU cfg orc dep s ⟨none, none, .store n a x⟩ = match val cfg s a, val cfg s x with
  | some a, some v => evStore s n a x v
  | _, _ => none := rfl
theorem U_nilck (s : Get) (k : Nat) (x : IOpd) : stepU cfg orc dep s ⟨some k, none, .nilck x⟩ = (val cfg s x).bind fun v => evNil (some k) v := rfl
theorem U_alloc (s : Get) (k : Nat) (zs : List D) : stepU cfg orc dep s ⟨some k, none, .alloc zs⟩ = if (s (.cell ⟨dep, k, 0⟩)).isSome || zs.isEmpty then none
      else some ((.slot k, .ref dep k 0) :: cells0 dep k 0 (zs.map .d)) := rfl
theorem U_box (s : Get) (k n : Nat) (x : IOpd) : stepU cfg orc dep s ⟨some k, none, .box n x⟩ = (val cfg s x).bind fun v => evBox dep s k n v := by
  show evOp cfg dep s (some k) (.box n x) = _
  simp only [evOp]
  cases val cfg s x <;> rfl
theorem U_build (s : Get) (k : Nat) (zs : List D) (ps : List (Nat × Nat × IOpd)) : stepU cfg orc dep s ⟨some k, none, .build zs ps⟩ = (parts3 cfg s ps).bind fun l => (fillD zs l).map fun cs => [(.slot k, .d (.agg cs))] := rfl
theorem U_lit (s : Get) (k : Nat) (own : Bool) (z n : Nat) (zd : D) (ps : List (Nat × IOpd)) : stepU cfg orc dep s ⟨some k, none, .lit own z n zd ps⟩ = (parts2 cfg s ps).bind fun l =>
    if zd.cells.length = z ∧ n ≤ 1000 ∧ zd.storable then
      (fillE z (List.replicate n zd) l).map fun es => [(.slot k, if n = 0 then .d .nilS else if own then .own true z es else .d (.sl es))] else none := rfl
theorem U_mkI (s : Get) (k : Nat) (t : TypeId) (x : IOpd) : stepU cfg orc dep s ⟨some k, none, .mkI t x⟩ = match val cfg s x with
    | some (.d a) => some [(.slot k, .d (.ifc t a.canon))]
    | some (.ref d j off) => some [(.slot k, .ifc t (.ref d j off))]
    | some (.iptr e 0) => some [(.slot k, .d (.ifc t (.ptr e)))]
    | _ => none := rfl
theorem U_mkS (s : Get) (k z bytes : Nat) (zd : D) (l c : IOpd) : stepU cfg orc dep s ⟨some k, none, .mkS z bytes zd l c⟩ = match (dat cfg s l).bind D.toInt?, (dat cfg s c).bind D.toInt? with
    | some n, some m => if 0 ≤ n ∧ n ≤ m ∧ m ≤ mostEls ∧ bytes ≤ 64 ∧ zd.cells.length = z ∧ zd.storable then some [(.slot k, .own true z (List.replicate n.toNat zd))] else none
    | _, _ => none := rfl
theorem U_slice (s : Get) (k z : Nat) (x : IOpd) (lo hi mx : Option IOpd) : stepU cfg orc dep s ⟨some k, none, .slice z x lo hi mx⟩ = (val cfg s x).bind fun v => evSlice cfg s (some k) z x v lo hi mx := rfl
theorem U_sliceS (s : Get) (k : Nat) (x : IOpd) (lo hi : Option IOpd) : stepU cfg orc dep s ⟨some k, none, .sliceS x lo hi⟩ = match val cfg s x with
    | some (.d (.str b)) => (sbounds cfg s b.length lo hi).map fun (l, h) => [(.slot k, .d (.str ((b.take h).drop l)))]
    | _ => none := rfl
theorem U_fieldA (s : Get) (k off : Nat) (x : IOpd) : stepU cfg orc dep s ⟨some k, none, .fieldA off x⟩ = match val cfg s x with
    | some (.ref d j o) => some [(.slot k, .ref d j (o + off))]
    | some (.bref l i o) => some [(.slot k, .bref l i (o + off))]
    | some (.iptr e o) => some [(.slot k, .iptr e (o + off))]
    | some (.d (.ptr e)) => some [(.slot k, .iptr e off)]
    | _ => none := rfl
theorem U_field (s : Get) (k off : Nat) (z : Option Nat) (x : IOpd) : stepU cfg orc dep s ⟨some k, none, .field off z x⟩ = match val cfg s x with
    | some (.d (.agg cs)) => (ldD z (.agg cs) off).map fun r => [(.slot k, .d r)]
    | _ => none := rfl
theorem U_idxA (s : Get) (k z : Nat) (x i : IOpd) : stepU cfg orc dep s ⟨some k, none, .idxA z x i⟩ = match val cfg s x, (dat cfg s i).bind D.toInt? with
    | some v, some n => evIdx s (some k) z x v n
    | _, _ => none := rfl
theorem U_idxS (s : Get) (k : Nat) (x i : IOpd) : stepU cfg orc dep s ⟨some k, none, .idxS x i⟩ = match val cfg s x, (dat cfg s i).bind D.toInt? with
    | some (.d (.str b)), some n => if n < 0 then none else (b[n.toNat]?).map fun c => [(.slot k, .d (byteD c))]
    | _, _ => none := rfl
theorem U_ext (s : Get) (k : Nat) (x : IOpd) (i : Nat) : stepU cfg orc dep s ⟨some k, none, .ext x i⟩ = match val cfg s x with
    | some (.d (.tup ds)) => (ds[i]?).map fun r => [(.slot k, .d r)]
    | _ => none := rfl
theorem U_lenS (s : Get) (k : Nat) (x : IOpd) : stepU cfg orc dep s ⟨some k, none, .len true x⟩ = match val cfg s x with
    | some (.d (.str b)) => some [(.slot k, .d (.int .i64 b.length))]
    | _ => none := rfl
/-- how long -/
def V.len? : V → Option Nat
  | .d .nilS => some 0
  | .d (.sl es) => some es.length
  | .own _ _ es => some es.length
  | .bor _ _ n => some n
  | _ => none
theorem U_len (s : Get) (k : Nat) (x : IOpd) : stepU cfg orc dep s ⟨some k, none, .len false x⟩ = ((val cfg s x).bind V.len?).map fun n => [(.slot k, .d (.int .i64 n))] := by
  show evOp cfg dep s (some k) (.len false x) = _
  simp only [evOp]
  cases val cfg s x with
  | none => rfl
  | some v =>
    simp only [Option.bind_some]
    unfold V.len?
    split <;> first | rfl | (rename_i h1 h2 h3 h4; split <;> first | rfl | exact absurd rfl h1 | exact absurd rfl (h2 _) | exact absurd rfl (h3 _ _ _) | exact absurd rfl (h4 _ _ _))
theorem U_minmax (s : Get) (k : Nat) (mx : Bool) (xs : List IOpd) : stepU cfg orc dep s ⟨some k, none, .minmax mx xs⟩ = (dats cfg s xs).bind fun l => (minD mx l).map fun r => [(.slot k, .d r)] := rfl
theorem U_append (s : Get) (k z bytes : Nat) (x y : IOpd) : stepU cfg orc dep s ⟨some k, none, .append z bytes x y⟩ = match val cfg s x, (val cfg s y).bind (cont s) with
    | some v, some ys => evAppend s (some k) z bytes x v ys
    | _, _ => none := rfl
theorem U_appendS (s : Get) (k : Nat) (x y : IOpd) : stepU cfg orc dep s ⟨some k, none, .appendS x y⟩ = match val cfg s x, val cfg s y with
    | some v, some (.d (.str b)) => evAppend s (some k) 1 1 x v (b.map byteD)
    | _, _ => none := rfl
theorem U_copy (s : Get) (k z : Nat) (x y : IOpd) : stepU cfg orc dep s ⟨some k, none, .copy z x y⟩ = match val cfg s x, (val cfg s y).bind (cont s) with
    | some v, some ys => evCopy s (some k) z x v ys
    | _, _ => none := rfl
theorem U_tass (s : Get) (k : Nat) (t : TypeId) (zero : D) (ok : Bool) (x : IOpd) : stepU cfg orc dep s ⟨some k, none, .tass t zero ok x⟩ = (val cfg s x).bind fun v => evTass (some k) t zero ok v := rfl
theorem U_call (s : Get) (k : Nat) (own : Bool) (f : FuncId) (args : List IOpd) (hc : clipArg cfg (.call own f args) = none) : stepU cfg orc dep s ⟨some k, none, .call own f args⟩ = (vals cfg s args).bind fun vs => callU orc s (some k) own f vs := by
  unfold stepU
  simp only [guardOk, Option.isNone_some, Bool.false_and, Bool.false_eq_true, if_false, isCallOp, if_true, hc, target]
  cases vals cfg s args <;> rfl
theorem clipArg_none {own : Bool} {f : FuncId} {args : List IOpd} (h : cfg.clip f = false) : clipArg cfg (.call own f args) = none := by
  unfold clipArg
  split
  · rename_i e; cases e; rw [h]; rfl
  · rfl
theorem U_call' (s : Get) (k : Nat) (own : Bool) (f : FuncId) (args : List IOpd) (hc : cfg.clip f = false) : stepU cfg orc dep s ⟨some k, none, .call own f args⟩ = (vals cfg s args).bind fun vs => callU orc s (some k) own f vs :=
  U_call s k own f args (clipArg_none hc)
theorem U_clip (s : Get) (k : Nat) (own : Bool) (f : FuncId) (x : IOpd) (hc : cfg.clip f = true) : stepU cfg orc dep s ⟨some k, none, .call own f [x]⟩ = (val cfg s x).bind fun v => evClip (some k) x v := by
  unfold stepU
  simp only [guardOk, Option.isNone_some, Bool.false_and, Bool.false_eq_true, if_false, isCallOp, if_true, clipArg, hc]

end Go.Ev

/-! EvZq -/
/- Rules for values. Own work. -/
namespace Go.Ev
open Go

attribute [go_sem] go_nil go_blk go_ret go_skip go_exit goX_c goX_b go_seq go_block go_condQ goQ_b go_demote go_free go_region goR_step goC_some goR_end
  get_slot get_cell upd_nil upd_slot upd_cell put1_some val_t val_c vals_nil vals_cons dats_nil dats_cons bind_some U_g gU_b gU_u U_mv U_asg U_pick pickU_b evPick_d U_bin U_eqn U_isNil U_un U_cvInt U_b2s U_load U_store U_nilck U_alloc
  U_box U_build U_lit U_mkI U_mkS U_slice U_sliceS U_fieldA U_field U_idxA U_idxS U_ext U_lenS U_len U_minmax U_append U_appendS U_copy U_tass
  lk st V.home settleM Option.map_some Option.map_none D.toInt? V.len?

section
@[go_sem] theorem can_int (k : IntKind) (n : Int) : (D.int k n).can = (D.int k n) := rfl
@[go_sem] theorem can_bool (b : Bool) : (D.bool b).can = (D.bool b) := rfl
@[go_sem] theorem can_str (t : List UInt8) : (D.str t).can = (D.str t) := rfl
@[go_sem] theorem can_sl (es : List D) : (D.sl es).can = (D.sl es) := rfl
@[go_sem] theorem can_nilP  : D.nilP.can = D.nilP := rfl
@[go_sem] theorem can_nilI  : D.nilI.can = D.nilI := rfl
@[go_sem] theorem can_nilF  : D.nilF.can = D.nilF := rfl
@[go_sem] theorem can_nilM  : D.nilM.can = D.nilM := rfl
@[go_sem] theorem can_ptr (e : D) : (D.ptr e).can = (D.ptr e) := rfl
@[go_sem] theorem can_ifc (u : TypeId) (e : D) : (D.ifc u e).can = (D.ifc u e) := rfl
@[go_sem] theorem can_fn (f : FuncId) : (D.fn f).can = (D.fn f) := rfl
@[go_sem] theorem can_unk  : D.unk.can = D.unk := rfl
@[go_sem] theorem can_unkB  : D.unkB.can = D.unkB := rfl
@[go_sem] theorem can_nilS : D.nilS.can = D.sl [] := rfl
@[go_sem] theorem canA_int (k : IntKind) (n : Int) : (D.int k n).canA = (D.int k n) := rfl
@[go_sem] theorem canA_bool (b : Bool) : (D.bool b).canA = (D.bool b) := rfl
@[go_sem] theorem canA_str (t : List UInt8) : (D.str t).canA = (D.str t) := rfl
@[go_sem] theorem canA_sl (es : List D) : (D.sl es).canA = (D.sl es) := rfl
@[go_sem] theorem canA_nilP  : D.nilP.canA = D.nilP := rfl
@[go_sem] theorem canA_nilI  : D.nilI.canA = D.nilI := rfl
@[go_sem] theorem canA_nilF  : D.nilF.canA = D.nilF := rfl
@[go_sem] theorem canA_nilM  : D.nilM.canA = D.nilM := rfl
@[go_sem] theorem canA_ptr (e : D) : (D.ptr e).canA = (D.ptr e) := rfl
@[go_sem] theorem canA_ifc (u : TypeId) (e : D) : (D.ifc u e).canA = (D.ifc u e) := rfl
@[go_sem] theorem canA_fn (f : FuncId) : (D.fn f).canA = (D.fn f) := rfl
@[go_sem] theorem canA_unk  : D.unk.canA = D.unk := rfl
@[go_sem] theorem canA_unkB  : D.unkB.canA = D.unkB := rfl
@[go_sem] theorem canA_nilS : D.nilS.canA = D.sl [] := rfl
@[go_sem] theorem canon_int (k : IntKind) (n : Int) : (D.int k n).canon = (D.int k n) := rfl
@[go_sem] theorem canon_bool (b : Bool) : (D.bool b).canon = (D.bool b) := rfl
@[go_sem] theorem canon_str (t : List UInt8) : (D.str t).canon = (D.str t) := rfl
@[go_sem] theorem canon_sl (es : List D) : (D.sl es).canon = (D.sl es) := rfl
@[go_sem] theorem canon_nilP  : D.nilP.canon = D.nilP := rfl
@[go_sem] theorem canon_nilI  : D.nilI.canon = D.nilI := rfl
@[go_sem] theorem canon_nilF  : D.nilF.canon = D.nilF := rfl
@[go_sem] theorem canon_nilM  : D.nilM.canon = D.nilM := rfl
@[go_sem] theorem canon_ptr (e : D) : (D.ptr e).canon = (D.ptr e) := rfl
@[go_sem] theorem canon_ifc (u : TypeId) (e : D) : (D.ifc u e).canon = (D.ifc u e) := rfl
@[go_sem] theorem canon_fn (f : FuncId) : (D.fn f).canon = (D.fn f) := rfl
@[go_sem] theorem canon_unk  : D.unk.canon = D.unk := rfl
@[go_sem] theorem canon_unkB  : D.unkB.canon = D.unkB := rfl
@[go_sem] theorem canon_nilS : D.nilS.canon = D.sl [] := rfl
@[go_sem] theorem can_agg (cs : List D) : (D.agg cs).can = .agg cs := rfl
@[go_sem] theorem can_tup (cs : List D) : (D.tup cs).can = .tup cs := rfl
@[go_sem] theorem canA_agg (cs : List D) : (D.agg cs).canA = .agg (cs.map D.can) := rfl
@[go_sem] theorem canon_agg (cs : List D) : (D.agg cs).canon = .agg (cs.map D.can) := rfl
@[go_sem] theorem canon_tup (cs : List D) : (D.tup cs).canon = .tup (cs.map D.canA) := rfl
@[go_sem] theorem cells_agg (cs : List D) : (D.agg cs).cells = cs := rfl
@[go_sem] theorem cells_int (k : IntKind) (n : Int) : (D.int k n).cells = [.int k n] := rfl
@[go_sem] theorem cells_bool (b : Bool) : (D.bool b).cells = [.bool b] := rfl
@[go_sem] theorem cells_str (b : List UInt8) : (D.str b).cells = [.str b] := rfl
@[go_sem] theorem cells_sl (es : List D) : (D.sl es).cells = [.sl es] := rfl
@[go_sem] theorem cells_nilS : D.nilS.cells = [.nilS] := rfl
@[go_sem] theorem cells_nilP : D.nilP.cells = [.nilP] := rfl
@[go_sem] theorem cells_nilI : D.nilI.cells = [.nilI] := rfl
@[go_sem] theorem cells_nilF : D.nilF.cells = [.nilF] := rfl
@[go_sem] theorem cells_nilM : D.nilM.cells = [.nilM] := rfl
@[go_sem] theorem cells_ptr (e : D) : (D.ptr e).cells = [.ptr e] := rfl
@[go_sem] theorem cells_ifc (t : TypeId) (e : D) : (D.ifc t e).cells = [.ifc t e] := rfl
@[go_sem] theorem cells_fn (f : FuncId) : (D.fn f).cells = [.fn f] := rfl
@[go_sem] theorem cells_unk : D.unk.cells = [.unk] := rfl
end
variable {cfg : Cfg} {s : Get} {dep : Nat}

@[go_sem] theorem settleE_nil (e : List (Nat × V)) : settleE dep [] e = [] := rfl
def setK (dep k : Nat) (r : List Nat) (e : List (Nat × V)) : Option V → List (Nat × V)
  | some v => (k, v.home dep) :: settleE dep r e
  | none => settleE dep r e
@[go_sem] theorem settleE_cons (k : Nat) (r : List Nat) (e : List (Nat × V)) : settleE dep (k :: r) e = setK dep k r e (lk e k) := by
  unfold setK
  rw [settleE]
  cases lk e k <;> rfl
@[go_sem] theorem setK_some (k : Nat) (r : List Nat) (e : List (Nat × V)) (v : V) : setK dep k r e (some v) = (k, v.home dep) :: settleE dep r e := rfl
@[go_sem] theorem setK_none (k : Nat) (r : List Nat) (e : List (Nat × V)) : setK dep k r e none = settleE dep r e := rfl
@[go_sem] theorem upTo_ref (n d k o : Nat) : V.upTo n (.ref d k o) = decide (d < n) := rfl
@[go_sem] theorem upTo_d (n : Nat) (x : D) : V.upTo n (.d x) = true := rfl
@[go_sem] theorem upTo_iptr (n : Nat) (x : D) (o : Nat) : V.upTo n (.iptr x o) = true := rfl
@[go_sem] theorem upTo_junk (n : Nat) : V.upTo n .junk = true := rfl
@[go_sem] theorem upTo_bor (n : Nat) (l : Loc) (a b : Nat) : V.upTo n (.bor l a b) = false := rfl
@[go_sem] theorem upTo_bref (n : Nat) (l : Loc) (a b : Nat) : V.upTo n (.bref l a b) = false := rfl
@[go_sem] theorem upTo_ifc (n : Nat) (t : TypeId) (v : V) : V.upTo n (.ifc t v) = v.upTo n := rfl

section
variable (dst : Option Nat) (x : IOpd)
@[go_sem] theorem evMv_d (y : D) : evMv dst x (.d y) = some (put1 dst (.d y)) := by cases x <;> rfl
@[go_sem] theorem evMv_ref (d k o : Nat) : evMv dst x (.ref d k o) = some (put1 dst (.ref d k o)) := by cases x <;> rfl
@[go_sem] theorem evMv_iptr (e : D) (o : Nat) : evMv dst x (.iptr e o) = some (put1 dst (.iptr e o)) := by cases x <;> rfl
@[go_sem] theorem evMv_bref (l : Loc) (i o : Nat) : evMv dst x (.bref l i o) = some (put1 dst (.bref l i o)) := by cases x <;> rfl
@[go_sem] theorem evMv_bor (l : Loc) (i o : Nat) : evMv dst x (.bor l i o) = some (put1 dst (.bor l i o)) := by cases x <;> rfl
@[go_sem] theorem evMv_ifc (t : TypeId) (v : V) : evMv dst x (.ifc t v) = some (put1 dst (.ifc t v)) := by cases x <;> rfl
@[go_sem] theorem evMv_clo (f : FuncId) (a b : List V) : evMv dst x (.clo f a b) = some (put1 dst (.clo f a b)) := by cases x <;> rfl
@[go_sem] theorem evMv_ownF (k z : Nat) (es : List D) : evMv dst (.t k) (.own false z es) = some (put1 dst (.bor (.slot k) 0 es.length)) := rfl
@[go_sem] theorem evMv_ownT (k z : Nat) (es : List D) : evMv dst (.t k) (.own true z es) = some (put1 dst (.own true z es) ++ [(.slot k, .junk)]) := rfl

@[go_sem] theorem evAsg_d (y : D) : evAsg s dst x (.d y) = some (put1 dst (.d y)) := by cases x <;> rfl
@[go_sem] theorem evAsg_ref (d k o : Nat) : evAsg s dst x (.ref d k o) = some (put1 dst (.ref d k o)) := by cases x <;> rfl
@[go_sem] theorem evAsg_iptr (e : D) (o : Nat) : evAsg s dst x (.iptr e o) = some (put1 dst (.iptr e o)) := by cases x <;> rfl
@[go_sem] theorem evAsg_ifc (t : TypeId) (v : V) : evAsg s dst x (.ifc t v) = some (put1 dst (.ifc t v)) := by cases x <;> rfl
@[go_sem] theorem evAsg_clo (f : FuncId) (a b : List V) : evAsg s dst x (.clo f a b) = some (put1 dst (.clo f a b)) := by cases x <;> rfl
@[go_sem] theorem evAsg_own (nw : Bool) (k z : Nat) (es : List D) : evAsg s dst (.t k) (.own nw z es) = some (put1 dst (.own true z es) ++ [(.slot k, .junk)]) := rfl
/-- what a borrowed piece is a piece of -/
def borQ (dst : Option Nat) (l : Loc) (off n : Nat) : Option V → Option (List (Loc × V))
  | some (.own false z es) => if off = 0 ∧ n = es.length then
        (if dst.map Loc.slot = some l then some [(l, .own true z es)] else some (put1 dst (.own true z es) ++ [(l, .junk)])) else none
  | _ => none
@[go_sem] theorem evAsg_bor (l : Loc) (off n : Nat) : evAsg s dst x (.bor l off n) = borQ dst l off n (s l) := by
  cases x <;> (simp only [evAsg]; unfold borQ; rfl)
@[go_sem] theorem borQ_own (l : Loc) (z : Nat) (es : List D) : borQ dst l 0 es.length (some (.own false z es)) = if dst.map Loc.slot = some l then some [(l, .own true z es)] else some (put1 dst (.own true z es) ++ [(l, .junk)]) := by
  unfold borQ
  simp

@[go_sem] theorem evLoad_iptr (z : Option Nat) (e : D) (off : Nat) : evLoad s dst z (.iptr e off) = (ldD z e off).map fun x => put1 dst (.d x) := rfl
@[go_sem] theorem evLoad_ptr (z : Option Nat) (e : D) : evLoad s dst z (.d (.ptr e)) = (ldD z e 0).map fun x => put1 dst (.d x) := rfl
def brefQ (dst : Option Nat) (z : Option Nat) (i off : Nat) : Option V → Option (List (Loc × V))
  | some (.own false _ es) => (es[i]?).bind fun e => (ldD z e off).map fun x => put1 dst (.d x)
  | _ => none
@[go_sem] theorem evLoad_bref (z : Option Nat) (l : Loc) (i off : Nat) : evLoad s dst z (.bref l i off) = brefQ dst z i off (s l) := by unfold brefQ; simp only [evLoad]; rfl
@[go_sem] theorem brefQ_own (z : Option Nat) (i off z' : Nat) (es : List D) : brefQ dst z i off (some (.own false z' es)) = (es[i]?).bind fun e => (ldD z e off).map fun x => put1 dst (.d x) := rfl
def refQ (dst : Option Nat) (d k off : Nat) : Option V → Option (List (Loc × V))
  | some (.own false _ es) => some (put1 dst (.bor (.cell ⟨d, k, off⟩) 0 es.length))
  | some v => if v.plainV then some (put1 dst v) else none
  | none => none
@[go_sem] theorem evLoad_ref (d k off : Nat) : evLoad s dst none (.ref d k off) = refQ dst d k off (s (.cell ⟨d, k, off⟩)) := by unfold refQ; simp only [evLoad]; rfl
@[go_sem] theorem refQ_own (d k off z : Nat) (es : List D) : refQ dst d k off (some (.own false z es)) = some (put1 dst (.bor (.cell ⟨d, k, off⟩) 0 es.length)) := rfl
@[go_sem] theorem refQ_d (d k off : Nat) (y : D) : refQ dst d k off (some (.d y)) = some (put1 dst (.d y)) := rfl
@[go_sem] theorem refQ_ref (d k off a b c : Nat) : refQ dst d k off (some (.ref a b c)) = some (put1 dst (.ref a b c)) := rfl
@[go_sem] theorem refQ_iptr (d k off : Nat) (e : D) (o : Nat) : refQ dst d k off (some (.iptr e o)) = some (put1 dst (.iptr e o)) := rfl
@[go_sem] theorem evLoad_refN (d k off n : Nat) : evLoad s dst (some n) (.ref d k off) = (gather s d k off n).map fun (cs, u) => u ++ put1 dst (.d (.agg cs)) := rfl
@[go_sem] theorem ldD_none (e : D) (off : Nat) : ldD none e off = e.cells[off]? := rfl
@[go_sem] theorem ldD_some (z : Nat) (e : D) (off : Nat) : ldD (some z) e off = if off + z ≤ e.cells.length then some (.agg ((e.cells.drop off).take z)) else none := rfl
end

@[go_sem] theorem dat_def (x : IOpd) : dat cfg s x = (val cfg s x).bind V.asD := rfl
@[go_sem] theorem asD_d (x : D) : V.asD (.d x) = some x.canon := rfl
@[go_sem] theorem asD_iptr (e : D) : V.asD (.iptr e 0) = some (.ptr e) := rfl
@[go_sem] theorem cont_nilS : cont s (.d .nilS) = some [] := rfl
@[go_sem] theorem cont_sl (es : List D) : cont s (.d (.sl es)) = some es := rfl
@[go_sem] theorem cont_own (nw : Bool) (z : Nat) (es : List D) : cont s (.own nw z es) = some es := rfl
def contQ (off n : Nat) : Option V → Option (List D)
  | some (.own false _ es) => some ((es.drop off).take n)
  | _ => none
@[go_sem] theorem cont_bor (l : Loc) (off n : Nat) : cont s (.bor l off n) = contQ off n (s l) := by unfold contQ; simp only [cont]; rfl
@[go_sem] theorem contQ_own (off n z : Nat) (es : List D) : contQ off n (some (.own false z es)) = some ((es.drop off).take n) := rfl

/-! calls -/
@[go_sem] theorem argsD_nil : argsD s [] = some ([], false) := rfl
@[go_sem] theorem argsD_cons (v : V) (r : List V) : argsD s (v :: r) = (argD s v).bind fun (x, a) => (argsD s r).bind fun (xs, b) => some (x :: xs, a || b) := by
  rw [argsD]
  cases argD s v <;> cases argsD s r <;> rfl
@[go_sem] theorem argD_d (x : D) : argD s (.d x) = some (x.canon, false) := rfl
@[go_sem] theorem argD_iptr (e : D) : argD s (.iptr e 0) = some (.ptr e, false) := rfl
@[go_sem] theorem argD_own (nw : Bool) (z : Nat) (es : List D) : argD s (.own nw z es) = some (.sl es, true) := rfl
def argQ (off n : Nat) : Option V → Option (D × Bool)
  | some (.own false _ es) => some (.sl ((es.drop off).take n), true)
  | _ => none
@[go_sem] theorem argD_bor (l : Loc) (off n : Nat) : argD s (.bor l off n) = argQ off n (s l) := by unfold argQ; simp only [argD]; rfl
@[go_sem] theorem argQ_own (off n z : Nat) (es : List D) : argQ off n (some (.own false z es)) = some (.sl ((es.drop off).take n), true) := rfl
def callQ (dst : Option Nat) (own shared : Bool) : Ans → Option (List (Loc × V))
  | some (r, _) => landed dst own shared r
  | none => none
@[go_sem] theorem callU_def (orc : Orc) (dst : Option Nat) (own : Bool) (f : FuncId) (vs : List V) : callU orc s dst own f vs = (argsD s vs).bind fun (ds, shared) => callQ dst own shared (orc f 0 (ds.map .d) []) := by
  unfold callU callQ
  cases argsD s vs with
  | none => rfl
  | some p => obtain ⟨ds, sh⟩ := p; simp only [Option.bind_some]; split <;> simp_all
@[go_sem] theorem callQ_some (dst : Option Nat) (own shared : Bool) (r : V) (m : List (Cel × V)) : callQ dst own shared (some (r, m)) = landed dst own shared r := rfl
@[go_sem] theorem landed_d (dst : Option Nat) (own shared : Bool) (r : D) : landed dst own shared (.d r) = if shared && !r.plain then none else some (put1 dst (.d (if own then r else r.canon))) := rfl
@[go_sem] theorem landed_own (dst : Option Nat) (own shared nw : Bool) (z : Nat) (es : List D) : landed dst own shared (.own nw z es) = if shared && !D.plains es then none else some (put1 dst (if own then .own true z es else .d (.sl es))) := rfl
attribute [go_sem] D.plain D.plains

/-! ends -/
@[go_sem] theorem fin_def (X : Kx) (t : St) : fin X t = (resAll X.dep t.get X.res).bind fun v => leaveR X.dep v t.mem := rfl
@[go_sem] theorem resAll_one (r : IRes) : resAll dep s [r] = resV dep s r := rfl
@[go_sem] theorem resAll_two (p q : IRes) (r : List IRes) : resAll dep s (p :: q :: r) = (resD dep s (p :: q :: r)).map fun ds => .d (.tup ds) := rfl
@[go_sem] theorem resAll_nil : resAll dep s [] = some (.d (.tup [])) := rfl
@[go_sem] theorem resD_nil : resD dep s [] = some [] := rfl
@[go_sem] theorem resD_cons (r : IRes) (rs : List IRes) : resD dep s (r :: rs) = ((resV dep s r).bind resCell).bind fun d => (resD dep s rs).bind fun ds => some (d :: ds) := by
  rw [resD]
  cases (resV dep s r).bind resCell <;> cases resD dep s rs <;> rfl
def resQ : Option V → Option V
  | some (.own _ z es) => some (.own false z es)
  | some v => if v.plainV then some v else none
  | none => none
@[go_sem] theorem resV_t (k : Nat) : resV dep s (.t k) = resQ (s (.slot k)) := by
  simp only [resV]; unfold resQ; rfl
@[go_sem] theorem resQ_d (x : D) : resQ (some (.d x)) = some (.d x) := rfl
@[go_sem] theorem resQ_own (nw : Bool) (z : Nat) (es : List D) : resQ (some (.own nw z es)) = some (.own false z es) := rfl
@[go_sem] theorem resQ_iptr (e : D) (o : Nat) : resQ (some (.iptr e o)) = some (.iptr e o) := rfl
@[go_sem] theorem resCell_d (x : D) : resCell (.d x) = some x.canon := rfl
@[go_sem] theorem resCell_own (nw : Bool) (z : Nat) (es : List D) : resCell (.own nw z es) = some (.sl es) := rfl
@[go_sem] theorem resCell_iptr (e : D) : resCell (.iptr e 0) = some (.ptr e) := rfl
@[go_sem] theorem leaveR_def (v : V) (m : List (Cel × V)) : leaveR dep v m = if v.upTo dep then some (v, leaveM dep m) else none := rfl
@[go_sem] theorem upTo_own (n : Nat) (nw : Bool) (z : Nat) (es : List D) : V.upTo n (.own nw z es) = true := rfl
attribute [go_sem] leaveM entry

/-! arithmetic -/
@[go_sem] theorem bin_ii (op : BinOp) (k k' : IntKind) (a b : Int) : D.bin op (.int k a) (.int k' b) = intBin op k a k' b := rfl
@[go_sem] theorem bin_ss (op : BinOp) (a b : List UInt8) : D.bin op (.str a) (.str b) = strBin op a b := rfl
section
variable (k : IntKind) (a b : Int)
@[go_sem] theorem ib_add : intBin .add k a k b = some (.int k (k.wrap (a + b))) := by simp [intBin]
@[go_sem] theorem ib_sub : intBin .sub k a k b = some (.int k (k.wrap (a - b))) := by simp [intBin]
@[go_sem] theorem ib_mul : intBin .mul k a k b = some (.int k (k.wrap (a * b))) := by simp [intBin]
@[go_sem] theorem ib_eql : intBin .eql k a k b = some (.bool (a == b)) := by simp [intBin]
@[go_sem] theorem ib_neq : intBin .neq k a k b = some (.bool (a != b)) := by simp [intBin]
@[go_sem] theorem ib_lss : intBin .lss k a k b = some (.bool (decide (a < b))) := by simp [intBin]
@[go_sem] theorem ib_leq : intBin .leq k a k b = some (.bool (decide (a ≤ b))) := by simp [intBin]
@[go_sem] theorem ib_gtr : intBin .gtr k a k b = some (.bool (decide (a > b))) := by simp [intBin]
@[go_sem] theorem ib_geq : intBin .geq k a k b = some (.bool (decide (a ≥ b))) := by simp [intBin]
end
theorem ib_quo (k : IntKind) (a : Int) {b : Int} (h : b ≠ 0) : intBin .quo k a k b = some (.int k (k.wrap (a.tdiv b))) := by simp [intBin, h]
theorem ib_rem (k : IntKind) (a : Int) {b : Int} (h : b ≠ 0) : intBin .rem k a k b = some (.int k (a.tmod b)) := by simp [intBin, h]
/-- bit by bit -/
def andI (k : IntKind) (a b : Int) : Int := k.wrap (BitVec.ofInt k.bits a &&& BitVec.ofInt k.bits b).toNat
def orI (k : IntKind) (a b : Int) : Int := k.wrap (BitVec.ofInt k.bits a ||| BitVec.ofInt k.bits b).toNat
def xorI (k : IntKind) (a b : Int) : Int := k.wrap (BitVec.ofInt k.bits a ^^^ BitVec.ofInt k.bits b).toNat
def shlI (k : IntKind) (a b : Int) : Int := k.wrap (a * 2 ^ (min b.toNat k.bits))
def shrI (k : IntKind) (a b : Int) : Int := a.fdiv (2 ^ (min b.toNat k.bits))
theorem ib_shl (k k' : IntKind) (a : Int) {b : Int} (h : 0 ≤ b) : intBin .shl k a k' b = some (.int k (shlI k a b)) := by simp [intBin, shlI]; omega
theorem ib_shr (k k' : IntKind) (a : Int) {b : Int} (h : 0 ≤ b) : intBin .shr k a k' b = some (.int k (shrI k a b)) := by simp [intBin, shrI]; omega
@[go_sem] theorem ib_and (k : IntKind) (a b : Int) : intBin .and k a k b = some (.int k (andI k a b)) := by simp [intBin, andI]
@[go_sem] theorem ib_or (k : IntKind) (a b : Int) : intBin .or k a k b = some (.int k (orI k a b)) := by simp [intBin, orI]
@[go_sem] theorem ib_xor (k : IntKind) (a b : Int) : intBin .xor k a k b = some (.int k (xorI k a b)) := by simp [intBin, xorI]
@[go_sem] theorem un_not (b : Bool) : D.un .not (.bool b) = some (.bool !b) := rfl
@[go_sem] theorem un_neg (k : IntKind) (n : Int) : D.un .neg (.int k n) = some (.int k (k.wrap (0 - n))) := rfl
section
variable (a b : List UInt8)
@[go_sem] theorem sb_eql : strBin .eql a b = some (.bool (a == b)) := rfl
@[go_sem] theorem sb_neq : strBin .neq a b = some (.bool !(a == b)) := rfl
@[go_sem] theorem sb_lss : strBin .lss a b = some (.bool (Go.Op.bytesLess a b)) := rfl
@[go_sem] theorem sb_geq : strBin .geq a b = some (.bool !(Go.Op.bytesLess a b)) := rfl
end
theorem wrap_i64 {n : Int} (h1 : -9223372036854775808 ≤ n) (h2 : n < 9223372036854775808) : IntKind.i64.wrap n = n := by
  simp [IntKind.wrap, IntKind.signed, IntKind.bits, BitVec.toInt_ofInt, Int.bmod_def]
  omega

theorem wrap_u64 {n : Int} (h1 : 0 ≤ n) (h2 : n < 18446744073709551616) : IntKind.u64.wrap n = n := by
  simp [IntKind.wrap, IntKind.signed, IntKind.bits]
  omega

theorem shrI_eq (k : IntKind) (a : Int) (n : Nat) (h : n ≤ k.bits) : shrI k a n = a / 2 ^ n := by
  unfold shrI
  rw [Int.toNat_natCast, Nat.min_eq_left h, Int.fdiv_eq_ediv_of_nonneg _ (Int.le_of_lt (Int.pow_pos (by decide)))]
/-- a mask on a number that is not below nought -/
theorem andI_mask {a : Int} (n : Nat) (hn : n ≤ 63) (h0 : 0 ≤ a) (h1 : a < 18446744073709551616) : andI .u64 a ((2 ^ n - 1 : Nat) : Int) = a % 2 ^ n := by
  obtain ⟨m, rfl⟩ : ∃ m : Nat, a = m := ⟨a.toNat, by omega⟩
  have hp : 2 ^ n - 1 < 2 ^ 64 := by
    have := Nat.pow_le_pow_right (show 2 > 0 by decide) hn
    have : (2 : Nat) ^ 63 < 2 ^ 64 := by decide
    omega
  have e : (BitVec.ofInt 64 (m : Int) &&& BitVec.ofInt 64 ((2 ^ n - 1 : Nat) : Int)).toNat = m % 2 ^ n := by
    rw [BitVec.toNat_and, BitVec.ofInt_natCast, BitVec.ofInt_natCast, BitVec.toNat_ofNat, BitVec.toNat_ofNat, Nat.mod_eq_of_lt (a := m) (by omega), Nat.mod_eq_of_lt hp, Nat.and_two_pow_sub_one_eq_mod]
  have hlt : m % 2 ^ n < 2 ^ n := Nat.mod_lt _ (Nat.two_pow_pos n)
  unfold andI
  show IntKind.u64.wrap ((BitVec.ofInt 64 (m : Int) &&& BitVec.ofInt 64 ((2 ^ n - 1 : Nat) : Int)).toNat : Int) = _
  rw [e, wrap_u64 (by omega) (by omega)]
  simp

/-! pieces, elements -/
theorem evIdx_none (dst : Option Nat) (z : Nat) (x : IOpd) (v : V) {n : Int} (h : n < 0) : evIdx s dst z x v n = none := by simp [evIdx, h]
theorem evIdx_sl (dst : Option Nat) (z : Nat) (x : IOpd) (es : List D) {n : Int} (h : 0 ≤ n) : evIdx s dst z x (.d (.sl es)) n = (es[n.toNat]?).bind fun e => if e.cells.length = z then some (put1 dst (.iptr e 0)) else none := by
  unfold evIdx
  rw [if_neg (by omega)]
@[go_sem] theorem evIdx_slN (dst : Option Nat) (z : Nat) (x : IOpd) (es : List D) (i : Nat) : evIdx s dst z x (.d (.sl es)) (i : Int) = (es[i]?).bind fun e => if e.cells.length = z then some (put1 dst (.iptr e 0)) else none := by
  rw [evIdx_sl _ _ _ _ (by omega)]; simp
attribute [go_sem] List.getElem?_map List.map_cons List.map_nil List.length_cons List.length_nil List.length_map List.getElem?_cons_zero List.getElem?_cons_succ

end Go.Ev

/-! EvZr -/
/- From a row's reading of its arguments to data, and from an answer to the row. Own work. -/
namespace Go.Ev
open Go Go.RowKit

abbrev anyB : Nat → Prop := fun _ => True

/-- cells and what they read as -/
def Rds (w : World) (cs : List Value) (xs : List D) : Prop :=
  cs.length = xs.length ∧ (∀ c ∈ xs, c.isCell = true) ∧ ∀ (i : Nat) v c, cs[i]? = some v → xs[i]? = some c → Rd anyB w v c

/-- what a reading of type t tells of the data -/
def IsF (P : Program) (w : World) (n : Nat) (t : TypeId) (G : List D → Prop) : Prop :=
  ∀ (H : Type) (enc : TypeId × Value → H) (base : Nat) (spare : Nat → Bool) (held : Bool) (cs : List Value) (x : DataW H × List MemPlace), DataW.trod enc P w base spare held n t cs = some x → ∃ xs, Rds w cs xs ∧ G xs

variable {P : Program} {w : World} {n : Nat} {t : TypeId}

theorem Rds.one {v : Value} {d : D} (h : Rd anyB w v d) (hc : d.isCell = true) : Rds w [v] [d] :=
  ⟨rfl, by simpa using hc, fun i v' c h1 h2 => by
    cases i with
    | zero => simp at h1 h2; subst h1; subst h2; exact h
    | succ i => simp at h1⟩

theorem IsF.bool (ht : P.underlying t = some .bool) : IsF P w n t fun xs => ∃ b, xs = [.bool b] := by
  intro H enc base spare held cs x h
  obtain ⟨b, rfl, _⟩ := DataW.trod_bool ht h
  exact ⟨_, Rds.one (.bool b) rfl, b, rfl⟩

theorem IsF.int {k : IntKind} (ht : P.underlying t = some (.int k)) : IsF P w n t fun xs => ∃ m, xs = [.int k m] ∧ (Lit.int k m).wf = true := by
  intro H enc base spare held cs x h
  obtain ⟨m, rfl, _, hw⟩ := DataW.trod_int ht h
  exact ⟨_, Rds.one (.int k m) rfl, m, rfl, hw⟩

theorem IsF.str (ht : P.underlying t = some .string) : IsF P w n t fun xs => ∃ s : List UInt8, xs = [.str s] ∧ s.length ≤ maxLen := by
  intro H enc base spare held cs x h
  obtain ⟨s, rfl, _, hw⟩ := DataW.trod_string ht h
  have e : (⟨s.data.toList.toArray⟩ : ByteArray) = s := by cases s; rfl
  have hl : s.data.toList.length = s.size := by rw [ByteArray.size, Array.length_toList]
  refine ⟨[.str s.data.toList], Rds.one ?_ rfl, _, rfl, by rw [hl]; exact hw⟩
  have := Rd.str (F := anyB) (w := w) s.data.toList
  rwa [e] at this

theorem mapM_at {α β : Type} {f : α → Option β} : ∀ {l : List α} {r : List β}, l.mapM f = some r → l.length = r.length ∧ ∀ (i : Nat) x y, l[i]? = some x → r[i]? = some y → f x = some y
  | [], r, h => by cases h; simp
  | a :: l, r, h => by
    rw [List.mapM_cons] at h
    cases hf : f a with
    | none => rw [hf] at h; cases h
    | some b =>
      cases hl : l.mapM f with
      | none => rw [hf, hl] at h; cases h
      | some bs =>
        rw [hf, hl] at h
        cases h
        obtain ⟨g1, g2⟩ := mapM_at hl
        refine ⟨by simp [g1], fun i x y h1 h2 => ?_⟩
        cases i with
        | zero => simp at h1 h2; subst h1; subst h2; exact hf
        | succ i => exact g2 i x y (by simpa using h1) (by simpa using h2)

theorem cells_at {base : Nat} {a : Addr} {m : Nat} {cs : List Value} (h : w.cells? base a m = some cs) : cs.length = m ∧ ∀ (j : Nat) v, cs[j]? = some v → w.cell? (a.add j) = some v := by
  unfold World.cells? at h
  split at h
  · obtain ⟨g1, g2⟩ := mapM_at h
    refine ⟨by simpa using g1.symm, fun j v hj => ?_⟩
    have hlt : j < (List.range m).length := by rw [g1]; exact (List.getElem?_eq_some_iff.1 hj).1
    exact g2 j j v (by rw [List.getElem?_eq_getElem hlt]; simp) hj
  · cases h

theorem IsF.slice {e : TypeId} {G : List D → Prop} (ht : P.underlying t = some (.slice e)) (hz : P.cellsOf e ≠ 0) (he : ∀ m, m < n → IsF P w m e G) (mk : List D → D) (hmk : ∀ xs, G xs → xs.length = P.cellsOf e → (mk xs).cells = xs) :
    IsF P w n t fun xs => ∃ es : List D, xs = [.sl es] ∧ es.length ≤ maxLen ∧ ∀ d ∈ es, ∃ ys, G ys ∧ ys.length = P.cellsOf e ∧ d = mk ys := by
  intro H enc base spare held cs x h
  rcases DataW.trod_slice ht h with ⟨rfl, _⟩ | ⟨a, len, cap, elems, rest, m, rfl, rfl, _, _, hl, hm, hlen, hel, _, _⟩
  · exact ⟨_, Rds.one (.slA _ _) rfl, [], rfl, by simp, by simp⟩
  · have key : ∀ i, i < len → ∃ cs', ∃ xs : List D, (cs'.length = P.cellsOf e ∧ ∀ (j : Nat) v, cs'[j]? = some v → w.cell? ((a.add (i * P.cellsOf e)).add j) = some v) ∧ Rds w cs' xs ∧ G xs := fun i hi => by
      have h1 := hel i hi
      rw [List.getElem?_eq_getElem (by omega), Option.bind_eq_some_iff] at h1
      obtain ⟨cs', h2, h3⟩ := h1
      obtain ⟨xs, h4, h5⟩ := he m (Nat.lt_succ_self m) H enc base spare held cs' _ h3
      exact ⟨cs', xs, cells_at h2, h4, h5⟩
    by_cases h0 : len = 0
    · subst h0
      exact ⟨_, Rds.one (.slA _ cap) rfl, [], rfl, by simp, by simp⟩
    · obtain ⟨b, o, rfl⟩ : ∃ b o, a = ad3 b o := by
        obtain ⟨cs', xs, ⟨h1, h2⟩, h3, h4⟩ := key 0 (by omega)
        have hlt : 0 < cs'.length := by omega
        have := h2 0 _ (List.getElem?_eq_getElem hlt)
        rw [Nat.zero_mul] at this
        have := World.cell?_spot this
        obtain ⟨b, o, sp⟩ := a
        cases sp with
        | none => exact ⟨b, o, rfl⟩
        | some s => simp [Addr.add] at this
      have hch : ∀ i, ∃ xs : List D, i < len → G xs ∧ xs.length = P.cellsOf e ∧ (∀ c ∈ xs, c.isCell = true) ∧ ∀ (j : Nat) c, xs[j]? = some c → ∃ v, w.cell? (ad3 b (o + i * P.cellsOf e + j)) = some v ∧ Rd anyB w v c := fun i => by
        by_cases hi : i < len
        · obtain ⟨cs', xs, ⟨h1, h2⟩, ⟨h3, h4, h5⟩, h6⟩ := key i hi
          refine ⟨xs, fun _ => ⟨h6, by omega, h4, fun j c hj => ?_⟩⟩
          have hlt : j < cs'.length := by rw [h3]; exact (List.getElem?_eq_some_iff.1 hj).1
          refine ⟨cs'[j], ?_, h5 j _ c (List.getElem?_eq_getElem hlt) hj⟩
          have := h2 j _ (List.getElem?_eq_getElem hlt)
          rw [ad3_add, ad3_add] at this
          exact this
        · exact ⟨[], fun h => absurd h hi⟩
      let es : List D := (List.range len).map fun i => mk (hch i).choose
      have hes : ∀ (i : Nat) d, es[i]? = some d → i < len ∧ d = mk (hch i).choose := fun i d hd => by
        simp only [es, List.getElem?_map, Option.map_eq_some_iff] at hd
        obtain ⟨j, h1, h2⟩ := hd
        have hlt := (List.getElem?_eq_some_iff.1 h1).1
        rw [List.getElem?_eq_getElem hlt] at h1
        simp at h1 hlt
        subst h1
        exact ⟨hlt, h2.symm⟩
      have hcell : ∀ i, i < len → (mk (hch i).choose).cells = (hch i).choose := fun i hi => hmk _ ((hch i).choose_spec hi).1 ((hch i).choose_spec hi).2.1
      refine ⟨[.sl es], Rds.one ?_ rfl, es, rfl, by simp [es]; omega, fun d hd => ?_⟩
      · have := Rd.sl_of (F := anyB) (w := w) (b := b) (o := o) (cap := cap) (z := P.cellsOf e) (es := es) (by simp [es]; omega) (fun d hd => ?_) (fun i d hi => ?_)
        · simpa [es] using this
        · obtain ⟨i, hi⟩ := List.getElem?_of_mem hd
          obtain ⟨h1, rfl⟩ := hes i d hi
          rw [hcell i h1]; exact ((hch i).choose_spec h1).2.1
        · obtain ⟨h1, rfl⟩ := hes i d hi
          have hs := (hch i).choose_spec h1
          refine ⟨by rw [hcell i h1]; exact hs.2.2.1, fun j c hj => ?_⟩
          rw [hcell i h1] at hj
          obtain ⟨v, q1, q2⟩ := hs.2.2.2 j c hj
          exact ⟨v, trivial, q1, q2⟩
      · obtain ⟨i, hi⟩ := List.getElem?_of_mem hd
        obtain ⟨h1, rfl⟩ := hes i d hi
        exact ⟨_, ((hch i).choose_spec h1).1, ((hch i).choose_spec h1).2.1, rfl⟩

end Go.Ev

/-! EvZs -/
/- From an answer to the row. Own work. -/
namespace Go.Ev
open Go Go.RowKit

variable {P : Program} {cfg : Cfg}

/-- nobody owns anything -/
def Cx.none : Cx := ⟨fun _ => Option.none, fun _ _ => 0⟩

theorem enters_none {ds : List D} {args : Array Value} {w : World} (hsz : args.size = ds.length) (hrd : ∀ (i : Nat) v d, args[i]? = some v → ds[i]? = some d → Rd anyB w v d)
    (hg : ∀ n e, cfg.glob n = some e → PtrAt anyB w n 0 e) (hgo : ∀ n ob, cfg.gobj n = some ob → HoldsG w n ob) : Enters cfg Cx.none (ds.map .d) [] args w := by
  have hF : freeB Cx.none = anyB := by funext b; simp [freeB, Cx.none]
  refine ⟨⟨rfl, rfl, fun b h => absurd rfl h, fun l v h => ?_, fun k v h => (by cases h), fun c v h => (by cases h), fun n e h => by rw [hF]; exact hg n e h, fun b h => ?_, fun n ob h => ⟨rfl, hgo n ob h⟩⟩, by simpa using hsz, fun i v y h1 h2 => ?_⟩
  · cases l <;> cases h
  · rcases h with h | ⟨_, h⟩ <;> cases h
  · rw [List.getElem?_map] at h2
    cases hd : ds[i]? with
    | none => rw [hd] at h2; cases h2
    | some d => rw [hd] at h2; cases h2; exact RdV.d _ _ _ (by rw [hF]; exact hrd i v d h1 hd)

/-- an answer of the evaluator is the call's -/
theorem calls_of_evL (hm : P.follows .mixedOrders = true) (hC : CfgOk P cfg) (hF : FuncsOk P cfg) (hX : ExtOk P cfg) {f : FuncId} {F : Func} {c : Code} (hf : P.funcs[f]? = some F) (hname : (F.name == "runtime.NumGoroutine") = false) (hb : F.body = some c)
    {ds : List D} {y : D} (h : evL cfg f 0 (ds.map .d) [] = some (.d y, [])) {args : Array Value} {w : World} (hsz : args.size = ds.length) (hrd : ∀ (i : Nat) v d, args[i]? = some v → ds[i]? = some d → Rd anyB w v d)
    (hg : ∀ n e, cfg.glob n = some e → PtrAt anyB w n 0 e) (hgo : ∀ n ob, cfg.gobj n = some ob → HoldsG w n ob) : Calls P f args w fun e w' => ∃ v, e = .returned v ∧ Rd anyB w' v y ∧ Below w.heap.size w w' := by
  have hd := evL_ok hm hC hF hX f 0 _ [] _ _ h Cx.none w args (enters_none hsz hrd hg hgo)
  rcases hd with ⟨v, w', h1, _⟩ | ⟨_, h2⟩
  · rw [run_enter hf hname hb] at h1
    cases h1
  · refine h2.mono fun e w' he => ?_
    cases e with
    | returned v =>
      obtain ⟨x', L⟩ := he
      have hr : Rd (freeB x') w' v y := RdV.d_inv L.res
      exact ⟨v, rfl, hr.mono fun b o u _ h => ⟨trivial, h⟩, L.fr.io.1, L.fr.io.2.1, L.fr.io.2.2, L.fr.size, fun k hk => (L.fr.same k hk (.inl rfl)).1⟩
    | panicked c => exact he.elim
    | outgrown => exact he.elim

theorem calls_true (hm : P.follows .mixedOrders = true) (hC : CfgOk P cfg) (hF : FuncsOk P cfg) (hX : ExtOk P cfg) {f : FuncId} {F : Func} {c : Code} (hf : P.funcs[f]? = some F) (hname : (F.name == "runtime.NumGoroutine") = false) (hb : F.body = some c)
    {ds : List D} (h : evL cfg f 0 (ds.map .d) [] = some (.d (.bool true), [])) {args : Array Value} {w : World} (hsz : args.size = ds.length) (hrd : ∀ (i : Nat) v d, args[i]? = some v → ds[i]? = some d → Rd anyB w v d)
    (hg : ∀ n e, cfg.glob n = some e → PtrAt anyB w n 0 e) (hgo : ∀ n ob, cfg.gobj n = some ob → HoldsG w n ob) : Calls P f args w fun e w' => e = .returned (.bool true) ∧ Below w.heap.size w w' :=
  (calls_of_evL hm hC hF hX hf hname hb h hsz hrd hg hgo).mono fun e w' ⟨v, h1, h2, h3⟩ => ⟨by rw [h1, h2.bool_inv], h3⟩

/-! what is closed is reckoned -/

theorem evL_of_evFn {n : Nat} {f : FuncId} {d : Nat} {vs : List V} {m : List (Cel × V)} {r} (h : evFn cfg n f d vs m = some r) : evL cfg f d vs m = some r := evL_iff.2 ⟨n, h⟩

/-! the table of functions -/

/-- an entry of the table is the program's -/
def Entry (P : Program) (p : FuncId × IFunc) : Prop := ∃ F ad c, P.funcs[p.1]? = some F ∧ (F.name == "runtime.NumGoroutine") = false ∧ F.body = some c ∧ cFunc P ad F = some p.2

def Entries (P : Program) (l : List (FuncId × IFunc)) : Prop := ∀ p ∈ l, Entry P p
theorem Entries.nil : Entries P [] := fun _ h => by cases h
theorem Entries.cons {p : FuncId × IFunc} {l : List (FuncId × IFunc)} (h : Entry P p) (hl : Entries P l) : Entries P (p :: l) := fun q hq => by
  rcases List.mem_cons.1 hq with rfl | hq
  · exact h
  · exact hl q hq

theorem funcsOk_of {tbl : List (FuncId × IFunc)} (h : ∀ p ∈ tbl, Entry P p) (hc : cfg.funcs = lk tbl) : FuncsOk P cfg := fun f fn hf => by
  rw [hc] at hf
  exact h (f, fn) (lk_mem hf)

theorem Entry.mk' {F : Func} {f : FuncId} {fn : IFunc} {ad : Advice} {c : Code} (hf : P.funcs[f]? = some F) (hb : F.body = some c) (hn : (F.name == "runtime.NumGoroutine") = false) (hk : cFunc P ad F = some fn) : Entry P (f, fn) := ⟨F, ad, c, hf, hn, hb, hk⟩
theorem cFunc_body {F : Func} {fn : IFunc} {ad : Advice} (hk : cFunc P ad F = some fn) : ∃ c, F.body = some c := by
  unfold cFunc at hk
  split at hk
  · exact ⟨_, ‹_›⟩
  · cases hk
theorem Entry.of {F : Func} {f : FuncId} {fn : IFunc} {ad : Advice} (hf : P.funcs[f]? = some F) (hn : (F.name == "runtime.NumGoroutine") = false) (hk : cFunc P ad F = some fn) : Entry P (f, fn) := by
  obtain ⟨c, hb⟩ := cFunc_body hk
  exact .mk' hf hb hn hk

end Go.Ev
