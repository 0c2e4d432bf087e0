/- The evaluator of Go code and its proofs, part 10. Own work. -/
import Derived.Test.YtnabebdceaoiiaaGreatDoorL9
set_option linter.unusedVariables false
set_option linter.unusedSimpArgs false
set_option linter.unusedSectionVars false
/-! EvZn -/
/- More fuel, same answer. Own work. -/
namespace Go.Ev
open Go

def Le (o o' : Orc) : Prop := ∀ f d vs m r, o f d vs m = some r → o' f d vs m = some r

section
variable {cfg : Cfg} {o o' : Orc} {dep : Nat}

theorem p8 (h : Le o o') {s : Get} {dst : Option Nat} {own : Bool} {f : FuncId} {vs : List V} {u} (hu : callU o s dst own f vs = some u) : callU o' s dst own f vs = some u := by
  unfold callU at hu ⊢
  split at hu
  · rename_i ds sh hd
    split at hu
    · rename_i r m hr
      simp only [h _ _ _ _ _ hr]
      exact hu
    · cases hu
  · cases hu

theorem callT_le (h : Le o o') {s : Get} {dst : Option Nat} {own : Bool} {f : FuncId} {args : List IOpd} {u} (hu : callT cfg o s dst own f args = some u) : callT cfg o' s dst own f args = some u := by
  unfold callT at hu ⊢
  simp only [Option.bind_eq_some_iff, Option.map_eq_some_iff] at hu ⊢
  obtain ⟨vs, h1, u', h2, h3⟩ := hu
  exact ⟨vs, h1, u', p8 h h2, h3⟩

theorem ml {s : Get} {dst : Option Nat} {op : IOp} {vs : List V} {u} (hu : callR cfg o s dst op vs = some u) : ∃ own f args ds r, op = .call own f args ∧ argsD s vs = some (ds, true) ∧ o f 0 (ds.map .d) [] = some r ∧ callT cfg o s dst own f args = some u := by
  unfold callR at hu
  split at hu
  · rename_i own f args
    split at hu
    · rename_i ds hd
      split at hu
      · rename_i r hr
        exact ⟨own, f, args, ds, r, rfl, hd, hr, hu⟩
      · cases hu
    · cases hu
  · cases hu

theorem aif {s : Get} {dst : Option Nat} {own : Bool} {f : FuncId} {args : List IOpd} {vs : List V} {ds : List D} {r} (hd : argsD s vs = some (ds, true)) (hr : o f 0 (ds.map .d) [] = some r) :
    callR cfg o s dst (.call own f args) vs = callT cfg o s dst own f args := by
  unfold callR
  simp only [hd, hr]

/-- a call that lends: the answer as it is, or with the arrays given up -/
theorem apg (h : Le o o') {s : Get} {dst : Option Nat} {own : Bool} {f : FuncId} {op : IOp} {vs : List V} (hop : ∀ own' f' args, op = .call own' f' args → f' = f) {u} (hu : (match callU o s dst own f vs with | some u => some u | none => callR cfg o s dst op vs) = some u) :
    (match callU o' s dst own f vs with | some u => some u | none => callR cfg o' s dst op vs) = some u := by
  split at hu
  · rename_i u' h1
    simp only [p8 h h1]
    exact hu
  · rename_i h1
    obtain ⟨own', f', args, ds, r, rfl, hd, hr, ht⟩ := ml hu
    cases hop _ _ _ rfl
    have h2 : callU o' s dst own f vs = none := by
      unfold callU at h1 ⊢
      simp only [hd, hr] at h1
      simp only [hd, h _ _ _ _ _ hr]
      exact h1
    simp only [h2]
    rw [aif hd (h _ _ _ _ _ hr)]
    exact callT_le h ht

theorem callG_le (h : Le o o') {s : Get} {dst : Option Nat} {own : Bool} {f : FuncId} {args : List IOpd} {i : Nat} {u} (hu : callG cfg o s dst own f args i = some u) : callG cfg o' s dst own f args i = some u := by
  unfold callG at hu ⊢
  simp only [Option.bind_eq_some_iff] at hu ⊢
  obtain ⟨ix, hix, v, hv, g, hg, vs, hvs, q, hq, ⟨r, m⟩, hor, hl⟩ := hu
  exact ⟨ix, hix, v, hv, g, hg, vs, hvs, q, hq, ⟨r, m⟩, h _ _ _ _ _ hor, hl⟩

theorem evOpG_le (h : Le o o') {s : Get} {dst : Option Nat} {op : IOp} {u} (hu : evOpG cfg o dep s dst op = some u) : evOpG cfg o' dep s dst op = some u := by
  unfold evOpG at hu ⊢
  split at hu
  · exact callG_le h hu
  · exact hu

theorem pg (h : Le o o') {s : Get} {io : IOper} {u} (hu : stepU cfg o dep s io = some u) : stepU cfg o' dep s io = some u := by
  unfold stepU at hu ⊢
  split at hu
  · cases hu
  · exact hu
  · split at hu
    · cases hu
    · rename_i hno
      rw [if_neg hno]
      split at hu
      · rename_i hcl
        rw [if_pos hcl]
        split at hu
        · exact hu
        · split at hu
          · rename_i own f vs ht
            refine apg h (fun own' f' args e => ?_) hu
            rw [e] at ht
            simp only [target, Option.map_eq_some_iff] at ht
            obtain ⟨_, _, h⟩ := ht
            cases h; rfl
          · cases hu
      · rename_i hcl
        rw [if_neg hcl]; exact evOpG_le h hu

theorem callM_le (h : Le o o') {s : St} {dst : Option Nat} {own : Bool} {f : FuncId} {vs : List V} {s'} (hu : callM o dep s dst own f vs = some s') : callM o' dep s dst own f vs = some s' := by
  unfold callM at hu ⊢
  split at hu
  · rename_i hc
    rw [if_pos hc]
    split at hu
    · rename_i r m hr
      simp only [h _ _ _ _ _ hr]
      exact hu
    · cases hu
  · cases hu

theorem ld {s s' : St} {io : IOper} (hu : stepM cfg o dep s io = some s') : ∃ own f vs, guardOk s.get io.guard = some true ∧ (io.dst.isSome && isCallOp io.op && (clipArg cfg io.op).isNone) = true ∧ target cfg s.get io.op = some (own, f, vs) ∧
    callM o dep s io.dst own f vs = some s' := by
  unfold stepM at hu
  split at hu
  · rename_i hg
    split at hu
    · rename_i hc
      split at hu
      · rename_i own f vs ht
        exact ⟨own, f, vs, hg, hc, ht, hu⟩
      · cases hu
    · cases hu
  · cases hu

theorem stepM_le (h : Le o o') {s s' : St} {io : IOper} (hu : stepM cfg o dep s io = some s') : stepM cfg o' dep s io = some s' := by
  obtain ⟨own, f, vs, hg, hc, ht, hm⟩ := ld hu
  unfold stepM
  simp only [hg, hc, ht, if_true]
  exact callM_le h hm

/-- never both -/
theorem nf {o'' : Orc} {s s' : St} {io : IOper} (hu : stepM cfg o dep s io = some s') : stepU cfg o'' dep s.get io = none := by
  obtain ⟨own, f, vs, hg, hc, ht, hm⟩ := ld hu
  simp only [Bool.and_eq_true, Option.isNone_iff_eq_none] at hc
  obtain ⟨⟨h1, h2⟩, h3⟩ := hc
  have hn : argsD s.get vs = none := by
    unfold callM at hm
    split at hm
    · rename_i hq
      simp only [Bool.and_eq_true, Option.isNone_iff_eq_none] at hq
      exact hq.1
    · cases hm
  unfold stepU
  have h1' : io.dst.isNone = false := by cases hd : io.dst <;> simp_all
  simp only [hg, h1', Bool.false_and, Bool.false_eq_true, if_false, h2, if_true, h3, ht, callU, hn]
  cases hr : callR cfg o'' s.get io.dst io.op vs with
  | none => rfl
  | some u =>
    obtain ⟨_, _, _, _, _, _, hd, _⟩ := ml hr
    rw [hn] at hd; cases hd

theorem xa (h : Le o o') {s s' : St} {io : IOper} (hu : evStep cfg o dep s io = some s') : evStep cfg o' dep s io = some s' := by
  unfold evStep at hu ⊢
  split at hu
  · rename_i u h1
    simp only [pg h h1]
    exact hu
  · simp only [nf (o'' := o') hu]
    exact stepM_le h hu

theorem pz (h : Le o o') : ∀ (l : List IOper) {s s' : St}, evOps cfg o dep l s = some s' → evOps cfg o' dep l s = some s'
  | [], _, _, hu => hu
  | io :: l, s, s', hu => by
    unfold evOps at hu ⊢
    split at hu
    · rename_i s1 h1
      simp only [xa h h1]
      exact pz h l hu
    · cases hu

theorem ma (h : Le o o') : ∀ (l : List IOper) {s : St} {r}, b5 cfg o dep l s = some r → b5 cfg o' dep l s = some r
  | [], _, _, hu => hu
  | io :: l, s, r, hu => by
    unfold b5 at hu ⊢
    split at hu
    · rename_i u h1
      split at hu
      · rename_i l' s' h2
        simp only [pg h h1, ma h l h2]
        exact hu
      · cases hu
    · cases hu

theorem aau (h : Le o o') {l : List IOper} {un : List (Nat × Nat)} {s s' : St} (hu : av cfg o dep l un s = some s') : av cfg o' dep l un s = some s' := by
  unfold av at hu ⊢
  split at hu
  · exact pz h l hu
  · split at hu
    · rename_i l' s1 h1
      simp only [ma h _ h1]
      exact hu
    · cases hu

theorem f8 {f g : St → Option (Ex × St)} (h : ∀ s r, f s = some r → g s = some r) : ∀ {n n' : Nat}, n ≤ n' → ∀ {s : St} {r}, b6 f n s = some r → b6 g n' s = some r
  | 0, _, _, _, _, hu => by cases hu
  | n + 1, n', hn, s, r, hu => by
    obtain ⟨k, rfl⟩ : ∃ k, n' = k + 1 := ⟨n' - 1, by omega⟩
    unfold b6 at hu ⊢
    split at hu
    · rename_i s1 h1
      simp only [h _ _ h1]
      exact f8 h (by omega) hu
    · rename_i hno
      cases hf : f s with
      | none => rw [hf] at hu; cases hu
      | some q =>
        rw [hf] at hu
        cases hu
        rw [h _ _ hf]
        split
        · rename_i s1 he
          cases he
          exact absurd hf (hno s1)
        · rfl

theorem mb {f g : List D → List (Cel × V) → Option (Ex × List (Cel × V))} (h : ∀ x m r, f x m = some r → g x m = some r) : ∀ (l : List (List D)) {m : List (Cel × V)} {r}, evEach f l m = some r → evEach g l m = some r
  | [], _, _, hu => hu
  | x :: l, m, r, hu => by
    unfold evEach at hu ⊢
    split at hu
    · rename_i m1 h1
      simp only [h _ _ _ h1]
      exact mb h l hu
    · rename_i hno
      rw [h _ _ _ hu]
      split
      · rename_i m1 he; cases he; exact absurd hu (hno m1)
      · rfl

theorem ov {ca cb ca' cb' : St → Option (Ex × St)} (ha : ∀ s r, ca s = some r → ca' s = some r) (hb : ∀ s r, cb s = some r → cb' s = some r) {dep : Nat} {ps : List Nat} {e : List (Nat × V)} {x : List D} {m : List (Cel × V)} {r} (h : evRound ca cb dep ps e x m = some r) :
    evRound ca' cb' dep ps e x m = some r := by
  unfold evRound at h ⊢
  split at h
  · rename_i e1 _
    split at h
    · rename_i s1 h1
      simp only [ha _ _ h1]
      split at h
      · rename_i q s2 h2
        simp only [hb _ _ h2]
        exact h
      · cases h
    · cases h
  · cases h

theorem ay (h : Le o o') {n n' : Nat} (hn : n ≤ n') : ∀ (c : ICode) {dep : Nat} {s : St} {r}, evCode cfg o dep n c s = some r → evCode cfg o' dep n' c s = some r := by
  intro c
  induction c with
  | skip => intro dep s r hu; simpa only [evCode] using hu
  | region ops un keep =>
    intro dep s r hu
    simp only [evCode] at hu ⊢
    split at hu
    · rename_i s1 h1
      simp only [aau h h1]
      exact hu
    · cases hu
  | seq a b iha ihb =>
    intro dep s r hu
    simp only [evCode] at hu ⊢
    split at hu
    · rename_i s1 h1
      simp only [iha h1]
      exact ihb hu
    · rename_i hno
      have := iha hu
      rw [this]
      split
      · rename_i s1 he
        cases he
        exact absurd hu (hno s1)
      · rfl
  | cond x a b iha ihb =>
    intro dep s r hu
    simp only [evCode] at hu ⊢
    split at hu
    · split at hu
      · rename_i ht; rw [if_pos ht]; exact iha hu
      · rename_i ht; rw [if_neg ht]; exact ihb hu
    · exact mq (fun r h => iha h) (fun r h => ihb h) hu
    · cases hu
  | block id b ih =>
    intro dep s r hu
    simp only [evCode] at hu ⊢
    split at hu
    · rename_i id' s1 h1
      simp only [ih h1]
      exact hu
    · rename_i hno
      rw [ih hu]
      split
      · rename_i id' s1 he
        cases he
        exact absurd hu (hno _ _)
      · rfl
  | loop b ih =>
    intro dep s r hu
    simp only [evCode] at hu ⊢
    exact f8 (fun s r h => ih h) hn hu
  | exit id => intro dep s r hu; simpa only [evCode] using hu
  | ret => intro dep s r hu; simpa only [evCode] using hu
  | demote ls => intro dep s r hu; simpa only [evCode] using hu
  | give ls => intro dep s r hu; simpa only [evCode] using hu
  | each x ps a b iha ihb =>
    intro dep s r hu
    simp only [evCode] at hu ⊢
    split at hu
    · rename_i l hl
      split at hu
      · rename_i e m h1
        rw [mb (fun x m r h => ov (fun s r h => iha h) (fun s r h => ihb h) h) l h1]
        exact hu
      · cases hu
    · cases hu
  | free k => intro dep s r hu; simpa only [evCode] using hu
  | bad => intro dep s r hu; simp [evCode] at hu

theorem xf (h : Le o o') {n n' : Nat} (hn : n ≤ n') {fn : IFunc} {vs : List V} {m : List (Cel × V)} {r} (hu : evBody cfg o n fn dep vs m = some r) : evBody cfg o' n' fn dep vs m = some r := by
  unfold evBody at hu ⊢
  split at hu
  · rename_i hc
    rw [if_pos hc]
    split at hu
    · rename_i s h1
      simp only [ay h hn _ h1]
      exact hu
    · rename_i s h1
      simp only [ay h hn _ h1]
      exact hu
    · cases hu
  · cases hu

theorem bf (cfg : Cfg) : ∀ {n n' : Nat}, n ≤ n' → Le (evFn cfg n) (evFn cfg n')
  | 0, _, _ => fun _ _ _ _ _ h => by cases h
  | n + 1, n', hn => fun f d vs m r h => by
    obtain ⟨k, rfl⟩ : ∃ k, n' = k + 1 := ⟨n' - 1, by omega⟩
    unfold evFn at h ⊢
    split at h
    · exact h
    · split at h
      · exact xf (bf cfg (by omega)) (by omega) h
      · cases h

/-! the limit -/

open Classical in
noncomputable def Lim {β : Type} (f : Nat → Option β) : Option β := if h : ∃ r n, f n = some r then some h.choose else none

def Up {β : Type} (f : Nat → Option β) : Prop := ∀ n n' r, n ≤ n' → f n = some r → f n' = some r

theorem apz {β : Type} {f : Nat → Option β} (hf : Up f) {r : β} : Lim f = some r ↔ ∃ n, f n = some r := by
  unfold Lim
  constructor
  · intro h
    split at h
    · rename_i hx
      cases h
      exact hx.choose_spec
    · cases h
  · rintro ⟨n, hn⟩
    have hx : ∃ r n, f n = some r := ⟨r, n, hn⟩
    rw [dif_pos hx]
    obtain ⟨k, hk⟩ := hx.choose_spec
    have h1 := hf n (max n k) _ (Nat.le_max_left _ _) hn
    have h2 := hf k (max n k) _ (Nat.le_max_right _ _) hk
    rw [h1] at h2
    exact h2.symm

/-- what a function answers -/
noncomputable def evL (cfg : Cfg) : Orc := fun f d vs m => Lim fun n => evFn cfg n f d vs m

theorem ey {cfg : Cfg} {f : FuncId} {d : Nat} {vs : List V} {m : List (Cel × V)} {r} : evL cfg f d vs m = some r ↔ ∃ n, evFn cfg n f d vs m = some r :=
  apz fun n n' r hn h => bf cfg hn _ _ _ _ _ h

theorem evFn_evL (cfg : Cfg) (n : Nat) : Le (evFn cfg n) (evL cfg) := fun _ _ _ _ _ h => ey.2 ⟨n, h⟩

/-! what the limit answers is answered on the way -/

theorem aie {s : Get} {dst : Option Nat} {own : Bool} {f : FuncId} {vs : List V} {u} (hu : callU (evL cfg) s dst own f vs = some u) : ∃ k, callU (evFn cfg k) s dst own f vs = some u := by
  unfold callU at hu
  split at hu
  · rename_i ds sh hd
    split at hu
    · rename_i r m hr
      obtain ⟨k, hk⟩ := ey.1 hr
      refine ⟨k, ?_⟩
      unfold callU
      simp only [hd, hk]
      exact hu
    · cases hu
  · cases hu

theorem apf {s : Get} {dst : Option Nat} {own : Bool} {f : FuncId} {op : IOp} {vs : List V} (hop : ∀ own' f' args, op = .call own' f' args → f' = f) {u} (hu : (match callU (evL cfg) s dst own f vs with | some u => some u | none => callR cfg (evL cfg) s dst op vs) = some u) :
    ∃ k, (match callU (evFn cfg k) s dst own f vs with | some u => some u | none => callR cfg (evFn cfg k) s dst op vs) = some u := by
  split at hu
  · rename_i u' h1
    obtain ⟨k, hk⟩ := aie h1
    exact ⟨k, by simp only [hk]; exact hu⟩
  · rename_i h1
    obtain ⟨own', f', args, ds, r, rfl, hd, hr, ht⟩ := ml hu
    cases hop _ _ _ rfl
    obtain ⟨k1, hk1⟩ := ey.1 hr
    unfold callT at ht
    simp only [Option.bind_eq_some_iff, Option.map_eq_some_iff] at ht
    obtain ⟨vs', h2, u', h3, h4⟩ := ht
    obtain ⟨k2, hk2⟩ := aie h3
    have g1 := bf cfg (Nat.le_max_left k1 k2) _ _ _ _ _ hk1
    refine ⟨max k1 k2, ?_⟩
    have h5 : callU (evFn cfg (max k1 k2)) s dst own f vs = none := by
      unfold callU at h1 ⊢
      simp only [hd, hr] at h1
      simp only [hd, g1]
      exact h1
    simp only [h5]
    rw [aif hd g1]
    unfold callT
    simp only [Option.bind_eq_some_iff, Option.map_eq_some_iff]
    exact ⟨vs', h2, u', p8 (bf cfg (Nat.le_max_right k1 k2)) hk2, h4⟩

theorem callG_on {s : Get} {dst : Option Nat} {own : Bool} {f : FuncId} {args : List IOpd} {i : Nat} {u} (hu : callG cfg (evL cfg) s dst own f args i = some u) : ∃ k, callG cfg (evFn cfg k) s dst own f args i = some u := by
  unfold callG at hu
  simp only [Option.bind_eq_some_iff] at hu
  obtain ⟨ix, hix, v, hv, g, hg, vs, hvs, q, hq, ⟨r, m⟩, hor, hl⟩ := hu
  obtain ⟨k, hk⟩ := ey.1 hor
  refine ⟨k, ?_⟩
  unfold callG
  simp only [Option.bind_eq_some_iff]
  exact ⟨ix, hix, v, hv, g, hg, vs, hvs, q, hq, ⟨r, m⟩, hk, hl⟩

theorem evOpG_on {s : Get} {dst : Option Nat} {op : IOp} {u} (hu : evOpG cfg (evL cfg) dep s dst op = some u) : ∃ k, evOpG cfg (evFn cfg k) dep s dst op = some u := by
  unfold evOpG at hu
  split at hu
  · obtain ⟨k, hk⟩ := callG_on hu
    exact ⟨k, by simp only [evOpG]; exact hk⟩
  · rename_i hng
    refine ⟨0, ?_⟩
    unfold evOpG
    split
    · rename_i own f args i; exact absurd rfl (hng own f args i)
    · exact hu

theorem abf {s : Get} {io : IOper} {u} (hu : stepU cfg (evL cfg) dep s io = some u) : ∃ k, stepU cfg (evFn cfg k) dep s io = some u := by
  have hu' := hu
  unfold stepU at hu
  split at hu
  · cases hu
  · rename_i hg
    refine ⟨0, ?_⟩
    unfold stepU
    simp only [hg]; exact hu
  · rename_i hg
    split at hu
    · cases hu
    · rename_i hno
      split at hu
      · rename_i hcl
        split at hu
        · rename_i x hx
          refine ⟨0, ?_⟩
          unfold stepU
          simp only [hg, hcl, hx, if_true]
          rw [if_neg hno]; exact hu
        · rename_i hx
          split at hu
          · rename_i own f vs ht
            obtain ⟨k, hk⟩ := apf (fun own' f' args e => by
              rw [e] at ht
              simp only [target, Option.map_eq_some_iff] at ht
              obtain ⟨_, _, h⟩ := ht
              cases h; rfl) hu
            refine ⟨k, ?_⟩
            unfold stepU
            simp only [hg, hcl, hx, ht, if_true]
            rw [if_neg hno]; exact hk
          · cases hu
      · rename_i hcl
        obtain ⟨k, hk⟩ := evOpG_on hu
        refine ⟨k, ?_⟩
        unfold stepU
        simp only [hg]
        rw [if_neg hno, if_neg hcl]; exact hk

theorem aoy {s s' : St} {io : IOper} (hu : evStep cfg (evL cfg) dep s io = some s') : ∃ k, evStep cfg (evFn cfg k) dep s io = some s' := by
  unfold evStep at hu
  split at hu
  · rename_i u h1
    obtain ⟨k, hk⟩ := abf h1
    refine ⟨k, ?_⟩
    unfold evStep
    simp only [hk]; exact hu
  · obtain ⟨own, f, vs, hg, hc, ht, hm⟩ := ld hu
    have hm' := hm
    unfold callM at hm
    split at hm
    · rename_i hq
      split at hm
      · rename_i r m hr
        obtain ⟨k, hk⟩ := ey.1 hr
        have h2 : stepM cfg (evFn cfg k) dep s io = some s' := by
          unfold stepM
          simp only [hg, hc, ht, if_true]
          unfold callM
          rw [if_pos hq]
          simp only [hk]
          exact hm
        refine ⟨k, ?_⟩
        unfold evStep
        simp only [nf (o'' := evFn cfg k) h2]
        exact h2
      · cases hm
    · cases hm

theorem ah3 : ∀ (l : List IOper) {s s' : St}, evOps cfg (evL cfg) dep l s = some s' → ∃ k, evOps cfg (evFn cfg k) dep l s = some s'
  | [], _, _, hu => ⟨0, hu⟩
  | io :: l, s, s', hu => by
    unfold evOps at hu
    split at hu
    · rename_i s1 h1
      obtain ⟨k1, g1⟩ := aoy h1
      obtain ⟨k2, g2⟩ := ah3 l hu
      refine ⟨max k1 k2, ?_⟩
      unfold evOps
      simp only [xa (bf cfg (Nat.le_max_left k1 k2)) g1]
      exact pz (bf cfg (Nat.le_max_right k1 k2)) l g2
    · cases hu

theorem xc : ∀ (l : List IOper) {s : St} {r}, b5 cfg (evL cfg) dep l s = some r → ∃ k, b5 cfg (evFn cfg k) dep l s = some r
  | [], _, _, hu => ⟨0, hu⟩
  | io :: l, s, r, hu => by
    unfold b5 at hu
    split at hu
    · rename_i u h1
      split at hu
      · rename_i l' s1 h2
        obtain ⟨k1, g1⟩ := abf h1
        obtain ⟨k2, g2⟩ := xc l h2
        refine ⟨max k1 k2, ?_⟩
        unfold b5
        simp only [pg (bf cfg (Nat.le_max_left k1 k2)) g1, ma (bf cfg (Nat.le_max_right k1 k2)) l g2]
        exact hu
      · cases hu
    · cases hu

theorem aat {l : List IOper} {un : List (Nat × Nat)} {s s' : St} (hu : av cfg (evL cfg) dep l un s = some s') : ∃ k, av cfg (evFn cfg k) dep l un s = some s' := by
  unfold av at hu
  split at hu
  · exact ah3 l hu
  · split at hu
    · rename_i hno l' s1 h1
      obtain ⟨k, hk⟩ := xc _ h1
      refine ⟨k, ?_⟩
      unfold av
      simp only [hk]
      exact hu
    · cases hu

theorem xd {f : St → Option (Ex × St)} {g : Nat → St → Option (Ex × St)} (hup : ∀ k k', k ≤ k' → ∀ s r, g k s = some r → g k' s = some r) (h : ∀ s r, f s = some r → ∃ k, g k s = some r) : ∀ (n : Nat) {s : St} {r}, b6 f n s = some r → ∃ k, b6 (g k) n s = some r
  | 0, _, _, hu => by cases hu
  | n + 1, s, r, hu => by
    unfold b6 at hu
    split at hu
    · rename_i s1 h1
      obtain ⟨k1, g1⟩ := h _ _ h1
      obtain ⟨k2, g2⟩ := xd hup h n hu
      refine ⟨max k1 k2, ?_⟩
      unfold b6
      simp only [hup _ _ (Nat.le_max_left k1 k2) _ _ g1]
      exact f8 (hup _ _ (Nat.le_max_right k1 k2)) (Nat.le_refl _) g2
    · rename_i hno
      obtain ⟨k, hk⟩ := h _ _ hu
      refine ⟨k, ?_⟩
      unfold b6
      rw [hk]
      split
      · rename_i s1 he
        cases he
        exact absurd hu (hno s1)
      · rfl

theorem xe {f : List D → List (Cel × V) → Option (Ex × List (Cel × V))} {g : Nat → List D → List (Cel × V) → Option (Ex × List (Cel × V))} (hup : ∀ k k', k ≤ k' → ∀ x m r, g k x m = some r → g k' x m = some r) (h : ∀ x m r, f x m = some r → ∃ k, g k x m = some r) :
    ∀ (l : List (List D)) {m : List (Cel × V)} {r}, evEach f l m = some r → ∃ k, evEach (g k) l m = some r
  | [], _, _, hu => ⟨0, hu⟩
  | x :: l, m, r, hu => by
    unfold evEach at hu
    split at hu
    · rename_i m1 h1
      obtain ⟨k1, g1⟩ := h _ _ _ h1
      obtain ⟨k2, g2⟩ := xe hup h l hu
      refine ⟨max k1 k2, ?_⟩
      unfold evEach
      simp only [hup _ _ (Nat.le_max_left k1 k2) _ _ _ g1]
      exact mb (hup _ _ (Nat.le_max_right k1 k2)) l g2
    · rename_i hno
      obtain ⟨k, hk⟩ := h _ _ _ hu
      refine ⟨k, ?_⟩
      unfold evEach
      rw [hk]
      split
      · rename_i m1 he; cases he; exact absurd hu (hno m1)
      · rfl

theorem ao4 {n : Nat} : ∀ (c : ICode) {dep : Nat} {s : St} {r}, evCode cfg (evL cfg) dep n c s = some r → ∃ k, evCode cfg (evFn cfg k) dep n c s = some r := by
  intro c
  induction c with
  | region ops un keep =>
    intro dep s r hu
    simp only [evCode] at hu ⊢
    split at hu
    · rename_i s1 h1
      obtain ⟨k, hk⟩ := aat h1
      exact ⟨k, by simp only [hk]; exact hu⟩
    · cases hu
  | seq a b iha ihb =>
    intro dep s r hu
    simp only [evCode] at hu ⊢
    split at hu
    · rename_i s1 h1
      obtain ⟨k1, g1⟩ := iha h1
      obtain ⟨k2, g2⟩ := ihb hu
      refine ⟨max k1 k2, ?_⟩
      simp only [ay (bf cfg (Nat.le_max_left k1 k2)) (Nat.le_refl n) a g1]
      exact ay (bf cfg (Nat.le_max_right k1 k2)) (Nat.le_refl n) b g2
    · rename_i hno
      obtain ⟨k, hk⟩ := iha hu
      refine ⟨k, ?_⟩
      rw [hk]
      split
      · rename_i s1 he
        cases he
        exact absurd hu (hno s1)
      · rfl
  | cond x a b iha ihb =>
    intro dep s r hu
    simp only [evCode] at hu ⊢
    split at hu
    · split at hu
      · rename_i ht; obtain ⟨k, hk⟩ := iha hu; exact ⟨k, by rw [if_pos ht]; exact hk⟩
      · rename_i ht; obtain ⟨k, hk⟩ := ihb hu; exact ⟨k, by rw [if_neg ht]; exact hk⟩
    · obtain ⟨h1, h2⟩ := cq hu
      obtain ⟨k1, g1⟩ := iha h1
      obtain ⟨k2, g2⟩ := ihb h2
      refine ⟨max k1 k2, ?_⟩
      rw [ay (bf cfg (Nat.le_max_left k1 k2)) (Nat.le_refl n) a g1, ay (bf cfg (Nat.le_max_right k1 k2)) (Nat.le_refl n) b g2]
      rw [h1, h2] at hu
      exact hu
    · cases hu
  | block id b ih =>
    intro dep s r hu
    simp only [evCode] at hu ⊢
    split at hu
    · rename_i id' s1 h1
      obtain ⟨k, hk⟩ := ih h1
      exact ⟨k, by simp only [hk]; exact hu⟩
    · rename_i hno
      obtain ⟨k, hk⟩ := ih hu
      refine ⟨k, ?_⟩
      rw [hk]
      split
      · rename_i id' s1 he
        cases he
        exact absurd hu (hno _ _)
      · rfl
  | loop b ih =>
    intro dep s r hu
    simp only [evCode] at hu ⊢
    exact xd (f := evCode cfg (evL cfg) dep n b) (g := fun k => evCode cfg (evFn cfg k) dep n b) (fun k k' hk s r h => ay (bf cfg hk) (Nat.le_refl n) b h) (fun s r h => ih h) n hu
  | each x ps a b iha ihb =>
    intro dep s r hu
    simp only [evCode] at hu ⊢
    split at hu
    · rename_i l hl
      split at hu
      · rename_i e m h1
        obtain ⟨k, hk⟩ := xe (g := fun k => evRound (evCode cfg (evFn cfg k) (dep + 1) n a) (evCode cfg (evFn cfg k) (dep + 1) n b) dep ps (dropBor dep s.env))
          (fun k k' hk x m r h => ov (fun s r h => ay (bf cfg hk) (Nat.le_refl n) a h) (fun s r h => ay (bf cfg hk) (Nat.le_refl n) b h) h)
          (fun x m r h => by
            obtain ⟨e1, s1, s2, h3, h4, h5, h6⟩ := f7 (e := r.1) (m' := r.2) h
            obtain ⟨k1, g1⟩ := iha h4
            obtain ⟨k2, g2⟩ := ihb h5
            refine ⟨max k1 k2, ?_⟩
            unfold evRound
            simp only [h3, ay (bf cfg (Nat.le_max_left k1 k2)) (Nat.le_refl n) a g1, ay (bf cfg (Nat.le_max_right k1 k2)) (Nat.le_refl n) b g2]
            rw [← h6]) l h1
        exact ⟨k, by rw [hk]; exact hu⟩
      · cases hu
    · cases hu
  | bad => intro dep s r hu; simp [evCode] at hu
  | _ => intro dep s r hu; exact ⟨0, by simpa only [evCode] using hu⟩

/-! without fuel -/

noncomputable def evC (cfg : Cfg) (dep : Nat) (c : ICode) (s : St) : Option (Ex × St) := Lim fun n => evCode cfg (evL cfg) dep n c s

theorem ac {c : ICode} {s : St} {r} : evC cfg dep c s = some r ↔ ∃ n, evCode cfg (evL cfg) dep n c s = some r :=
  apz fun _ _ _ hn h => ay (fun _ _ _ _ _ h => h) hn c h

theorem dq {n n' : Nat} (hn : n ≤ n') {c : ICode} {s : St} {r} (h : evCode cfg (evL cfg) dep n c s = some r) : evCode cfg (evL cfg) dep n' c s = some r := ay (fun _ _ _ _ _ h => h) hn c h

theorem ew {β : Type} {a b : Option β} (h1 : ∀ r, a = some r → b = some r) (h2 : ∀ r, b = some r → a = some r) : a = b := by
  cases a with
  | some r => exact (h1 r rfl).symm
  | none => cases b with
    | some r => exact absurd (h2 r rfl) (by simp)
    | none => rfl

/-- code that needs no fuel -/
theorem ez {c : ICode} {s : St} {X : Option (Ex × St)} (h : ∀ n, evCode cfg (evL cfg) dep n c s = X) : evC cfg dep c s = X :=
  ew (fun r hr => by obtain ⟨n, hn⟩ := ac.1 hr; rw [← h n]; exact hn) (fun r hr => ac.2 ⟨0, by rw [h 0]; exact hr⟩)

theorem evC_skip (s : St) : evC cfg dep .skip s = some (.normal, s) := ez fun n => by simp only [evCode]
theorem evC_exit (id : Nat) (s : St) : evC cfg dep (.exit id) s = some (.exit id, s) := ez fun n => by simp only [evCode]
theorem evC_ret (s : St) : evC cfg dep .ret s = some (.ret, s) := ez fun n => by simp only [evCode]
theorem ajz (ls : List Nat) (s : St) : evC cfg dep (.demote ls) s = some (.normal, { s with env := ls.foldl (fun e k => demoteE k e) s.env }) := ez fun n => by simp only [evCode]
theorem evC_free (k : Nat) (s : St) : evC cfg dep (.free k) s = some (.normal, ⟨freeE dep k s.env, freeM dep k s.mem⟩) := ez fun n => by simp only [evCode]
theorem ox (ops : List IOper) (un : List (Nat × Nat)) (keep : List Nat) (s : St) : evC cfg dep (.region ops un keep) s = (match av cfg (evL cfg) dep ops un s with
    | some s' => some (.normal, settle dep keep s')
    | none => none) := ez fun n => by simp only [evCode]; cases av cfg (evL cfg) dep ops un s <;> rfl

theorem evC_cond (x : IOpd) (a b : ICode) (s : St) : evC cfg dep (.cond x a b) s = (match val cfg s.get x with
    | some (.d (.bool t)) => if t then evC cfg dep a s else evC cfg dep b s
    | some (.d .unkB) => bothWays (evC cfg dep a s) (evC cfg dep b s)
    | _ => none) := by
  split
  · rename_i t ht
    refine ew (fun r hr => ?_) (fun r hr => ?_)
    · obtain ⟨n, hn⟩ := ac.1 hr
      simp only [evCode, ht] at hn
      cases t
      · exact ac.2 ⟨n, by simpa using hn⟩
      · exact ac.2 ⟨n, by simpa using hn⟩
    · cases t
      · obtain ⟨n, hn⟩ := ac.1 hr
        exact ac.2 ⟨n, by simp only [evCode, ht]; exact hn⟩
      · obtain ⟨n, hn⟩ := ac.1 hr
        exact ac.2 ⟨n, by simp only [evCode, ht]; exact hn⟩
  · rename_i ht
    refine ew (fun r hr => ?_) (fun r hr => ?_)
    · obtain ⟨n, hn⟩ := ac.1 hr
      simp only [evCode, ht] at hn
      exact mq (fun r h => ac.2 ⟨n, h⟩) (fun r h => ac.2 ⟨n, h⟩) hn
    · obtain ⟨h1, h2⟩ := cq hr
      obtain ⟨n1, g1⟩ := ac.1 h1
      obtain ⟨n2, g2⟩ := ac.1 h2
      refine ac.2 ⟨max n1 n2, ?_⟩
      simp only [evCode, ht]
      rw [dq (Nat.le_max_left n1 n2) g1, dq (Nat.le_max_right n1 n2) g2]
      rw [h1, h2] at hr
      exact hr
  · rename_i hno hno'
    refine ez fun n => ?_
    simp only [evCode]

theorem evC_seq (a b : ICode) (s : St) : evC cfg dep (.seq a b) s = (match evC cfg dep a s with
    | some (.normal, s') => evC cfg dep b s'
    | r => r) := by
  refine ew (fun r hr => ?_) (fun r hr => ?_)
  · obtain ⟨n, hn⟩ := ac.1 hr
    simp only [evCode] at hn
    split at hn
    · rename_i s1 h1
      rw [ac.2 ⟨n, h1⟩]
      exact ac.2 ⟨n, hn⟩
    · rename_i hno
      rw [ac.2 ⟨n, hn⟩]
      split
      · rename_i s1 he
        cases he
        exact absurd hn (hno s1)
      · rfl
  · split at hr
    · rename_i s1 h1
      obtain ⟨n1, g1⟩ := ac.1 h1
      obtain ⟨n2, g2⟩ := ac.1 hr
      refine ac.2 ⟨max n1 n2, ?_⟩
      simp only [evCode, dq (Nat.le_max_left n1 n2) g1]
      exact dq (Nat.le_max_right n1 n2) g2
    · rename_i hno
      obtain ⟨n, hn⟩ := ac.1 hr
      refine ac.2 ⟨n, ?_⟩
      simp only [evCode]
      rw [hn]
      split
      · rename_i s1 he
        cases he
        exact absurd hr (hno s1)
      · rfl

theorem ao5 (id : Nat) (b : ICode) (s : St) : evC cfg dep (.block id b) s = (match evC cfg dep b s with
    | some (.exit id', s') => if id' = id then some (.normal, s') else some (.exit id', s')
    | r => r) := by
  refine ew (fun r hr => ?_) (fun r hr => ?_)
  · obtain ⟨n, hn⟩ := ac.1 hr
    simp only [evCode] at hn
    split at hn
    · rename_i id' s1 h1
      rw [ac.2 ⟨n, h1⟩]
      exact hn
    · rename_i hno
      rw [ac.2 ⟨n, hn⟩]
      split
      · rename_i id' s1 he
        cases he
        exact absurd hn (hno _ _)
      · rfl
  · split at hr
    · rename_i id' s1 h1
      obtain ⟨n, hn⟩ := ac.1 h1
      refine ac.2 ⟨n, ?_⟩
      simp only [evCode, hn]
      exact hr
    · rename_i hno
      obtain ⟨n, hn⟩ := ac.1 hr
      refine ac.2 ⟨n, ?_⟩
      simp only [evCode]
      rw [hn]
      split
      · rename_i id' s1 he
        cases he
        exact absurd hr (hno _ _)
      · rfl

theorem evC_loop (b : ICode) (s : St) : evC cfg dep (.loop b) s = (match evC cfg dep b s with
    | some (.normal, s') => evC cfg dep (.loop b) s'
    | r => r) := by
  refine ew (fun r hr => ?_) (fun r hr => ?_)
  · obtain ⟨n, hn⟩ := ac.1 hr
    cases n with
    | zero => simp [evCode, b6] at hn
    | succ n =>
      simp only [evCode, b6] at hn
      split at hn
      · rename_i s1 h1
        rw [ac.2 ⟨n + 1, h1⟩]
        exact ac.2 ⟨n + 1, by simp only [evCode]; exact f8 (fun _ _ h => h) (Nat.le_succ n) hn⟩
      · rename_i hno
        rw [ac.2 ⟨n + 1, hn⟩]
        split
        · rename_i s1 he
          cases he
          exact absurd hn (hno s1)
        · rfl
  · split at hr
    · rename_i s1 h1
      obtain ⟨n1, g1⟩ := ac.1 h1
      obtain ⟨n2, g2⟩ := ac.1 hr
      refine ac.2 ⟨max n1 n2 + 1, ?_⟩
      simp only [evCode, b6, dq (show n1 ≤ max n1 n2 + 1 by omega) g1]
      simp only [evCode] at g2
      exact f8 (fun s r h => dq (show n2 ≤ max n1 n2 + 1 by omega) h) (Nat.le_max_right n1 n2) g2
    · rename_i hno
      obtain ⟨n, hn⟩ := ac.1 hr
      refine ac.2 ⟨n + 1, ?_⟩
      simp only [evCode, b6]
      rw [dq (Nat.le_succ n) hn]
      split
      · rename_i s1 he
        cases he
        exact absurd hr (hno s1)
      · rfl

/-- a function, by its code -/
noncomputable def evB (cfg : Cfg) (fn : IFunc) (dep : Nat) (vs : List V) (m : List (Cel × V)) : Option (V × List (Cel × V)) :=
  if vs.length = fn.arity ∧ argsOk vs m then
    match evC cfg dep fn.body ⟨entry 0 vs, m⟩ with
    | some (.normal, s) | some (.ret, s) => (resAll dep s.get fn.results).bind fun v => leaveR dep v s.mem
    | _ => none
  else none

theorem evL_fn {f : FuncId} {fn : IFunc} (hx : cfg.ext f = none) (hf : cfg.funcs f = some fn) (dep : Nat) (vs : List V) (m : List (Cel × V)) : evL cfg f dep vs m = evB cfg fn dep vs m := by
  refine ew (fun r hr => ?_) (fun r hr => ?_)
  · obtain ⟨n, hn⟩ := ey.1 hr
    cases n with
    | zero => cases hn
    | succ n =>
      simp only [evFn, hx, hf] at hn
      have h2 := xf (evFn_evL cfg n) (Nat.le_refl n) hn
      unfold evBody at h2
      unfold evB
      split at h2
      · rename_i hc
        rw [if_pos hc]
        split at h2
        · rename_i s h1
          rw [ac.2 ⟨n, h1⟩]
          exact h2
        · rename_i s h1
          rw [ac.2 ⟨n, h1⟩]
          exact h2
        · cases h2
      · cases h2
  · unfold evB at hr
    have key : ∀ {n : Nat} {e s}, evCode cfg (evL cfg) dep n fn.body ⟨entry 0 vs, m⟩ = some (e, s) → (vs.length = fn.arity ∧ argsOk vs m = true) → (e = .normal ∨ e = .ret) → ((resAll dep s.get fn.results).bind fun v => leaveR dep v s.mem) = some r → evL cfg f dep vs m = some r := by
      intro n e s h1 hc he h2
      obtain ⟨k, hk⟩ := ao4 fn.body h1
      refine ey.2 ⟨max k n + 1, ?_⟩
      simp only [evFn, hx, hf]
      unfold evBody
      rw [if_pos hc, ay (bf cfg (Nat.le_max_left k n)) (Nat.le_max_right k n) fn.body hk]
      rcases he with rfl | rfl <;> exact h2
    split at hr
    · rename_i hc
      split at hr
      · rename_i s h1
        obtain ⟨n, hn⟩ := ac.1 h1
        exact key hn hc (.inl rfl) hr
      · rename_i s h1
        obtain ⟨n, hn⟩ := ac.1 h1
        exact key hn hc (.inr rfl) hr
      · cases hr
    · cases hr

/-- the limit is sound -/
theorem evL_ok {P : Program} (hm : P.follows .mixedOrders = true) (hC : CfgOk P cfg) (hF : mw P cfg) (hX : ExtOk P cfg) : OrcOk P cfg (evL cfg) :=
  fun f dep vs m r m' h x w args E => by
    obtain ⟨n, hn⟩ := ey.1 h
    exact fn_ok hm hC hF hX n f dep vs m r m' hn x w args E


end
end Go.Ev

/-! EvZo -/
/- Code with what comes behind it. Own work. -/
namespace Go.Ev
open Go

/-- what is still to do -/
inductive Kf where
  | c (c : ICode)
  | b (id : Nat)

abbrev Ans := Option (V × List (Cel × V))

/-- how deep, and what is made of the end -/
structure Kx where
  cfg : Cfg
  dep : Nat
  k : Ex → St → Ans

/-- a function's end -/
def finR (dep : Nat) (res : List IRes) : Ex → St → Ans
  | .normal, s | .ret, s => (resAll dep s.get res).bind fun v => leaveR dep v s.mem
  | .exit _, _ => none

/-- a function's code -/
abbrev fx (cfg : Cfg) (dep : Nat) (res : List IRes) : Kx := ⟨cfg, dep, finR dep res⟩

noncomputable def ag (X : Kx) : List Kf → Option (Ex × St) → Ans
  | [], some (e, s) => X.k e s
  | [], none => none
  | .c c :: K, some (.normal, s) => ag X K (evC X.cfg X.dep c s)
  | .c _ :: K, r => ag X K r
  | .b id :: K, some (.exit id', s) => if id' = id then ag X K (some (.normal, s)) else ag X K (some (.exit id', s))
  | .b _ :: K, r => ag X K r

noncomputable def go (X : Kx) (K : List Kf) (s : St) : Ans := ag X K (some (.normal, s))
noncomputable def goX (X : Kx) (id : Nat) (K : List Kf) (s : St) : Ans := ag X K (some (.exit id, s))

theorem ah (X : Kx) : ∀ K, ag X K none = none
  | [] => rfl
  | .c _ :: K => by rw [ag]; exact ah X K; simp
  | .b _ :: K => by rw [ag]; exact ah X K; simp

theorem jl (X : Kx) (s : St) : ∀ K, ag X K (some (.ret, s)) = X.k .ret s
  | [] => rfl
  | .c _ :: K => by rw [ag]; exact jl X s K; simp
  | .b _ :: K => by rw [ag]; exact jl X s K; simp

variable {X : Kx} {K : List Kf} {s : St}

theorem go_nil : go X [] s = X.k .normal s := rfl
theorem goX_nil (id : Nat) : goX X id [] s = X.k (.exit id) s := rfl
theorem go_blk (id : Nat) : go X (.b id :: K) s = go X K s := by unfold go; rw [ag]; simp
theorem go_ret : go X (.c .ret :: K) s = X.k .ret s := by unfold go; rw [ag, evC_ret, jl]
theorem go_skip : go X (.c .skip :: K) s = go X K s := by unfold go; rw [ag, evC_skip]
theorem go_exit (id : Nat) : go X (.c (.exit id) :: K) s = goX X id K s := by unfold go goX; rw [ag, evC_exit]
theorem goX_c (id : Nat) (c : ICode) : goX X id (.c c :: K) s = goX X id K s := by unfold goX; rw [ag]; simp
theorem goX_b (id id' : Nat) : goX X id (.b id' :: K) s = if id = id' then go X K s else goX X id K s := by unfold goX go; rw [ag]
theorem go_seq (a b : ICode) : go X (.c (.seq a b) :: K) s = go X (.c a :: .c b :: K) s := by
  unfold go
  rw [ag, ag, evC_seq]
  cases h : evC X.cfg X.dep a s with
  | none => rw [ah, ah]
  | some r =>
    obtain ⟨e, s'⟩ := r
    cases e with
    | normal => rw [ag]
    | ret => rw [ag]; simp
    | exit id => rw [ag]; simp

theorem go_loop (b : ICode) : go X (.c (.loop b) :: K) s = go X (.c b :: .c (.loop b) :: K) s := by
  unfold go
  rw [ag, ag, evC_loop]
  cases h : evC X.cfg X.dep b s with
  | none => rw [ah, ah]
  | some r =>
    obtain ⟨e, s'⟩ := r
    cases e with
    | normal => rw [ag]
    | ret => rw [ag]; simp
    | exit id => rw [ag]; simp

theorem go_block (id : Nat) (b : ICode) : go X (.c (.block id b) :: K) s = go X (.c b :: .b id :: K) s := by
  unfold go
  rw [ag, ag, ao5]
  cases h : evC X.cfg X.dep b s with
  | none => rw [ah, ah]
  | some r =>
    obtain ⟨e, s'⟩ := r
    cases e with
    | normal => rw [ag]; simp
    | ret => rw [ag]; simp
    | exit id' => rw [ag]; simp only; split <;> rfl

theorem go_demote (ls : List Nat) : go X (.c (.demote ls) :: K) s = go X K { s with env := ls.foldl (fun e k => demoteE k e) s.env } := by unfold go; rw [ag, ajz]
theorem go_free (k : Nat) : go X (.c (.free k) :: K) s = go X K ⟨freeE X.dep k s.env, freeM X.dep k s.mem⟩ := by unfold go; rw [ag, evC_free]

/-- behind a round -/
noncomputable def goEnd (X : Kx) (K : List Kf) (E : List (Nat × V)) (f : List (Cel × V) → Ans) : Ex → St → Ans
  | .normal, s => f (leaveM (X.dep + 1) s.mem)
  | .ret, s => X.k .ret ⟨E, leaveM (X.dep + 1) s.mem⟩
  | .exit id, s => goX X id K ⟨E, leaveM (X.dep + 1) s.mem⟩
/-- a round, behind what is handed to it -/
noncomputable def goRnd (X : Kx) (b : ICode) (K : List Kf) (E : List (Nat × V)) (f : List (Cel × V) → Ans) : Ex → St → Ans
  | .normal, s => go ⟨X.cfg, X.dep + 1, goEnd X K E f⟩ [.c b] s
  | _, _ => none
noncomputable def goPut (X : Kx) (a b : ICode) (K : List Kf) (E : List (Nat × V)) (m : List (Cel × V)) (f : List (Cel × V) → Ans) : Option (List (Nat × V)) → Ans
  | some e => go ⟨X.cfg, X.dep + 1, goRnd X b K E f⟩ [.c a] ⟨e, m⟩
  | none => none
/-- the rounds of a range over a function -/
noncomputable def goE (X : Kx) (ps : List Nat) (a b : ICode) (E : List (Nat × V)) (K : List Kf) : List (List D) → List (Cel × V) → Ans
  | [], m => go X K ⟨E, m⟩
  | x :: l, m => goPut X a b K E m (goE X ps a b E K l) (putPs ps x (roundE E))
noncomputable def goEQ (X : Kx) (ps : List Nat) (a b : ICode) (K : List Kf) (s : St) : Option (List (List D)) → Ans
  | some l => goE X ps a b (dropBor X.dep s.env) K l s.mem
  | none => none

/-- a region, its operations still to do -/
noncomputable def goR (X : Kx) (ops : List IOper) (keep : List Nat) (K : List Kf) (s : St) : Ans :=
  match evOps X.cfg (evL X.cfg) X.dep ops s with
  | some s' => go X K (settle X.dep keep s')
  | none => none

theorem go_region (ops : List IOper) (keep : List Nat) : go X (.c (.region ops [] keep) :: K) s = goR X ops keep K s := by
  unfold go goR
  rw [ag, ox, av]
  cases evOps X.cfg (evL X.cfg) X.dep ops s with
  | none => exact ah _ _
  | some s' => rfl

/-- a function's answer -/
theorem au {cfg : Cfg} {f : FuncId} {fn : IFunc} (hx : cfg.ext f = none) (hf : cfg.funcs f = some fn) (dep : Nat) (vs : List V) (m : List (Cel × V)) (ha : vs.length = fn.arity) (hp : argsOk vs m = true) :
    evL cfg f dep vs m = go (fx cfg dep fn.results) [.c fn.body] ⟨entry 0 vs, m⟩ := by
  rw [evL_fn hx hf]
  unfold evB
  rw [if_pos ⟨ha, hp⟩]
  unfold go
  rw [ag]
  cases evC cfg dep fn.body ⟨entry 0 vs, m⟩ with
  | none => rfl
  | some r =>
    obtain ⟨e, s⟩ := r
    cases e <;> rfl

end Go.Ev

/-! EvZp -/
/- Rules for reckoning with code. Own work. -/
namespace Go.Ev
open Go

variable {X : Kx} {K : List Kf} {s : St} {cfg : Cfg} {orc : Orc} {dep : Nat}

/-! code -/

noncomputable def goQ (X : Kx) (a b : ICode) (K : List Kf) (s : St) : Option V → Ans
  | some (.d (.bool t)) => if t then go X (.c a :: K) s else go X (.c b :: K) s
  | some (.d .unkB) => ag X K (bothWays (evC X.cfg X.dep a s) (evC X.cfg X.dep b s))
  | _ => none
theorem go_condQ (x : IOpd) (a b : ICode) : go X (.c (.cond x a b) :: K) s = goQ X a b K s (val X.cfg s.get x) := by
  unfold go
  rw [ag, evC_cond]
  generalize val X.cfg s.get x = v
  cases v with
  | none => exact ah _ _
  | some v =>
    cases v with
    | d y =>
      cases y with
      | bool t => cases t <;> (simp only [goQ]; unfold go; simp [ag])
      | unkB => rfl
      | _ => exact ah _ _
    | _ => exact ah _ _
theorem goQ_t (a b : ICode) : goQ X a b K s (some (.d (.bool true))) = go X (.c a :: K) s := rfl
theorem goQ_f (a b : ICode) : goQ X a b K s (some (.d (.bool false))) = go X (.c b :: K) s := rfl
theorem goQ_b (a b : ICode) (t : Bool) : goQ X a b K s (some (.d (.bool t))) = if t then go X (.c a :: K) s else go X (.c b :: K) s := rfl

noncomputable def goC (X : Kx) (o : IOper) (r : List IOper) (keep : List Nat) (K : List Kf) (s : St) : Option (List (Loc × V)) → Ans
  | some u => goR X r keep K (s.upd u)
  | none => match stepM X.cfg (evL X.cfg) X.dep s o with
    | some s' => goR X r keep K s'
    | none => none
theorem goR_step (o : IOper) (r : List IOper) (keep : List Nat) : goR X (o :: r) keep K s = goC X o r keep K s (stepU X.cfg (evL X.cfg) X.dep s.get o) := by
  unfold goR
  rw [evOps]
  unfold goC evStep
  cases stepU X.cfg (evL X.cfg) X.dep s.get o with
  | some u => rfl
  | none =>
    simp only
    cases stepM X.cfg (evL X.cfg) X.dep s o <;> rfl
theorem goC_some (o : IOper) (r : List IOper) (keep : List Nat) (u : List (Loc × V)) : goC X o r keep K s (some u) = goR X r keep K (s.upd u) := rfl
theorem goR_end (keep : List Nat) (e : List (Nat × V)) (m : List (Cel × V)) : goR X [] keep K ⟨e, m⟩ = go X K ⟨settleE X.dep keep e, settleM X.dep m⟩ := rfl

/-! places -/

theorem get_slot (e : List (Nat × V)) (m : List (Cel × V)) (k : Nat) : St.get ⟨e, m⟩ (.slot k) = lk e k := rfl
theorem get_cell (e : List (Nat × V)) (m : List (Cel × V)) (c : Cel) : St.get ⟨e, m⟩ (.cell c) = lk m c := rfl
theorem upd_nil : s.upd [] = s := rfl
theorem upd_slot (e : List (Nat × V)) (m : List (Cel × V)) (k : Nat) (v : V) (u : List (Loc × V)) : St.upd ⟨e, m⟩ ((.slot k, v) :: u) = St.upd ⟨Go.Ev.st e k v, m⟩ u := rfl
theorem upd_cell (e : List (Nat × V)) (m : List (Cel × V)) (c : Cel) (v : V) (u : List (Loc × V)) : St.upd ⟨e, m⟩ ((.cell c, v) :: u) = St.upd ⟨e, Go.Ev.st m c v⟩ u := rfl
theorem an9 (k : Nat) (v : V) : put1 (some k) v = [(.slot k, v)] := rfl
theorem val_t (s : Get) (k : Nat) : val cfg s (.t k) = s (.slot k) := rfl
theorem val_c (s : Get) (x : D) : val cfg s (.c x) = some (.d x) := rfl
theorem vals_nil (s : Get) : vals cfg s [] = some [] := rfl
theorem aj9 (s : Get) (x : IOpd) (r : List IOpd) : vals cfg s (x :: r) = (val cfg s x).bind fun v => (vals cfg s r).bind fun vs => some (v :: vs) := by
  rw [vals]
  cases val cfg s x <;> cases vals cfg s r <;> rfl
theorem dats_nil (s : Get) : dats cfg s [] = some [] := rfl
theorem ao9 (s : Get) (x : IOpd) (r : List IOpd) : dats cfg s (x :: r) = (dat cfg s x).bind fun v => (dats cfg s r).bind fun vs => some (v :: vs) := by
  rw [dats]
  cases dat cfg s x <;> cases dats cfg s r <;> rfl
theorem bind_some {α β : Type} (a : α) (f : α → Option β) : (some a).bind f = f a := rfl

/-! operations -/

theorem U_guard (s : Get) (dst : Option Nat) (k : Nat) (b t : Bool) (op : IOp) (h : s (.slot k) = some (.d (.bool t))) : stepU cfg orc dep s ⟨dst, some (k, b), op⟩ = if t == b then stepU cfg orc dep s ⟨dst, none, op⟩ else some (put1 dst (.d (.tup []))) := by
  unfold stepU
  simp only [guardOk, h]
  cases t <;> cases b <;> rfl
theorem U_guard0 (s : Get) (dst : Option Nat) (k : Nat) (b : Bool) (op : IOp) (h : s (.slot k) = some (.d (.tup []))) : stepU cfg orc dep s ⟨dst, some (k, b), op⟩ = some (put1 dst (.d (.tup []))) := by
  unfold stepU
  simp only [guardOk, h]
def gU (cfg : Cfg) (orc : Orc) (dep : Nat) (s : Get) (dst : Option Nat) (b : Bool) (op : IOp) : Option V → Option (List (Loc × V))
  | some (.d (.bool t)) => if t == b then stepU cfg orc dep s ⟨dst, none, op⟩ else some (put1 dst (.d (.tup [])))
  | some (.d (.tup [])) => some (put1 dst (.d (.tup [])))
  | _ => none
theorem U_g (s : Get) (dst : Option Nat) (k : Nat) (b : Bool) (op : IOp) : stepU cfg orc dep s ⟨dst, some (k, b), op⟩ = gU cfg orc dep s dst b op (s (.slot k)) := by
  unfold gU
  split
  · rename_i t h; exact U_guard s dst k b t op h
  · rename_i h; exact U_guard0 s dst k b op h
  · rename_i h1 h2
    unfold stepU
    have : guardOk s (some (k, b)) = none := by
      unfold guardOk
      split
      · rename_i e; cases e
      · rename_i e
        cases e
        split
        · rename_i t h; exact absurd h (h1 t)
        · rename_i h; exact absurd h h2
        · rfl
    rw [this]
theorem gU_b (s : Get) (dst : Option Nat) (b t : Bool) (op : IOp) : gU cfg orc dep s dst b op (some (.d (.bool t))) = if t == b then stepU cfg orc dep s ⟨dst, none, op⟩ else some (put1 dst (.d (.tup []))) := rfl
theorem gU_u (s : Get) (dst : Option Nat) (b : Bool) (op : IOp) : gU cfg orc dep s dst b op (some (.d (.tup []))) = some (put1 dst (.d (.tup []))) := rfl

theorem U_mv (s : Get) (k : Nat) (x : IOpd) : stepU cfg orc dep s ⟨some k, none, .mv x⟩ = (val cfg s x).bind fun v => evMv (some k) x v := rfl
theorem U_asg (s : Get) (k : Nat) (x : IOpd) : stepU cfg orc dep s ⟨some k, none, .asg x⟩ = (val cfg s x).bind fun v => evAsg s (some k) x v := rfl
def ah2 (dst : Option Nat) : Option V → Option (List (Loc × V))
  | some (.d x) => some (put1 dst (.d x))
  | _ => none
def pickU (dst : Option Nat) (f : Bool → Option V) : Option V → Option (List (Loc × V))
  | some (.d (.bool t)) => ah2 dst (f t)
  | _ => none
theorem pickU_b (dst : Option Nat) (f : Bool → Option V) (t : Bool) : pickU dst f (some (.d (.bool t))) = ah2 dst (f t) := rfl
theorem evPick_d (k : Nat) (x : D) : ah2 (some k) (some (.d x)) = some [(.slot k, .d x)] := rfl
theorem U_pick (s : Get) (k : Nat) (c a b : IOpd) : stepU cfg orc dep s ⟨some k, none, .pick c a b⟩ = pickU (some k) (fun t => val cfg s (if t then a else b)) (val cfg s c) := by
  show evOp cfg dep s (some k) (.pick c a b) = _
  simp only [evOp]
  generalize val cfg s c = v
  cases v with
  | none => rfl
  | some v =>
    cases v with
    | d y =>
      cases y with
      | bool t => simp only [pickU, ah2]; rfl
      | _ => rfl
    | _ => rfl
theorem U_bin (s : Get) (k : Nat) (op : BinOp) (x y : IOpd) : stepU cfg orc dep s ⟨some k, none, .bin op x y⟩ = match val cfg s x, val cfg s y with
  | some (.d a), some (.d b) => (D.bin op a b).map fun r => [(.slot k, .d r)]
  | _, _ => none := rfl
theorem U_eqn (s : Get) (k : Nat) (n : Bool) (c : ECls) (x y : IOpd) : stepU cfg orc dep s ⟨some k, none, .eqn n c x y⟩ = match val cfg s x, val cfg s y with
  | some a, some b => (V.eqn cfg c a b).map fun r => [(.slot k, .d (.bool (if n then !r else r)))]
  | _, _ => none := rfl
theorem U_isNil (s : Get) (k : Nat) (n : Bool) (x : IOpd) : stepU cfg orc dep s ⟨some k, none, .isNil n x⟩ = (val cfg s x).bind fun v => (g9 n v).map fun r => [(.slot k, .d r)] := rfl
theorem U_un (s : Get) (k : Nat) (op : UnOp) (x : IOpd) : stepU cfg orc dep s ⟨some k, none, .un op x⟩ = match val cfg s x with
  | some (.d a) => (D.un op a).map fun r => [(.slot k, .d r)]
  | _ => none := rfl
theorem U_cvInt (s : Get) (j : Nat) (k : IntKind) (x : IOpd) : stepU cfg orc dep s ⟨some j, none, .cvInt k x⟩ = match val cfg s x with
  | some (.d (.int _ n)) => some [(.slot j, .d (.int k (k.wrap n)))]
  | _ => none := rfl
theorem U_b2s (s : Get) (k : Nat) (x : IOpd) : stepU cfg orc dep s ⟨some k, none, .b2s x⟩ = ((val cfg s x).bind (cont s)).bind fun es => (bu es).map fun b => [(.slot k, .d (.str b))] := rfl
theorem U_load (s : Get) (k : Nat) (z : Option Nat) (x : IOpd) : stepU cfg orc dep s ⟨some k, none, .load z x⟩ = (val cfg s x).bind fun v => c6 s (some k) z v := rfl
def stoV (cfg : Cfg) (s : Get) (n : Nat) (a x : IOpd) : Option (List (Loc × V)) := match val cfg s a, val cfg s x with
  | some a, some v => bd s n a x v
  | _, _ => none
def stoG (cfg : Cfg) (s : Get) (n : Nat) (a x : IOpd) : Option V → Option (List (Loc × V))
  | some (.bref _ _ _) => (stoV cfg (updG s (giveUp s [a, x])) n a x).map (giveUp s [a, x] ++ ·)
  | _ => stoV cfg s n a x
theorem U_store (s : Get) (n : Nat) (a x : IOpd) : stepU cfg orc dep s ⟨none, none, .store n a x⟩ = stoG cfg s n a x (val cfg s a) := by
  show evOpD cfg dep s none (.store n a x) = _
  unfold evOpD stoG
  cases h : val cfg s a with
  | none => simp only [gives, h]; rfl
  | some v => cases v <;> (simp only [gives, h]; rfl)
theorem akh (s : Get) (n : Nat) (a x : IOpd) (l : Loc) (i o : Nat) : stoG cfg s n a x (some (.bref l i o)) = (stoV cfg (updG s (giveUp s [a, x])) n a x).map (giveUp s [a, x] ++ ·) := rfl
theorem stoG_ref (s : Get) (n : Nat) (a x : IOpd) (d k o : Nat) : stoG cfg s n a x (some (.ref d k o)) = stoV cfg s n a x := rfl
theorem stoV_def (s : Get) (n : Nat) (a x : IOpd) : stoV cfg s n a x = (val cfg s a).bind fun p => (val cfg s x).bind fun v => bd s n p x v := by
  unfold stoV
  cases val cfg s a with
  | none => rfl
  | some p => cases val cfg s x <;> rfl
def oe (l : Loc) (r : List (Loc × V)) : Option V → List (Loc × V)
  | some (.own false _ es) => (l, .d (.sl es)) :: r
  | _ => r
def ep (s : Get) (k : Nat) (r : List (Loc × V)) : Option V → List (Loc × V)
  | some (.own _ _ es) => (.slot k, .d (.sl es)) :: r
  | some (.bor l _ _) => oe l r (s l)
  | _ => r
def od (k o n : Nat) (r : List (Loc × V)) : Option V → List (Loc × V)
  | some (.own false _ es) => (.slot k, .d (.sl ((es.drop o).take n))) :: r
  | _ => r
def eo (s : Get) (k : Nat) (r : List (Loc × V)) : Option V → List (Loc × V)
  | some (.bor l o n) => od k o n r (s l)
  | _ => r
theorem ajh (s : Get) (l : List IOpd) : giveUp s l = giveL s l ++ giveP s l := rfl
theorem aou (s : Get) : giveL s [] = [] := rfl
theorem giveL_c (s : Get) (d : D) (r : List IOpd) : giveL s (.c d :: r) = giveL s r := rfl
theorem giveL_g (s : Get) (n : Nat) (r : List IOpd) : giveL s (.g n :: r) = giveL s r := rfl
theorem aot (s : Get) : giveP s [] = [] := rfl
theorem giveP_c (s : Get) (d : D) (r : List IOpd) : giveP s (.c d :: r) = giveP s r := rfl
theorem giveP_g (s : Get) (n : Nat) (r : List IOpd) : giveP s (.g n :: r) = giveP s r := rfl
theorem giveL_t (s : Get) (k : Nat) (r : List IOpd) : giveL s (.t k :: r) = ep s k (giveL s r) (s (.slot k)) := by
  unfold ep oe
  rw [giveL]
  cases s (.slot k) with
  | none => rfl
  | some v => cases v <;> rfl
theorem giveP_t (s : Get) (k : Nat) (r : List IOpd) : giveP s (.t k :: r) = eo s k (giveP s r) (s (.slot k)) := by
  unfold eo od
  rw [giveP]
  cases s (.slot k) with
  | none => rfl
  | some v => cases v <;> rfl
theorem ajr (s : Get) (k : Nat) (r : List (Loc × V)) (nw : Bool) (z : Nat) (es : List D) : ep s k r (some (.own nw z es)) = (.slot k, .d (.sl es)) :: r := rfl
theorem aju (s : Get) (k : Nat) (r : List (Loc × V)) (l : Loc) (o n : Nat) : ep s k r (some (.bor l o n)) = oe l r (s l) := rfl
theorem ajk (s : Get) (k : Nat) (r : List (Loc × V)) (nw : Bool) (z : Nat) (es : List D) : eo s k r (some (.own nw z es)) = r := rfl
theorem ajn (s : Get) (k : Nat) (r : List (Loc × V)) (l : Loc) (o n : Nat) : eo s k r (some (.bor l o n)) = od k o n r (s l) := rfl
theorem ajv (l : Loc) (r : List (Loc × V)) (z : Nat) (es : List D) : oe l r (some (.own false z es)) = (l, .d (.sl es)) :: r := rfl
theorem ajo (k o n : Nat) (r : List (Loc × V)) (z : Nat) (es : List D) : od k o n r (some (.own false z es)) = (.slot k, .d (.sl ((es.drop o).take n))) :: r := rfl
theorem giveLB_d (l : Loc) (r : List (Loc × V)) (y : D) : oe l r (some (.d y)) = r := rfl
theorem givePB_d (k o n : Nat) (r : List (Loc × V)) (y : D) : od k o n r (some (.d y)) = r := rfl
theorem aam (l : Loc) (r : List (Loc × V)) : oe l r none = r := rfl
theorem aah (k o n : Nat) (r : List (Loc × V)) : od k o n r none = r := rfl
theorem giveLQ_d (s : Get) (k : Nat) (r : List (Loc × V)) (y : D) : ep s k r (some (.d y)) = r := rfl
theorem aal (s : Get) (k : Nat) (r : List (Loc × V)) (l : Loc) (o n : Nat) : ep s k r (some (.bref l o n)) = r := rfl
theorem aak (s : Get) (k : Nat) (r : List (Loc × V)) (e : D) (o : Nat) : ep s k r (some (.iptr e o)) = r := rfl
theorem ajq (s : Get) (k : Nat) (r : List (Loc × V)) (d j o : Nat) : ep s k r (some (.ref d j o)) = r := rfl
theorem ajt (s : Get) (k : Nat) (r : List (Loc × V)) (f : FuncId) (a b : List V) : ep s k r (some (.clo f a b)) = r := rfl
theorem ajs (s : Get) (k : Nat) (r : List (Loc × V)) (t : TypeId) (v : V) : ep s k r (some (.ifc t v)) = r := rfl
theorem ajp (s : Get) (k : Nat) (r : List (Loc × V)) (ys : List V) : ep s k r (some (.vec ys)) = r := rfl
theorem aai (s : Get) (k : Nat) (r : List (Loc × V)) (y : V) : ep s k r (some (.vref y)) = r := rfl
theorem aji (s : Get) (k : Nat) (r : List (Loc × V)) (ys : List V) : eo s k r (some (.vec ys)) = r := rfl
theorem aad (s : Get) (k : Nat) (r : List (Loc × V)) (y : V) : eo s k r (some (.vref y)) = r := rfl
theorem aaj (s : Get) (k : Nat) (r : List (Loc × V))  : ep s k r (some (.junk)) = r := rfl
theorem givePQ_d (s : Get) (k : Nat) (r : List (Loc × V)) (y : D) : eo s k r (some (.d y)) = r := rfl
theorem aag (s : Get) (k : Nat) (r : List (Loc × V)) (l : Loc) (o n : Nat) : eo s k r (some (.bref l o n)) = r := rfl
theorem aaf (s : Get) (k : Nat) (r : List (Loc × V)) (e : D) (o : Nat) : eo s k r (some (.iptr e o)) = r := rfl
theorem ajj (s : Get) (k : Nat) (r : List (Loc × V)) (d j o : Nat) : eo s k r (some (.ref d j o)) = r := rfl
theorem ajm (s : Get) (k : Nat) (r : List (Loc × V)) (f : FuncId) (a b : List V) : eo s k r (some (.clo f a b)) = r := rfl
theorem ajl (s : Get) (k : Nat) (r : List (Loc × V)) (t : TypeId) (v : V) : eo s k r (some (.ifc t v)) = r := rfl
theorem aae (s : Get) (k : Nat) (r : List (Loc × V))  : eo s k r (some (.junk)) = r := rfl
theorem U_nilck (s : Get) (k : Nat) (x : IOpd) : stepU cfg orc dep s ⟨some k, none, .nilck x⟩ = (val cfg s x).bind fun v => evNil (some k) v := rfl
theorem U_alloc (s : Get) (k : Nat) (zs : List D) : stepU cfg orc dep s ⟨some k, none, .alloc zs⟩ = if (s (.cell ⟨dep, k, 0⟩)).isSome || zs.isEmpty then none
      else some ((.slot k, .ref dep k 0) :: cg dep k 0 (zs.map .d)) := rfl
theorem U_box (s : Get) (k n : Nat) (x : IOpd) : stepU cfg orc dep s ⟨some k, none, .box n x⟩ = (val cfg s x).bind fun v => evBox dep s k n v := by
  show evOp cfg dep s (some k) (.box n x) = _
  simp only [evOp]
  cases val cfg s x <;> rfl
def bldV (cfg : Cfg) (s : Get) (k : Nat) (zs : List D) (ps : List (Nat × Nat × IOpd)) : Option (List (Loc × V)) := (ce cfg s ps).bind fun l => (fillD zs l).map fun cs => [(.slot k, .d (.agg cs))]
theorem U_build (s : Get) (k : Nat) (zs : List D) (ps : List (Nat × Nat × IOpd)) : stepU cfg orc dep s ⟨some k, none, .build zs ps⟩ = (bldV cfg (updG s (giveUp s (ps.map fun p => p.2.2))) k zs ps).map (giveUp s (ps.map fun p => p.2.2) ++ ·) := rfl
theorem bldV_def (s : Get) (k : Nat) (zs : List D) (ps : List (Nat × Nat × IOpd)) : bldV cfg s k zs ps = (ce cfg s ps).bind fun l => (fillD zs l).map fun cs => [(.slot k, .d (.agg cs))] := rfl
def litO (cfg : Cfg) (s : Get) (k : Nat) (own : Bool) (z n : Nat) (zd : D) (ps : List (Nat × IOpd)) : Option (List (Loc × V)) := (dn cfg s ps).bind fun l =>
    if zd.cells.length = z ∧ n ≤ 1000 ∧ zd.storable then
      (fillE z (List.replicate n zd) l).map fun es => [(.slot k, if n = 0 then .d .nilS else if own then .own true z es else .d (.sl es))] else none
def litV (cfg : Cfg) (s : Get) (k : Nat) (own : Bool) (z n : Nat) (zd : D) (ps : List (Nat × IOpd)) : Option (List (Loc × V)) :=
  match evVec cfg s (some k) z n ps with
  | some u => some u
  | none => litO cfg s k own z n zd ps
def vecV (cfg : Cfg) (s : Get) (k : Nat) (own : Bool) (z n : Nat) (zd : D) (ps : List (Nat × IOpd)) : Option (List V) → Option (List (Loc × V))
  | some (y :: ys) => if z = 1 ∧ n = (y :: ys).length then some [(.slot k, .vec (y :: ys))] else litO cfg s k own z n zd ps
  | _ => litO cfg s k own z n zd ps
def litQ (cfg : Cfg) (s : Get) (k : Nat) (own : Bool) (z n : Nat) (zd : D) (ps : List (Nat × IOpd)) : Option V → Option (List (Loc × V))
  | some (.ref _ _ _) => vecV cfg s k own z n zd ps (cd cfg s 0 ps)
  | _ => litO cfg s k own z n zd ps
theorem U_lit (s : Get) (k : Nat) (own : Bool) (z n : Nat) (zd : D) (ps : List (Nat × IOpd)) : stepU cfg orc dep s ⟨some k, none, .lit own z n zd ps⟩ = (litV cfg (updG s (giveUp s (ps.map fun p => p.2))) k own z n zd ps).map (giveUp s (ps.map fun p => p.2) ++ ·) := by
  show (evOp cfg dep (updG s (giveUp s (ps.map fun p => p.2))) (some k) (.lit own z n zd ps)).map (giveUp s (ps.map fun p => p.2) ++ ·) = _
  congr 1
theorem litV_nil (s : Get) (k : Nat) (own : Bool) (z n : Nat) (zd : D) : litV cfg s k own z n zd [] = litO cfg s k own z n zd [] := rfl
theorem aoh (s : Get) (k : Nat) (own : Bool) (z n : Nat) (zd : D) (j : Nat) (x : IOpd) (r : List (Nat × IOpd)) : litV cfg s k own z n zd ((j, x) :: r) = litQ cfg s k own z n zd ((j, x) :: r) (val cfg s x) := by
  unfold litV litQ evVec
  cases hv : val cfg s x with
  | none => simp only [cd, hv]
  | some v =>
    cases v with
    | ref d j' o =>
      dsimp only
      unfold vecV
      cases cd cfg s 0 ((j, x) :: r) with
      | none => rfl
      | some l => cases l with
        | nil => rfl
        | cons y ys =>
          dsimp only
          by_cases h : z = 1 ∧ n = (y :: ys).length
          · rw [if_pos h, if_pos h]; rfl
          · rw [if_neg h, if_neg h]
    | _ => simp only [cd, hv]
theorem litQ_d (s : Get) (k : Nat) (own : Bool) (z n : Nat) (zd : D) (ps : List (Nat × IOpd)) (y : D) : litQ cfg s k own z n zd ps (some (.d y)) = litO cfg s k own z n zd ps := rfl
theorem aoi (s : Get) (k : Nat) (own : Bool) (z n : Nat) (zd : D) (ps : List (Nat × IOpd)) (y : D) (o : Nat) : litQ cfg s k own z n zd ps (some (.iptr y o)) = litO cfg s k own z n zd ps := rfl
theorem litQ_ref (s : Get) (k : Nat) (own : Bool) (z n : Nat) (zd : D) (ps : List (Nat × IOpd)) (d j o : Nat) : litQ cfg s k own z n zd ps (some (.ref d j o)) = vecV cfg s k own z n zd ps (cd cfg s 0 ps) := rfl
theorem aj8 (s : Get) (k : Nat) (own : Bool) (z n : Nat) (zd : D) (ps : List (Nat × IOpd)) (y : V) (ys : List V) : vecV cfg s k own z n zd ps (some (y :: ys)) = if z = 1 ∧ n = (y :: ys).length then some [(.slot k, .vec (y :: ys))] else litO cfg s k own z n zd ps := rfl
def refsQ (cfg : Cfg) (s : Get) (i j : Nat) (r : List (Nat × IOpd)) : Option V → Option (List V)
  | some (.ref d k o) => if j = i then (cd cfg s (i + 1) r).map (.ref d k o :: ·) else none
  | _ => none
theorem ai1 (s : Get) (i : Nat) : cd cfg s i [] = some [] := rfl
theorem yb (s : Get) (i j : Nat) (x : IOpd) (r : List (Nat × IOpd)) : cd cfg s i ((j, x) :: r) = refsQ cfg s i j r (val cfg s x) := by
  unfold refsQ
  rw [cd]
  rfl
theorem ak5 (s : Get) (i j : Nat) (r : List (Nat × IOpd)) (d k o : Nat) : refsQ cfg s i j r (some (.ref d k o)) = if j = i then (cd cfg s (i + 1) r).map (.ref d k o :: ·) else none := rfl
theorem litO_def (s : Get) (k : Nat) (own : Bool) (z n : Nat) (zd : D) (ps : List (Nat × IOpd)) : litO cfg s k own z n zd ps = (dn cfg s ps).bind fun l =>
    if zd.cells.length = z ∧ n ≤ 1000 ∧ zd.storable then
      (fillE z (List.replicate n zd) l).map fun es => [(.slot k, if n = 0 then .d .nilS else if own then .own true z es else .d (.sl es))] else none := rfl
theorem U_mkI (s : Get) (k : Nat) (t : TypeId) (x : IOpd) : stepU cfg orc dep s ⟨some k, none, .mkI t x⟩ = match val cfg s x with
    | some (.d a) => some [(.slot k, .d (.ifc t a.canon))]
    | some (.ref d j off) => some [(.slot k, .ifc t (.ref d j off))]
    | some (.iptr e 0) => some [(.slot k, .d (.ifc t (.ptr e)))]
    | _ => none := rfl
theorem U_mkS (s : Get) (k z bytes : Nat) (zd : D) (l c : IOpd) : stepU cfg orc dep s ⟨some k, none, .mkS z bytes zd l c⟩ = match (dat cfg s l).bind D.toInt?, (dat cfg s c).bind D.toInt? with
    | some n, some m => if 0 ≤ n ∧ n ≤ m ∧ m ≤ ax ∧ bytes ≤ 2048 ∧ zd.cells.length = z ∧ zd.storable then some [(.slot k, .own true z (List.replicate n.toNat zd))] else none
    | _, _ => none := rfl
theorem U_slice (s : Get) (k z : Nat) (x : IOpd) (lo hi mx : Option IOpd) : stepU cfg orc dep s ⟨some k, none, .slice z x lo hi mx⟩ = (val cfg s x).bind fun v => dp cfg s (some k) z x v lo hi mx := rfl
theorem U_sliceS (s : Get) (k : Nat) (x : IOpd) (lo hi : Option IOpd) : stepU cfg orc dep s ⟨some k, none, .sliceS x lo hi⟩ = match val cfg s x with
    | some (.d (.str b)) => (a8 cfg s b.length lo hi).map fun (l, h) => [(.slot k, .d (.str ((b.take h).drop l)))]
    | _ => none := rfl
theorem U_fieldA (s : Get) (k off : Nat) (x : IOpd) : stepU cfg orc dep s ⟨some k, none, .fieldA off x⟩ = match val cfg s x with
    | some (.ref d j o) => some [(.slot k, .ref d j (o + off))]
    | some (.bref l i o) => some [(.slot k, .bref l i (o + off))]
    | some (.iptr e o) => some [(.slot k, .iptr e (o + off))]
    | some (.d (.ptr e)) => some [(.slot k, .iptr e off)]
    | _ => none := rfl
theorem U_field (s : Get) (k off : Nat) (z : Option Nat) (x : IOpd) : stepU cfg orc dep s ⟨some k, none, .field off z x⟩ = match val cfg s x with
    | some (.d (.agg cs)) => (ldD z (.agg cs) off).map fun r => [(.slot k, .d r)]
    | _ => none := rfl
/-- a field of a struct's value -/
def fldV (k off : Nat) (z : Option Nat) : V → Option (List (Loc × V))
  | .d (.agg cs) => (ldD z (.agg cs) off).map fun r => [(.slot k, .d r)]
  | _ => none
theorem U_fieldV (s : Get) (k off : Nat) (z : Option Nat) (x : IOpd) : stepU cfg orc dep s ⟨some k, none, .field off z x⟩ = (val cfg s x).bind (fldV k off z) := by
  rw [U_field]
  cases val cfg s x with
  | none => rfl
  | some v => cases v with
    | d y => cases y <;> rfl
    | _ => rfl
theorem fldV_agg (k off : Nat) (z : Option Nat) (cs : List D) : fldV k off z (.d (.agg cs)) = (ldD z (.agg cs) off).map fun r => [(.slot k, .d r)] := rfl
theorem U_idxA (s : Get) (k z : Nat) (x i : IOpd) : stepU cfg orc dep s ⟨some k, none, .idxA z x i⟩ = match val cfg s x, (dat cfg s i).bind D.toInt? with
    | some v, some n => evIdx s (some k) z x v n
    | _, _ => none := rfl
theorem U_idxS (s : Get) (k : Nat) (x i : IOpd) : stepU cfg orc dep s ⟨some k, none, .idxS x i⟩ = match val cfg s x, (dat cfg s i).bind D.toInt? with
    | some (.d (.str b)), some n => if n < 0 then none else (b[n.toNat]?).map fun c => [(.slot k, .d (byteD c))]
    | _, _ => none := rfl
theorem U_ext (s : Get) (k : Nat) (x : IOpd) (i : Nat) : stepU cfg orc dep s ⟨some k, none, .ext x i⟩ = match val cfg s x with
    | some (.d (.tup ds)) => (ds[i]?).map fun r => [(.slot k, .d r)]
    | _ => none := rfl
theorem U_lenS (s : Get) (k : Nat) (x : IOpd) : stepU cfg orc dep s ⟨some k, none, .len true x⟩ = match val cfg s x with
    | some (.d (.str b)) => some [(.slot k, .d (.int .i64 b.length))]
    | _ => none := rfl
/-- how long -/
def V.len? : V → Option Nat
  | .d .nilS => some 0
  | .d (.sl es) => some es.length
  | .own _ _ es => some es.length
  | .bor _ _ n => some n
  | .vec ys => some ys.length
  | _ => none
theorem U_len (s : Get) (k : Nat) (x : IOpd) : stepU cfg orc dep s ⟨some k, none, .len false x⟩ = ((val cfg s x).bind V.len?).map fun n => [(.slot k, .d (.int .i64 n))] := by
  show evOp cfg dep s (some k) (.len false x) = _
  simp only [evOp]
  cases val cfg s x with
  | none => rfl
  | some v =>
    simp only [Option.bind_some]
    unfold V.len?
    split <;> first | rfl | (rename_i h1 h2 h3 h4 h5; split <;> first | rfl | exact absurd rfl h1 | exact absurd rfl (h2 _) | exact absurd rfl (h3 _ _ _) | exact absurd rfl (h4 _ _ _) | exact absurd rfl (h5 _))
theorem U_minmax (s : Get) (k : Nat) (mx : Bool) (xs : List IOpd) : stepU cfg orc dep s ⟨some k, none, .minmax mx xs⟩ = (dats cfg s xs).bind fun l => (minD mx l).map fun r => [(.slot k, .d r)] := rfl
theorem U_append (s : Get) (k z bytes : Nat) (x y : IOpd) : stepU cfg orc dep s ⟨some k, none, .append z bytes x y⟩ = match val cfg s x, (val cfg s y).bind (cont s) with
    | some v, some ys => b7 s (some k) z bytes x v ys
    | _, _ => none := rfl
theorem apy (s : Get) (k : Nat) (x y : IOpd) : stepU cfg orc dep s ⟨some k, none, .appendS x y⟩ = match val cfg s x, val cfg s y with
    | some v, some (.d (.str b)) => b7 s (some k) 1 1 x v (b.map byteD)
    | _, _ => none := rfl
theorem U_copy (s : Get) (k z : Nat) (x y : IOpd) : stepU cfg orc dep s ⟨some k, none, .copy z x y⟩ = match val cfg s x, (val cfg s y).bind (cont s) with
    | some v, some ys => jf s (some k) z x v ys
    | _, _ => none := rfl
theorem U_tass (s : Get) (k : Nat) (t : TypeId) (zero : D) (ok : Bool) (x : IOpd) : stepU cfg orc dep s ⟨some k, none, .tass t zero ok x⟩ = (val cfg s x).bind fun v => w9 (some k) t zero ok v := rfl
theorem U_call (s : Get) (k : Nat) (own : Bool) (f : FuncId) (args : List IOpd) (hc : clipArg cfg (.call own f args) = none) : stepU cfg orc dep s ⟨some k, none, .call own f args⟩ = (vals cfg s args).bind fun vs => callW cfg orc s (some k) own f args vs := by
  unfold stepU
  simp only [guardOk, Option.isNone_some, Bool.false_and, Bool.false_eq_true, if_false, isCallOp, if_true, hc, target]
  cases vals cfg s args <;> rfl
theorem kd {own : Bool} {f : FuncId} {args : List IOpd} (h : cfg.clip f = false) : clipArg cfg (.call own f args) = none := by
  unfold clipArg
  split
  · rename_i e; cases e; rw [h]; rfl
  · rfl
theorem U_call' (s : Get) (k : Nat) (own : Bool) (f : FuncId) (args : List IOpd) (hc : cfg.clip f = false) : stepU cfg orc dep s ⟨some k, none, .call own f args⟩ = (vals cfg s args).bind fun vs => callW cfg orc s (some k) own f args vs :=
  U_call s k own f args (kd hc)
theorem U_clip (s : Get) (k : Nat) (own : Bool) (f : FuncId) (x : IOpd) (hc : cfg.clip f = true) : stepU cfg orc dep s ⟨some k, none, .call own f [x]⟩ = (val cfg s x).bind fun v => evClip (some k) x v := by
  unfold stepU
  simp only [guardOk, Option.isNone_some, Bool.false_and, Bool.false_eq_true, if_false, isCallOp, if_true, clipArg, hc]

end Go.Ev
