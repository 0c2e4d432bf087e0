/- What the evaluator's values and blocks say of the model's memory. Own work. -/
import Derived.Test.YtplmdlobbfcknaaGreatDoorMeX
import Derived.RowKit
namespace Go.Me
open Go

/-- where blocks stand; the room of those whose room is not known, and how far behind the array's beginning they begin -/
structure Nm where
  at_ : Nat → Option Nat
  rm : Nat → Nat × Nat
instance : CoeFun Nm (fun _ => Nat → Option Nat) := ⟨Nm.at_⟩
def Nm.none : Nm := ⟨fun _ => Option.none, fun _ => (0, 0)⟩

/-- the value v is what x says, the blocks being named by ν -/
inductive VR (ν : Nm) : M → Value → Prop
  | bool (b : Bool) : VR ν (.bool b) (.bool b)
  | int (k : IntKind) (n : Int) : VR ν (.int k n) (.int k n)
  | str (s : List UInt8) : VR ν (.str s) (.string ⟨s.toArray⟩)
  | ptr (b o c : Nat) (h : ν b = some c) : VR ν (.ptr b o) (.pointer (some ⟨c, o + (ν.rm b).2, none⟩))
  | glob (g o : Nat) : VR ν (.glob g o) (.pointer (some ⟨g, o, none⟩))
  | nilP : VR ν .nilP (.pointer none)
  | sl (b o n : Nat) (k : Option Nat) (c cap : Nat) (h : ν b = some c) (hc : n ≤ cap) (hk : ∀ m, k = some m → cap = m) (hr : k = none → o = 0 → cap = (ν.rm b).1) : VR ν (.sl b o n k) (.slice (some ⟨c, o + (ν.rm b).2, none⟩) n cap)
  | slz (a : Addr) (cap : Nat) : VR ν .slz (.slice (some a) 0 cap)
  | nilS : VR ν .nilS (.slice none 0 0)
  | fn (f : Fn) (p q : List M) (vp vq : List Value) (hp : p.length = vp.length) (hq : q.length = vq.length)
      (h : ∀ (i : Nat) x v, p[i]? = some x → vp[i]? = some v → VR ν x v) (h' : ∀ (i : Nat) x v, q[i]? = some x → vq[i]? = some v → VR ν x v) : VR ν (.fn f p q) (.func f vp.toArray vq.toArray)
  | nilF : VR ν .nilF .nilFunc
  | ifc (t : TypeId) (x : M) (v : Value) (h : VR ν x v) : VR ν (.ifc t x) (.iface t v)
  | nilI : VR ν .nilI .nilIface
  | map (b c : Nat) (h : ν b = some c) : VR ν (.map b) (.map (some c))
  | nilM : VR ν .nilM (.map none)
  | agg (l : List M) (vs : List Value) (hl : l.length = vs.length) (h : ∀ (i : Nat) x v, l[i]? = some x → vs[i]? = some v → VR ν x v) : VR ν (.agg l) (.agg vs.toArray)
  | tup (l : List M) (vs : List Value) (hl : l.length = vs.length) (h : ∀ (i : Nat) x v, l[i]? = some x → vs[i]? = some v → VR ν x v) : VR ν (.tup l) (.tuple vs.toArray)
  | junk (v : Value) : VR ν .junk v

/-- lists, place by place -/
def VRs (ν : Nm) (l : List M) (vs : List Value) : Prop := l.length = vs.length ∧ ∀ (i : Nat) x v, l[i]? = some x → vs[i]? = some v → VR ν x v

def Nm.le (ν ν' : Nm) : Prop := ∀ b c, ν b = some c → ν' b = some c ∧ ν'.rm b = ν.rm b

theorem VR.mono {ν ν' : Nm} {x : M} {v : Value} (h : VR ν x v) (hl : ν.le ν') : VR ν' x v := by
  induction h with
  | bool b => exact .bool b
  | int k n => exact .int k n
  | str s => exact .str s
  | ptr b o c h => rw [← (hl _ _ h).2]; exact .ptr b o c (hl _ _ h).1
  | glob g o => exact .glob g o
  | nilP => exact .nilP
  | sl b o n k c cap h hc hk hr => rw [← (hl _ _ h).2]; exact .sl b o n k c cap (hl _ _ h).1 hc hk fun h1 h2 => by rw [(hl _ _ h).2]; exact hr h1 h2
  | slz a cap => exact .slz a cap
  | nilS => exact .nilS
  | fn f p q vp vq hp hq _ _ ih ih' => exact .fn f p q vp vq hp hq ih ih'
  | nilF => exact .nilF
  | ifc t x v _ ih => exact .ifc t x v ih
  | nilI => exact .nilI
  | map b c h => exact .map b c (hl _ _ h).1
  | nilM => exact .nilM
  | agg l vs hl' _ ih => exact .agg l vs hl' ih
  | tup l vs hl' _ ih => exact .tup l vs hl' ih
  | junk v => exact .junk v

theorem VR.ptr0 {ν : Nm} {b o c : Nat} (h : ν b = some c) (hs : (ν.rm b).2 = 0) : VR ν (.ptr b o) (.pointer (some ⟨c, o, none⟩)) := by
  have := VR.ptr (ν := ν) b o c h
  rwa [hs] at this
theorem VR.sl0 {ν : Nm} {b o n : Nat} {k : Option Nat} {c cap : Nat} (h : ν b = some c) (hs : (ν.rm b).2 = 0) (hc : n ≤ cap) (hk : ∀ m, k = some m → cap = m) (hr : k = none → o = 0 → cap = (ν.rm b).1) : VR ν (.sl b o n k) (.slice (some ⟨c, o, none⟩) n cap) := by
  have := VR.sl (ν := ν) b o n k c cap h hc hk hr
  rwa [hs] at this

namespace VRs
variable {ν : Nm}
theorem nil : VRs ν [] [] := ⟨rfl, fun i x v h => by simp at h⟩
theorem cons {x : M} {v : Value} {l : List M} {vs : List Value} (h : VR ν x v) (hl : VRs ν l vs) : VRs ν (x :: l) (v :: vs) := by
  refine ⟨by simp [hl.1], fun i y u h1 h2 => ?_⟩
  cases i with
  | zero => simp at h1 h2; subst h1; subst h2; exact h
  | succ i => simp at h1 h2; exact hl.2 i y u h1 h2
theorem inv_nil {vs : List Value} (h : VRs ν [] vs) : vs = [] := List.eq_nil_of_length_eq_zero h.1.symm
theorem inv_cons {x : M} {l : List M} {vs : List Value} (h : VRs ν (x :: l) vs) : ∃ v r, vs = v :: r ∧ VR ν x v ∧ VRs ν l r := by
  cases vs with
  | nil => have := h.1; simp at this
  | cons v r => exact ⟨v, r, rfl, h.2 0 x v rfl rfl, by have := h.1; simpa using this, fun i y u h1 h2 => h.2 (i + 1) y u (by simpa using h1) (by simpa using h2)⟩
theorem app {l m : List M} {vs us : List Value} (h : VRs ν l vs) (k : VRs ν m us) : VRs ν (l ++ m) (vs ++ us) := by
  induction l generalizing vs with
  | nil => rw [h.inv_nil]; exact k
  | cons x l ih =>
    obtain ⟨v, r, rfl, h1, h2⟩ := h.inv_cons
    exact .cons h1 (ih h2)
theorem get {l : List M} {vs : List Value} (h : VRs ν l vs) {i : Nat} {x : M} (hx : l[i]? = some x) : ∃ v, vs[i]? = some v ∧ VR ν x v := by
  have hi : i < l.length := (List.getElem?_eq_some_iff.1 hx).1
  have hi' : i < vs.length := by rw [← h.1]; exact hi
  exact ⟨vs[i], List.getElem?_eq_getElem hi', h.2 i x _ hx (List.getElem?_eq_getElem hi')⟩
theorem mono {ν' : Nm} {l : List M} {vs : List Value} (h : VRs ν l vs) (hl : ν.le ν') : VRs ν' l vs := ⟨h.1, fun i x v h1 h2 => (h.2 i x v h1 h2).mono hl⟩
theorem drop {l : List M} {vs : List Value} (h : VRs ν l vs) (n : Nat) : VRs ν (l.drop n) (vs.drop n) := ⟨by simp [h.1], fun i x v h1 h2 => h.2 (n + i) x v (by simpa using h1) (by simpa using h2)⟩
theorem take {l : List M} {vs : List Value} (h : VRs ν l vs) (n : Nat) : VRs ν (l.take n) (vs.take n) := by
  refine ⟨by simp [h.1], fun i x v h1 h2 => ?_⟩
  rw [List.getElem?_take] at h1 h2
  split at h1
  · rename_i hi; rw [if_pos hi] at h2; exact h.2 i x v h1 h2
  · cases h1
theorem set {l : List M} {vs : List Value} (h : VRs ν l vs) (n : Nat) {x : M} {v : Value} (hx : VR ν x v) : VRs ν (l.set n x) (vs.set n v) := by
  refine ⟨by simp [h.1], fun i y u h1 h2 => ?_⟩
  rw [List.getElem?_set] at h1 h2
  split at h1
  · rename_i hi
    rw [if_pos hi] at h2
    split at h1
    · rename_i hl
      rw [if_pos (by rw [← h.1]; exact hl)] at h2
      cases h1; cases h2; exact hx
    · cases h1
  · rename_i hi; rw [if_neg hi] at h2; exact h.2 i y u h1 h2
end VRs

section
variable {ν : Nm}
theorem VR.agg' {l : List M} {vs : List Value} (h : VRs ν l vs) : VR ν (.agg l) (.agg vs.toArray) := .agg l vs h.1 h.2
theorem VR.tup' {l : List M} {vs : List Value} (h : VRs ν l vs) : VR ν (.tup l) (.tuple vs.toArray) := .tup l vs h.1 h.2
theorem VR.agg_inv {l : List M} {v : Value} (h : VR ν (.agg l) v) : ∃ vs, v = .agg vs.toArray ∧ VRs ν l vs := by cases h with | agg _ vs hl h => exact ⟨vs, rfl, hl, h⟩
theorem VR.tup_inv {l : List M} {v : Value} (h : VR ν (.tup l) v) : ∃ vs, v = .tuple vs.toArray ∧ VRs ν l vs := by cases h with | tup _ vs hl h => exact ⟨vs, rfl, hl, h⟩
theorem VR.ifc_inv {t : TypeId} {x : M} {v : Value} (h : VR ν (.ifc t x) v) : ∃ u, v = .iface t u ∧ VR ν x u := by cases h with | ifc _ _ u h => exact ⟨u, rfl, h⟩
theorem VR.fn_inv {f : Fn} {p q : List M} {v : Value} (h : VR ν (.fn f p q) v) : ∃ vp vq : List Value, v = .func f vp.toArray vq.toArray ∧ VRs ν p vp ∧ VRs ν q vq := by
  cases h with | fn _ _ _ vp vq hp hq h h' => exact ⟨vp, vq, rfl, ⟨hp, h⟩, hq, h'⟩

/-- a value that stands in one cell is no row of cells -/
theorem VR.cell {x : M} {v : Value} (h : VR ν x v) (hx : x.cell = true) : (∀ a, v ≠ .agg a) ∧ (∀ a, v ≠ .tuple a) ∧ v.cells = #[v] := by
  cases h <;> first | (simp [M.cell] at hx; done) | exact ⟨by simp, by simp, rfl⟩
theorem VR.cells {x : M} {v : Value} (h : VR ν x v) (hx : x.cells.all M.cell = true) : VRs ν x.cells v.cells.toList := by
  by_cases hc : x.cell = true
  · have : x.cells = [x] := by cases x <;> first | rfl | (simp [M.cell] at hc; done)
    rw [this, (h.cell hc).2.2]
    exact .cons h .nil
  · cases h with
    | agg l vs hl h => exact ⟨by simpa [M.cells, Value.cells] using hl, fun i x v h1 h2 => h i x v (by simpa [M.cells] using h1) (by simpa [Value.cells] using h2)⟩
    | tup => simp [M.cells, M.cell] at hx
    | junk => simp [M.cells, M.cell] at hx
    | _ => simp [M.cell] at hc

/-! values without addresses -/
mutual
theorem VR.toV : ∀ {x : M} {v u : Value}, VR ν x v → Me.toV x = some u → v = u
  | .bool b, v, u, h, e => by cases h; simpa [Me.toV] using e
  | .int k n, v, u, h, e => by cases h; simpa [Me.toV] using e
  | .str s, v, u, h, e => by cases h; simpa [Me.toV] using e
  | .ptr b o, v, u, h, e => by simp [Me.toV] at e
  | .glob g o, v, u, h, e => by cases h; simpa [Me.toV] using e
  | .nilP, v, u, h, e => by cases h; simpa [Me.toV] using e
  | .sl b o n c, v, u, h, e => by simp [Me.toV] at e
  | .slz, v, u, h, e => by simp [Me.toV] at e
  | .nilS, v, u, h, e => by cases h; simpa [Me.toV] using e
  | .fn f p q, v, u, h, e => by simp [Me.toV] at e
  | .nilF, v, u, h, e => by cases h; simpa [Me.toV] using e
  | .ifc t x, v, u, h, e => by
    obtain ⟨w, rfl, hw⟩ := h.ifc_inv
    unfold Me.toV at e
    split at e
    · rename_i u' hu
      cases e
      rw [VR.toV hw hu]
    · cases e
  | .nilI, v, u, h, e => by cases h; simpa [Me.toV] using e
  | .map b, v, u, h, e => by simp [Me.toV] at e
  | .nilM, v, u, h, e => by cases h; simpa [Me.toV] using e
  | .agg l, v, u, h, e => by
    obtain ⟨vs, rfl, hv⟩ := h.agg_inv
    unfold Me.toV at e
    split at e
    · rename_i us hu
      cases e
      rw [VRs.toVs hv hu]
    · cases e
  | .tup l, v, u, h, e => by simp [Me.toV] at e
  | .junk, v, u, h, e => by simp [Me.toV] at e
theorem VRs.toVs : ∀ {l : List M} {vs us : List Value}, VRs ν l vs → Me.toVs l = some us → vs = us
  | [], vs, us, h, e => by rw [h.inv_nil]; simpa [Me.toVs] using e
  | x :: l, vs, us, h, e => by
    obtain ⟨v, r, rfl, h1, h2⟩ := h.inv_cons
    unfold Me.toVs at e
    split at e
    · rename_i a b ha hb
      cases e
      rw [VR.toV h1 ha, VRs.toVs h2 hb]
    · cases e
end
theorem vr_ofV0 {v : Value} {x : M} (e : ofV0 v = some x) : VR ν x v := by
  unfold ofV0 at e
  split at e <;> first | (cases e; done) | skip
  all_goals cases e
  · exact .bool _
  · exact .int _ _
  · exact .str _
  · exact .nilP
  · exact .glob _ _
  · exact .nilS
  · exact .nilM
  · exact .nilF
  · exact .nilI
theorem vr_ofVs : ∀ {l : List Value} {xs : List M}, ofVs l = some xs → VRs ν xs l
  | [], _, e => by simp [ofVs] at e; subst e; exact .nil
  | v :: l, xs, e => by
    unfold ofVs at e
    split at e
    · rename_i h1 h2
      cases e
      exact .cons (vr_ofV0 h1) (vr_ofVs h2)
    · cases e
theorem vr_ofV {v : Value} {x : M} (e : ofV v = some x) : VR ν x v := by
  unfold ofV at e
  split at e
  · split at e
    · rename_i h; cases e; have := vr_ofVs (ν := ν) h; exact VR.agg' this
    · cases e
  · split at e
    · rename_i h; cases e; have := vr_ofVs (ν := ν) h; exact .ifc _ _ _ (VR.agg' this)
    · cases e
  · split at e
    · rename_i h; cases e; exact .ifc _ _ _ (vr_ofV0 h)
    · cases e
  · exact vr_ofV0 e
end

theorem pureRun_run {α : Type} {P : Program} (w : World) : ∀ {s : Sem α} {a : α}, pureRun P s = some a → s.run P w = .ok a w := by
  intro s
  induction s with
  | pure b => intro a h; simp [pureRun] at h; subst h; rfl
  | program k ih => intro a h; exact ih P h
  | mark m k ih => intro a h; exact ih h
  | _ => intro a h; simp [pureRun] at h
end Go.Me
