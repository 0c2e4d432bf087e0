/- Arguments of rows: a stripe's footer. -/
import Derived.Test.YtpflgebgmhnipaaGreatDoorSfC
import Derived.Test.YtpflgebgmhnipaaGreatDoorL12
namespace Go.Proofs.YtpflgebgmhnipaaGreatDoor
open Go Go.Ev Go.RowKit
set_option linter.unusedVariables false
set_option linter.unusedSimpArgs false

section
variable {P : Program} {w : World} {n : Nat} {t : TypeId}
/-- a struct all of whose fields are one cell -/
theorem isF_struct {fs : Array Field} (ht : P.underlying t = some (.struct fs)) (hc : P.cellsOf t = fs.size) (hoff : ∀ (i : Nat) f, fs[i]? = some f → f.offset = i ∧ P.cellsOf f.type = 1) {G : Nat → D → Prop}
    (hG : ∀ m, m < n → ∀ (i : Nat) f, fs[i]? = some f → IsF P w m f.type fun xs => ∃ d, xs = [d] ∧ G i d) : IsF P w n t fun xs => xs.length = fs.size ∧ ∀ (i : Nat), i < fs.size → ∃ d, xs[i]? = some d ∧ G i d := by
  intro H enc base spare held cs x h
  obtain ⟨ys, m, rfl, _, hl, hyl, hy⟩ := DataW.trod_struct ht h
  rw [hc] at hl
  have key : ∀ i, ∃ d : D, i < fs.size → (∃ v, cs[i]? = some v ∧ Rd anyB w v d) ∧ d.isCell = true ∧ G i d := fun i => by
    by_cases hi : i < fs.size
    · obtain ⟨f, hf⟩ : ∃ f, fs[i]? = some f := ⟨_, Array.getElem?_eq_getElem hi⟩
      obtain ⟨ho, h1⟩ := hoff i f hf
      have h2 := hy i f hf
      rw [ho, h1, List.getElem?_eq_getElem (by omega)] at h2
      obtain ⟨zs, ⟨q1, q2, q3⟩, d, rfl, hg⟩ := hG m (Nat.lt_succ_self m) i f hf H enc base spare held _ _ h2
      have hlt : i < cs.length := by omega
      have e : (cs.drop i).take 1 = [cs[i]] := by
        rw [List.drop_eq_getElem_cons hlt]; rfl
      refine ⟨d, fun _ => ⟨⟨cs[i], List.getElem?_eq_getElem hlt, q3 0 cs[i] d (by rw [e]; rfl) rfl⟩, q2 d (by simp), hg⟩⟩
    · exact ⟨.nilP, fun h => absurd h hi⟩
  refine ⟨(List.range fs.size).map fun i => (key i).choose, ⟨by simp [hl], fun c hc => ?_, fun i v c h1 h2 => ?_⟩, by simp, fun i hi => ⟨(key i).choose, by simp [hi], ((key i).choose_spec hi).2.2⟩⟩
  · obtain ⟨i, hi, rfl⟩ := List.mem_map.1 hc
    exact ((key i).choose_spec (List.mem_range.1 hi)).2.1
  · have hi : i < fs.size := by
      have := (List.getElem?_eq_some_iff.1 h1).1
      omega
    rw [List.getElem?_map, List.getElem?_range hi] at h2
    cases h2
    obtain ⟨⟨v', h3, h4⟩, _⟩ := (key i).choose_spec hi
    rw [h1] at h3
    cases h3
    exact h4
theorem isF_mono {G G' : List D → Prop} (h : IsF P w n t G) (hg : ∀ xs, G xs → G' xs) : IsF P w n t G' := fun H enc base spare held cs x hx => let ⟨xs, h1, h2⟩ := h H enc base spare held cs x hx; ⟨xs, h1, hg xs h2⟩
end
theorem list_of {α : Type} {f : α → D} : ∀ es : List D, (∀ d ∈ es, ∃ x, d = f x) → ∃ l : List α, es = l.map f
  | [], _ => ⟨[], rfl⟩
  | d :: es, h => by
    obtain ⟨x, rfl⟩ := h d (by simp)
    obtain ⟨l, rfl⟩ := list_of es fun d hd => h d (by simp [hd])
    exact ⟨x :: l, rfl⟩
theorem isF_int3 {w : World} (m : Nat) : IsF Tryz.prog w m 3 fun xs => ∃ d, xs = [d] ∧ ∃ k, d = .int .i64 k := isF_mono (IsF.int Tryz.underlying3) fun xs ⟨k, hx, _⟩ => ⟨_, hx, k, rfl⟩
theorem isF_pl {w : World} (n : Nat) : IsF Tryz.prog w n 46 fun xs => ∃ p : Int × Int × Int, xs = [.int .i64 p.1, .int .i64 p.2.1, .int .i64 p.2.2] := by
  refine isF_mono (isF_struct (G := fun _ d => ∃ k, d = .int .i64 k) Tryz.underlying46 (show Tryz.prog.cellsOf 46 = 3 by kernel_rfl) (fun i f hf => ?_) (fun m hm i f hf => ?_)) fun xs ⟨hl, hx⟩ => ?_
  · match i, hf with
    | 0, hf => cases hf; exact ⟨rfl, by kernel_rfl⟩
    | 1, hf => cases hf; exact ⟨rfl, by kernel_rfl⟩
    | 2, hf => cases hf; exact ⟨rfl, by kernel_rfl⟩
    | i + 3, hf => simp at hf
  · match i, hf with
    | 0, hf => cases hf; exact isF_int3 m
    | 1, hf => cases hf; exact isF_int3 m
    | 2, hf => cases hf; exact isF_int3 m
    | i + 3, hf => simp at hf
  · have hl' : xs.length = 3 := hl
    obtain ⟨d0, e0, a, rfl⟩ := hx 0 (show 0 < 3 by decide)
    obtain ⟨d1, e1, b, rfl⟩ := hx 1 (show 1 < 3 by decide)
    obtain ⟨d2, e2, c, rfl⟩ := hx 2 (show 2 < 3 by decide)
    match xs, hl', e0, e1, e2 with
    | [x, y, z], _, e0, e1, e2 =>
      cases e0; cases e1; cases e2
      exact ⟨(a, b, c), rfl⟩
theorem isF_en {w : World} (n : Nat) : IsF Tryz.prog w n 48 fun xs => ∃ p : Int × Int, xs = [.int .i64 p.1, .int .i64 p.2] := by
  refine isF_mono (isF_struct (G := fun _ d => ∃ k, d = .int .i64 k) Tryz.underlying48 (show Tryz.prog.cellsOf 48 = 2 by kernel_rfl) (fun i f hf => ?_) (fun m hm i f hf => ?_)) fun xs ⟨hl, hx⟩ => ?_
  · match i, hf with
    | 0, hf => cases hf; exact ⟨rfl, by kernel_rfl⟩
    | 1, hf => cases hf; exact ⟨rfl, by kernel_rfl⟩
    | i + 2, hf => simp at hf
  · match i, hf with
    | 0, hf => cases hf; exact isF_int3 m
    | 1, hf => cases hf; exact isF_int3 m
    | i + 2, hf => simp at hf
  · have hl' : xs.length = 2 := hl
    obtain ⟨d0, e0, a, rfl⟩ := hx 0 (show 0 < 2 by decide)
    obtain ⟨d1, e1, b, rfl⟩ := hx 1 (show 1 < 2 by decide)
    match xs, hl', e0, e1 with
    | [x, y], _, e0, e1 =>
      cases e0; cases e1
      exact ⟨(a, b), rfl⟩
def GF : Nat → D → Prop := fun i d => match i with
  | 0 => ∃ l : List (Int × Int × Int), d = .sl (l.map plI) ∧ l.length ≤ maxLen
  | _ => ∃ l : List (Int × Int), d = .sl (l.map enI) ∧ l.length ≤ maxLen
theorem isF_foot {w : World} (n : Nat) : IsF Tryz.prog w n 27 fun xs => ∃ (ps : List (Int × Int × Int)) (es : List (Int × Int)), xs = [.sl (ps.map plI), .sl (es.map enI)] ∧ ps.length ≤ maxLen ∧ es.length ≤ maxLen := by
  refine isF_mono (isF_struct (G := GF) Tryz.underlying27 (show Tryz.prog.cellsOf 27 = 2 by kernel_rfl) (fun i f hf => ?_) (fun m hm i f hf => ?_)) fun xs ⟨hl, hx⟩ => ?_
  · match i, hf with
    | 0, hf => cases hf; exact ⟨rfl, by kernel_rfl⟩
    | 1, hf => cases hf; exact ⟨rfl, by kernel_rfl⟩
    | i + 2, hf => simp at hf
  · match i, hf with
    | 0, hf =>
      cases hf
      refine isF_mono (IsF.slice (P := Tryz.prog) (w := w) (n := m) Tryz.underlying24 (by rw [show Tryz.prog.cellsOf 46 = 3 by kernel_rfl]; decide) (fun k hk => isF_pl k) D.agg (fun xs _ _ => rfl)) fun xs ⟨es, hx, hl, hes⟩ => ?_
      obtain ⟨l, rfl⟩ := list_of (f := plI) es fun d hd => by
        obtain ⟨ys, ⟨t, rfl⟩, _, rfl⟩ := hes d hd
        exact ⟨t, rfl⟩
      exact ⟨_, hx, l, rfl, by simpa using hl⟩
    | 1, hf =>
      cases hf
      refine isF_mono (IsF.slice (P := Tryz.prog) (w := w) (n := m) Tryz.underlying25 (by rw [show Tryz.prog.cellsOf 48 = 2 by kernel_rfl]; decide) (fun k hk => isF_en k) D.agg (fun xs _ _ => rfl)) fun xs ⟨es, hx, hl, hes⟩ => ?_
      obtain ⟨l, rfl⟩ := list_of (f := enI) es fun d hd => by
        obtain ⟨ys, ⟨t, rfl⟩, _, rfl⟩ := hes d hd
        exact ⟨t, rfl⟩
      exact ⟨_, hx, l, rfl, by simpa using hl⟩
    | i + 2, hf => simp at hf
  · have hl' : xs.length = 2 := hl
    obtain ⟨d0, e0, ps, rfl, hps⟩ := hx 0 (show 0 < 2 by decide)
    obtain ⟨d1, e1, es, rfl, hes⟩ := hx 1 (show 1 < 2 by decide)
    match xs, hl', e0, e1 with
    | [x, y], _, e0, e1 =>
      cases e0; cases e1
      exact ⟨ps, es, rfl, hps, hes⟩
section
variable {W : World} {H : Type} {enc : TypeId × Value → H} {base : Nat} {spare : Nat → Bool} {held : Bool} {cs : Array Value} {x : DataW H × List MemPlace}
theorem read_foot (h : ∃ fuel, DataW.trod enc Tryz.prog W base spare held fuel 27 (Value.agg cs).cells.toList = some x) :
    ∃ a : List (Int × Int × Int) × List (Int × Int), (a.1.length ≤ maxLen ∧ a.2.length ≤ maxLen) ∧ Rd anyB W (.agg cs) (fI a.1 a.2) := by
  obtain ⟨fuel, hf⟩ := h
  obtain ⟨xs, ⟨h1, h2, h3⟩, ps, es, rfl, hps, hes⟩ := isF_foot fuel H enc base spare held _ _ hf
  exact ⟨(ps, es), ⟨hps, hes⟩, Rd.agg cs.toList _ h1 h2 h3⟩
end
end Go.Proofs.YtpflgebgmhnipaaGreatDoor
