/- Arguments of rows: a user's data. -/
import Derived.Test.YtpnhljhciibfnaaGreatDoorFtT
import Derived.Test.YtpnhljhciibfnaaGreatDoorL13
namespace Go.Proofs.YtpnhljhciibfnaaGreatDoor
open Go Go.Ev Go.RowKit
set_option linter.unusedVariables false
set_option linter.unusedSimpArgs false

section
variable {P : Program} {w : World} {n : Nat} {t : TypeId}
/-- a struct all of whose fields are one cell -/
theorem isF_struct {fs : Array Field} (ht : P.underlying t = some (.struct fs)) (hc : P.cellsOf t = fs.size) (hoff : ∀ (i : Nat) f, fs[i]? = some f → f.offset = i ∧ P.cellsOf f.type = 1) {G : Nat → D → Prop}
    (hG : ∀ m, m < n → ∀ (i : Nat) f, fs[i]? = some f → IsF P w m f.type fun xs => ∃ d, xs = [d] ∧ G i d) : IsF P w n t fun xs => xs.length = fs.size ∧ ∀ (i : Nat), i < fs.size → ∃ d, xs[i]? = some d ∧ G i d := by
  intro H enc base spare held cs x h
  obtain ⟨ys, m, rfl, _, hl, hyl, hy⟩ := DataW.trod_struct ht h
  rw [hc] at hl
  have key : ∀ i, ∃ d : D, i < fs.size → (∃ v, cs[i]? = some v ∧ Rd anyB w v d) ∧ d.isCell = true ∧ G i d := fun i => by
    by_cases hi : i < fs.size
    · obtain ⟨f, hf⟩ : ∃ f, fs[i]? = some f := ⟨_, Array.getElem?_eq_getElem hi⟩
      obtain ⟨ho, h1⟩ := hoff i f hf
      have h2 := hy i f hf
      rw [ho, h1, List.getElem?_eq_getElem (by omega)] at h2
      obtain ⟨zs, ⟨q1, q2, q3⟩, d, rfl, hg⟩ := hG m (Nat.lt_succ_self m) i f hf H enc base spare held _ _ h2
      have hlt : i < cs.length := by omega
      have e : (cs.drop i).take 1 = [cs[i]] := by
        rw [List.drop_eq_getElem_cons hlt]; rfl
      refine ⟨d, fun _ => ⟨⟨cs[i], List.getElem?_eq_getElem hlt, q3 0 cs[i] d (by rw [e]; rfl) rfl⟩, q2 d (by simp), hg⟩⟩
    · exact ⟨.nilP, fun h => absurd h hi⟩
  refine ⟨(List.range fs.size).map fun i => (key i).choose, ⟨by simp [hl], fun c hc => ?_, fun i v c h1 h2 => ?_⟩, by simp, fun i hi => ⟨(key i).choose, by simp [hi], ((key i).choose_spec hi).2.2⟩⟩
  · obtain ⟨i, hi, rfl⟩ := List.mem_map.1 hc
    exact ((key i).choose_spec (List.mem_range.1 hi)).2.1
  · have hi : i < fs.size := by
      have := (List.getElem?_eq_some_iff.1 h1).1
      omega
    rw [List.getElem?_map, List.getElem?_range hi] at h2
    cases h2
    obtain ⟨⟨v', h3, h4⟩, _⟩ := (key i).choose_spec hi
    rw [h1] at h3
    cases h3
    exact h4
theorem isF_mono {G G' : List D → Prop} (h : IsF P w n t G) (hg : ∀ xs, G xs → G' xs) : IsF P w n t G' := fun H enc base spare held cs x hx => let ⟨xs, h1, h2⟩ := h H enc base spare held cs x hx; ⟨xs, h1, hg xs h2⟩
end
theorem list_of {α : Type} {f : α → D} : ∀ es : List D, (∀ d ∈ es, ∃ x, d = f x) → ∃ l : List α, es = l.map f
  | [], _ => ⟨[], rfl⟩
  | d :: es, h => by
    obtain ⟨x, rfl⟩ := h d (by simp)
    obtain ⟨l, rfl⟩ := list_of es fun d hd => h d (by simp [hd])
    exact ⟨x :: l, rfl⟩
def GP : Nat → D → Prop := fun i d => match i with
  | 0 => ∃ b : List UInt8, d = .str b
  | _ => ∃ b : List UInt8, d = .sl (b.map byteD)
theorem isF_pair {w : World} (n : Nat) : IsF Tryz.prog w n 56 fun xs => ∃ p : Pr, xs = [.str p.1, .sl (p.2.map byteD)] := by
  refine isF_mono (isF_struct (G := GP) Tryz.underlying56 (show Tryz.prog.cellsOf 56 = 2 by kernel_rfl) (fun i f hf => ?_) (fun m hm i f hf => ?_)) fun xs ⟨hl, hx⟩ => ?_
  · match i, hf with
    | 0, hf => cases hf; exact ⟨rfl, by kernel_rfl⟩
    | 1, hf => cases hf; exact ⟨rfl, by kernel_rfl⟩
    | i + 2, hf => simp at hf
  · match i, hf with
    | 0, hf => cases hf; exact isF_mono (IsF.str Tryz.underlying9) fun xs ⟨s, hx, _⟩ => ⟨_, hx, s, rfl⟩
    | 1, hf => cases hf; exact isF_mono (isF_txt Tryz.underlying26 Tryz.underlying5 (by kernel_rfl)) fun xs ⟨b, hx, _⟩ => ⟨_, hx, b, rfl⟩
    | i + 2, hf => simp at hf
  · have hl' : xs.length = 2 := hl
    obtain ⟨d0, e0, a, rfl⟩ := hx 0 (show 0 < 2 by decide)
    obtain ⟨d1, e1, b, rfl⟩ := hx 1 (show 1 < 2 by decide)
    match xs, hl', e0, e1 with
    | [x, y], _, e0, e1 =>
      cases e0; cases e1
      exact ⟨(a, b), rfl⟩
theorem isF_pairs {w : World} (n : Nat) : IsF Tryz.prog w n 54 fun xs => ∃ l : List Pr, xs = [.sl (l.map prD)] ∧ l.length ≤ maxLen := by
  refine isF_mono (IsF.slice (P := Tryz.prog) (w := w) (n := n) Tryz.underlying54 (by rw [show Tryz.prog.cellsOf 56 = 2 by kernel_rfl]; decide) (fun k hk => isF_pair k) D.agg (fun xs _ _ => rfl)) fun xs ⟨es, hx, hl, hes⟩ => ?_
  obtain ⟨l, rfl⟩ := list_of (f := prD) es fun d hd => by
    obtain ⟨ys, ⟨t, rfl⟩, _, rfl⟩ := hes d hd
    exact ⟨t, rfl⟩
  exact ⟨l, hx, by simpa using hl⟩
section
variable {W : World} {H : Type} {enc : TypeId × Value → H} {base : Nat} {spare : Nat → Bool} {held : Bool} {x : DataW H × List MemPlace} {v : Value}
theorem read_pairs (h : ∃ fuel, DataW.trod enc Tryz.prog W base spare held fuel 54 v.cells.toList = some x) (hc : v.cells.toList = [v]) :
    ∃ a : List Pr, a.length ≤ maxLen ∧ Rd anyB W v (.sl (a.map prD)) := by
  obtain ⟨fuel, hf⟩ := h
  rw [hc] at hf
  obtain ⟨xs, ⟨h1, h2, h3⟩, l, rfl, hl⟩ := isF_pairs fuel H enc base spare held _ _ hf
  exact ⟨l, hl, h3 0 v _ rfl rfl⟩
end
end Go.Proofs.YtpnhljhciibfnaaGreatDoor
