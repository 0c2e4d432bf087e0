/- The evaluator of Go code and its proofs, part 12. Own work. -/
import Derived.Test.YtnabebdceaoiiaaGreatDoorL11
import Derived.OpenShut
set_option linter.unusedVariables false
set_option linter.unusedSimpArgs false
set_option linter.unusedSectionVars false
/-! PlNums -/
/- Numbers as bytes, in plain words. Own work. -/
namespace Go.Ev
open Go

def inI (n : Int) : Prop := -9223372036854775808 ≤ n ∧ n < 9223372036854775808
instance (n : Int) : Decidable (inI n) := by unfold inI; infer_instance
theorem tdp {a k : Int} (h : 0 ≤ a) : a.tdiv k = a / k := Int.tdiv_eq_ediv_of_nonneg h
theorem tmp {a k : Int} (h : 0 ≤ a) : a.tmod k = a % k := Int.tmod_eq_emod_of_nonneg h

theorem u8_of {n : Nat} (h : n < 256) : (UInt8.ofNat n).toNat = n := by
  simp [UInt8.toNat_ofNat']; omega
/-! bytes as data -/
theorem aih (b : UInt8) : byteD b = .int .u8 b.toNat := rfl
theorem wb (l : List UInt8) : D.plains (l.map byteD) = true := by
  induction l with
  | nil => rfl
  | cons b l ih => simp [D.plains, D.plain, byteD, ih]
attribute [go_sem] wb
@[go_sem] theorem bytesOf_map (l : List UInt8) : bu (l.map byteD) = some l := by
  induction l with
  | nil => rfl
  | cons b l ih =>
    simp only [List.map_cons, aih, xq, ih, Option.map_some]
    congr 2
    simp
theorem byteD_of {n : Nat} (h : n < 256) : byteD (UInt8.ofNat n) = .int .u8 (n : Int) := by rw [aih, u8_of h]
end Go.Ev

/-! PlRow -/
/- Arguments of rows as data. Own work. -/
namespace Go.Ev
open Go Go.RowKit

def mkD : List D → D
  | [x] => x
  | xs => .agg xs

variable {P : Program} {W : World} {H : Type} {enc : TypeId × Value → H} {base : Nat} {spare : Nat → Bool} {held : Bool} {t e : TypeId} {v : Value} {x : DataW H × List MemPlace}

theorem read_one {G : List D → Prop} {fuel : Nat} (hI : IsF P W fuel t G) (hf : DataW.trod enc P W base spare held fuel t v.cells.toList = some x) (hv : v.cells.toList = [v]) (hG : ∀ xs, G xs → ∃ d, xs = [d]) : ∃ d, G [d] ∧ Rd anyB W v d := by
  obtain ⟨xs, ⟨q1, q2, q3⟩, hg⟩ := hI H enc base spare held _ _ hf
  obtain ⟨d, rfl⟩ := hG xs hg
  exact ⟨d, hg, q3 0 v d (by rw [hv]; rfl) rfl⟩

theorem ak6 {k : IntKind} (ht : P.underlying t = some (.slice e)) (he : P.underlying e = some (.int k)) (hz : P.cellsOf e = 1) (hv : v.cells.toList = [v]) (h : ∃ fuel, DataW.trod enc P W base spare held fuel t v.cells.toList = some x) :
    ∃ l : List Int, l.length ≤ maxLen ∧ (∀ n ∈ l, (Lit.int k n).wf = true) ∧ Rd anyB W v (.sl (l.map (D.int k))) := by
  obtain ⟨fuel, hf⟩ := h
  obtain ⟨d, ⟨es, hd, hlen, hes⟩, hr⟩ := read_one (IsF.slice ht (by omega) (fun m _ => IsF.int he) mkD (fun xs hx _ => by obtain ⟨m, rfl, _⟩ := hx; rfl)) hf hv (fun xs hx => by obtain ⟨es, rfl, _⟩ := hx; exact ⟨_, rfl⟩)
  cases hd
  have key : ∀ es : List D, (∀ d ∈ es, ∃ ys, (∃ m, ys = [D.int k m] ∧ (Lit.int k m).wf = true) ∧ ys.length = P.cellsOf e ∧ d = mkD ys) → ∃ l : List Int, es = l.map (D.int k) ∧ ∀ n ∈ l, (Lit.int k n).wf = true := by
    intro es
    induction es with
    | nil => exact fun _ => ⟨[], rfl, by simp⟩
    | cons d es ih =>
      intro h
      obtain ⟨ys, ⟨m, rfl, hw⟩, _, rfl⟩ := h d (by simp)
      obtain ⟨l, rfl, hl⟩ := ih (fun d hd => h d (by simp [hd]))
      refine ⟨m :: l, rfl, fun n hn => ?_⟩
      rcases List.mem_cons.1 hn with rfl | hn
      · exact hw
      · exact hl n hn
  obtain ⟨l, rfl, hl⟩ := key es hes
  exact ⟨l, by simpa using hlen, hl, hr⟩

end Go.Ev
