/- Words of decimals, there and back. -/
import Derived.Test.YteckebocflnkdaaDoorPrsB
namespace Go.Proofs.YteckebocflnkdaaDoor
open Go Go.Ev
set_option linter.unusedSimpArgs false
set_option linter.unusedVariables false
/-- the first digit -/
def lastF : Nat → Nat → Nat
  | 0, u => u
  | k + 1, u => if u < 10 then u else lastF k (u / 10)
def lastD (u : Nat) : Nat := lastF u u
theorem lastF_more : ∀ (k j u : Nat), u ≤ k → u ≤ j → lastF k u = lastF j u
  | 0, 0, u, _, _ => rfl
  | 0, j + 1, u, h, _ => by
    obtain rfl : u = 0 := by omega
    simp [lastF]
  | k + 1, 0, u, _, h => by
    obtain rfl : u = 0 := by omega
    simp [lastF]
  | k + 1, j + 1, u, h1, h2 => by
    unfold lastF
    split
    · rfl
    · exact lastF_more k j (u / 10) (by omega) (by omega)
theorem lastD_small {u : Nat} (h : u < 10) : lastD u = u := by
  unfold lastD
  cases u with
  | zero => rfl
  | succ u => rw [lastF, if_pos h]
theorem lastD_step {u : Nat} (h : ¬ u < 10) : lastD u = lastD (u / 10) := by
  unfold lastD
  cases u with
  | zero => omega
  | succ u => rw [lastF, if_neg h]; exact lastF_more _ _ _ (by omega) (by omega)
theorem pointS_form (d : List UInt8) (s : Nat) : pointS d s = d.take (d.length - s) ++ (if s = 0 then [] else 46 :: d.drop (d.length - s)) := rfl
theorem pointS_len (d : List UInt8) (s : Nat) : (pointS d s).length ≤ d.length + 1 := by
  rw [pointS_form, List.length_append]
  split <;> simp <;> omega
theorem textS_len {v : Int} {s : Nat} (hs : s ≤ 18) : (textS v s).length ≤ 30 := by
  have h1 := decF_len20 v.natAbs
  have h2 := padS_len (decF 20 v.natAbs) s
  have h3 := pointS_len (padS (decF 20 v.natAbs) s) s
  unfold textS bodyS
  split
  · simp only [List.length_cons]; omega
  · omega
theorem parse_text {v : Int} {s : Nat} (hv : inI v) (hs : s ≤ 18) : parseM (textS v s) s = (v, 0) := by
  have hb := parse_body (decide (v < 0)) v.natAbs s 0 hs (by unfold inI at hv; omega) (textS v s) (.inl rfl) (by
    unfold textS bodyS
    rw [pointS_form]
    by_cases c : v < 0
    · rw [if_pos c]
      simp only [c, decide_true, if_true, Nat.add_zero, show zer 0 = [] from rfl, List.append_nil]
      rfl
    · rw [if_neg c]
      simp only [c, decide_false, Bool.false_eq_true, if_false, Nat.add_zero, show zer 0 = [] from rfl, List.append_nil, List.nil_append])
  have e : sgn (decide (v < 0)) ((v.natAbs * 10 ^ 0 : Nat) : Int) = v := by
    unfold sgn
    split
    · rename_i h; have := of_decide_eq_true h; simp; omega
    · rename_i h; have : ¬ v < 0 := fun c => h (decide_eq_true c)
      simp; omega
  rw [Nat.add_zero] at hb
  rw [hb]
  simp only [e, hv, if_true]
end Go.Proofs.YteckebocflnkdaaDoor
