/- A stripe's footer written: both writers. -/
import Derived.Test.YtpflgebgmhnipaaGreatDoorSfG
namespace Go.Proofs.YtpflgebgmhnipaaGreatDoor
open Go Go.Ev
set_option linter.unusedVariables false
set_option linter.unusedSimpArgs false
set_option maxHeartbeats 4000000

def okE (ps : List PI) (es : List EI) : Bool := decide (ps.length ≤ 800) && decide (es.length ≤ 100) && ps.all inP && es.all inE
def flatE (ps : List PI) (es : List EI) : List UInt8 := (ps.map plB).flatten ++ (es.map enB).flatten
theorem s1_all : ∀ (r : List PI) (ok : Bool) (acc : List UInt8), (s1 ok acc r).1 = (ok && r.all inP) ∧ ((ok && r.all inP) = true → (s1 ok acc r).2 = acc ++ (r.map plB).flatten)
  | [], ok, acc => by simp [s1]
  | p :: r, ok, acc => by
    obtain ⟨g1, g2⟩ := s1_all r (ok && inP p) (if (ok && inP p) = true then acc ++ plB p else acc)
    rw [s1, List.all_cons, ← Bool.and_assoc]
    refine ⟨g1, fun h => ?_⟩
    rw [g2 h]
    rw [Bool.and_eq_true] at h
    rw [if_pos h.1, List.map_cons, List.flatten_cons, List.append_assoc]
theorem s2_all : ∀ (r : List EI) (ok : Bool) (acc : List UInt8), (s2 ok acc r).1 = (ok && r.all inE) ∧ ((ok && r.all inE) = true → (s2 ok acc r).2 = acc ++ (r.map enB).flatten)
  | [], ok, acc => by simp [s2]
  | p :: r, ok, acc => by
    rw [s2, List.all_cons, ← Bool.and_assoc]
    cases h : (ok && inE p) with
    | false => simp
    | true =>
      obtain ⟨g1, g2⟩ := s2_all r true (acc ++ enB p)
      simp only [if_true]
      refine ⟨g1, fun h => ?_⟩
      rw [g2 h, List.map_cons, List.flatten_cons, List.append_assoc]
theorem enc_eq (ps : List PI) (es : List EI) : encD (encM ps es) = encD (okE ps es, flatE ps es) := by
  unfold encM okE flatE
  simp only
  generalize (decide (ps.length ≤ 800) && decide (es.length ≤ 100)) = ok0
  obtain ⟨a1, a2⟩ := s1_all ps ok0 []
  obtain ⟨b1, b2⟩ := s2_all es (s1 ok0 [] ps).1 (s1 ok0 [] ps).2
  rw [a1] at b1 b2
  unfold encD
  rw [a1, b1]
  simp only
  cases h : (ok0 && ps.all inP && es.all inE) with
  | false => rfl
  | true =>
    have h' := h
    rw [Bool.and_eq_true] at h'
    rw [b2 h, a2 h'.1, List.nil_append]
theorem flat_len {α : Type} (f : α → List UInt8) (n : Nat) (hf : ∀ x, (f x).length ≤ n) : ∀ l : List α, (l.map f).flatten.length ≤ n * l.length
  | [] => by simp
  | x :: l => by
    rw [List.map_cons, List.flatten_cons, List.length_append, List.length_cons, Nat.mul_add, Nat.mul_one]
    have := hf x
    have := flat_len f n hf l
    omega
end Go.Proofs.YtpflgebgmhnipaaGreatDoor
