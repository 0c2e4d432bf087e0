/- P1202: the day behind a day. -/
import Derived.Test.YtpabdojnfiiaoaaDoorDay
import Derived.Test.YtpabdojnfiiaoaaDoorK
namespace Go.Proofs.YtpabdojnfiiaoaaDoor.stampNext
open Go Go.Ev
set_option linter.unusedSimpArgs false
set_option linter.unusedVariables false
set_option maxHeartbeats 2000000

/-- the date of the next day -/
theorem next {y m d n : Int} (h : IsDate y m d n) : IsDate y m (d + 1) (n + 1) ∨ (d = mlen y m ∧ m < 12 ∧ IsDate y (m + 1) 1 (n + 1)) ∨ (d = 31 ∧ m = 12 ∧ IsDate (y + 1) 1 1 (n + 1)) := by
  obtain ⟨a1, a2, a3, a4, a5⟩ := h
  have hs := cum_step y m a1 a2
  by_cases c : d < mlen y m
  · exact Or.inl ⟨a1, a2, by omega, by omega, by omega⟩
  · have e : d = mlen y m := by omega
    by_cases c2 : m = 12
    · subst c2
      rw [if_pos rfl] at hs
      have hf := first_step y
      have h31 : mlen y 12 = 31 := rfl
      refine Or.inr (Or.inr ⟨by omega, rfl, by decide, by decide, by decide, ?_, ?_⟩)
      · have := mlen_room (y + 1) 1
        omega
      · rw [cum_1]
        omega
    · rw [if_neg c2] at hs
      have := mlen_room y (m + 1)
      exact Or.inr (Or.inl ⟨e, by omega, by omega, by omega, by decide, by omega, by omega⟩)

theorem law (a0 : Int) (w0 : (Lit.int .i64 a0).wf = true) :
    evL cfg n_ingotlaw12_StampNext 0 [.d (.int .i64 a0)] [] = some (.d (.bool true), []) := by
  rw [o_ingotlaw12_StampNext]
  have hk := known_ans a0
  have hk2 := known_ans (a0 + 1)
  cases k1 : knownB a0
  · rw [k1] at hk
    simp (disch := omega) only [go_sem, wrap_i64, wrap_u64, X_ingotlaw12_StampNext, c_ingotlaw12_StampNext, known_ok, hk, Bool.not_true, Bool.not_false, Bool.true_and, Bool.false_and, Bool.and_true, Bool.and_false, Bool.true_or, Bool.false_or, Bool.or_true, Bool.or_false, beq_self_eq_true, bne_self_eq_false, ↓reduceIte, Nat.reduceEqDiff, reduceCtorEq, Bool.false_eq_true]
  · rw [k1] at hk
    have hb : -4371587 ≤ a0 ∧ a0 ≤ 2932896 := by unfold knownB at k1; simp at k1; omega
    have d_a : decide (a0 > 1099511627776) = false := by simp <;> omega
    cases k2 : knownB (a0 + 1)
    · rw [k2] at hk2
      simp (disch := omega) only [go_sem, wrap_i64, wrap_u64, X_ingotlaw12_StampNext, c_ingotlaw12_StampNext, known_ok, hk, hk2, d_a, Bool.not_true, Bool.not_false, Bool.true_and, Bool.false_and, Bool.and_true, Bool.and_false, Bool.true_or, Bool.false_or, Bool.or_true, Bool.or_false, beq_self_eq_true, bne_self_eq_false, ↓reduceIte, Nat.reduceEqDiff, reduceCtorEq, Bool.false_eq_true]
    · rw [k2] at hk2
      have hd := date_ans (n := a0) (by omega) (by omega)
      have hd2 := date_ans (n := a0 + 1) (by omega) (by omega)
      have hi := date_is a0
      have hy := known_year hi k1
      have hl := mlen_room (dateY a0) (dateM a0)
      obtain ⟨b1, b2, b3, b4, b5⟩ := hi
      rcases next (date_is a0) with h | ⟨e, c, h⟩ | ⟨e, c, h⟩
      · obtain ⟨e1, e2, e3⟩ := (date_is (a0 + 1)).same h
        rw [e1, e2, e3] at hd2
        generalize dateY a0 = y at *
        generalize dateM a0 = m at *
        generalize dateD a0 = d at *
        have d_x : (y == y + 1) = false := by simp <;> omega
        have d_x2 : (m == m + 1) = false := by simp <;> omega
        rcases Bool.eq_false_or_eq_true (d + 1 == 1) with q | q <;> rcases Bool.eq_false_or_eq_true (decide (d ≥ 28)) with r | r <;>
        simp (disch := omega) only [go_sem, wrap_i64, wrap_u64, X_ingotlaw12_StampNext, c_ingotlaw12_StampNext, known_ok, hk, hk2, d_a, hd, hd2, d_x, d_x2, q, r, Bool.not_true, Bool.not_false, Bool.true_and, Bool.false_and, Bool.and_true, Bool.and_false, Bool.true_or, Bool.false_or, Bool.or_true, Bool.or_false, beq_self_eq_true, bne_self_eq_false, ↓reduceIte, Nat.reduceEqDiff, reduceCtorEq, Bool.false_eq_true]
      · obtain ⟨e1, e2, e3⟩ := (date_is (a0 + 1)).same h
        rw [e1, e2, e3] at hd2
        generalize dateY a0 = y at *
        generalize dateM a0 = m at *
        generalize dateD a0 = d at *
        have d_x : (m + 1 == m) = false := by simp <;> omega
        have d_x2 : (y == y + 1) = false := by simp <;> omega
        have d_r : decide (d ≥ 28) = true := by simp <;> omega
        simp (disch := omega) only [go_sem, wrap_i64, wrap_u64, X_ingotlaw12_StampNext, c_ingotlaw12_StampNext, known_ok, hk, hk2, d_a, hd, hd2, d_x, d_x2, d_r, Bool.not_true, Bool.not_false, Bool.true_and, Bool.false_and, Bool.and_true, Bool.and_false, Bool.true_or, Bool.false_or, Bool.or_true, Bool.or_false, beq_self_eq_true, bne_self_eq_false, ↓reduceIte, Nat.reduceEqDiff, reduceCtorEq, Bool.false_eq_true]
      · obtain ⟨e1, e2, e3⟩ := (date_is (a0 + 1)).same h
        rw [e1, e2, e3] at hd2
        rw [e, c] at hd
        generalize dateY a0 = y at *
        have d_x : (y + 1 == y) = false := by simp <;> omega
        simp (disch := omega) only [go_sem, wrap_i64, wrap_u64, X_ingotlaw12_StampNext, c_ingotlaw12_StampNext, known_ok, hk, hk2, d_a, hd, hd2, d_x, Bool.not_true, Bool.not_false, Bool.true_and, Bool.false_and, Bool.and_true, Bool.and_false, Bool.true_or, Bool.false_or, Bool.or_true, Bool.or_false, beq_self_eq_true, bne_self_eq_false, ↓reduceIte, Nat.reduceEqDiff, reduceCtorEq, Bool.false_eq_true]
end Go.Proofs.YtpabdojnfiiaoaaDoor.stampNext
