/- P1202: months. -/
import Derived.Test.YtpabdojnfiiaoaaDoorDay
import Derived.Test.YtpabdojnfiiaoaaDoorK
namespace Go.Proofs.YtpabdojnfiiaoaaDoor.stampMonths
open Go Go.Ev
set_option linter.unusedSimpArgs false
set_option linter.unusedVariables false
set_option maxHeartbeats 2000000
theorem months_loop (K : List Kf) {y m : Int} (h0 : -9999 ≤ y) (h1 : y ≤ 9999) (h2 : 1 ≤ m) (h3 : m ≤ 11) : ∀ (k : Nat) (d n : Int), 1 ≤ d → d + k = 33 → n = (if d - 1 ≤ mlen y m then d - 1 else mlen y m) →
    go X_ingotlaw12_StampMonths (.c (.loop b_ingotlaw12_StampMonths_14) :: .b 0 :: K) ⟨[(0, .d (.int .i64 y)), (1, .d (.int .i64 m)), (5, .d (.int .i64 n)), (6, .d (.int .i64 d))], []⟩ =
      go X_ingotlaw12_StampMonths K ⟨[(0, .d (.int .i64 y)), (1, .d (.int .i64 m)), (5, .d (.int .i64 (mlen y m))), (6, .d (.int .i64 33)), (30, .d (.bool false))], []⟩ := by
  have hl := mlen_room y m
  intro k
  induction k with
  | zero =>
    intro d n g1 g2 g3
    have e : d = 33 := by omega
    subst e
    rw [if_neg (by omega)] at g3
    subst g3
    rw [go_loop]
    simp (disch := omega) only [go_sem, wrap_i64, wrap_u64, X_ingotlaw12_StampMonths, show decide ((33 : Int) ≤ 32) = false from rfl, Bool.not_true, Bool.not_false, Bool.true_and, Bool.false_and, Bool.and_true, Bool.and_false, Bool.true_or, Bool.false_or, Bool.or_true, Bool.or_false, beq_self_eq_true, bne_self_eq_false, ↓reduceIte, Nat.reduceEqDiff, reduceCtorEq, Bool.false_eq_true]
  | succ k ih =>
    intro d n g1 g2 g3
    have d_a : decide (d ≤ 32) = true := by simp <;> omega
    rw [go_loop]
    by_cases c : d ≤ mlen y m
    · rw [if_pos (by omega)] at g3
      subst g3
      have hd := days_ok (y := y) (m := m) (d := d) ⟨h0, h1, h2, by omega, g1, c⟩
      have e : d - 1 + 1 = d := by omega
      simp (disch := omega) only [go_sem, wrap_i64, wrap_u64, X_ingotlaw12_StampMonths, hd, d_a, e, Bool.not_true, Bool.not_false, Bool.true_and, Bool.false_and, Bool.and_true, Bool.and_false, Bool.true_or, Bool.false_or, Bool.or_true, Bool.or_false, beq_self_eq_true, bne_self_eq_false, ↓reduceIte, Nat.reduceEqDiff, reduceCtorEq, Bool.false_eq_true]
      exact ih _ _ (by omega) (by omega) (by rw [if_pos (by omega)]; omega)
    · have hn : n = mlen y m := by rw [g3]; split <;> omega
      subst hn
      have hd := days_no (y := y) (m := m) (d := d) (by unfold okD; omega)
      simp (disch := omega) only [go_sem, wrap_i64, wrap_u64, X_ingotlaw12_StampMonths, hd, d_a, Bool.not_true, Bool.not_false, Bool.true_and, Bool.false_and, Bool.and_true, Bool.and_false, Bool.true_or, Bool.false_or, Bool.or_true, Bool.or_false, beq_self_eq_true, bne_self_eq_false, ↓reduceIte, Nat.reduceEqDiff, reduceCtorEq, Bool.false_eq_true]
      exact ih _ _ (by omega) (by omega) (by split <;> omega)
theorem law (a0 a1 : Int) (w0 : (Lit.int .i64 a0).wf = true) (w1 : (Lit.int .i64 a1).wf = true) :
    evL cfg n_ingotlaw12_StampMonths 0 [.d (.int .i64 a0), .d (.int .i64 a1)] [] = some (.d (.bool true), []) := by
  rw [o_ingotlaw12_StampMonths]
  by_cases c1 : a0 < -9999
  · have d_a : decide (a0 < -9999) = true := by simp <;> omega
    simp (disch := omega) only [go_sem, wrap_i64, wrap_u64, X_ingotlaw12_StampMonths, c_ingotlaw12_StampMonths, known_ok, d_a, Bool.not_true, Bool.not_false, Bool.true_and, Bool.false_and, Bool.and_true, Bool.and_false, Bool.true_or, Bool.false_or, Bool.or_true, Bool.or_false, beq_self_eq_true, bne_self_eq_false, ↓reduceIte, Nat.reduceEqDiff, reduceCtorEq, Bool.false_eq_true]
  · have d_a : decide (a0 < -9999) = false := by simp <;> omega
    by_cases c2 : a0 > 9999
    · have d_b : decide (a0 > 9999) = true := by simp <;> omega
      simp (disch := omega) only [go_sem, wrap_i64, wrap_u64, X_ingotlaw12_StampMonths, c_ingotlaw12_StampMonths, known_ok, d_a, d_b, Bool.not_true, Bool.not_false, Bool.true_and, Bool.false_and, Bool.and_true, Bool.and_false, Bool.true_or, Bool.false_or, Bool.or_true, Bool.or_false, beq_self_eq_true, bne_self_eq_false, ↓reduceIte, Nat.reduceEqDiff, reduceCtorEq, Bool.false_eq_true]
    · have d_b : decide (a0 > 9999) = false := by simp <;> omega
      by_cases c3 : a1 < 1
      · have d_c : decide (a1 < 1) = true := by simp <;> omega
        simp (disch := omega) only [go_sem, wrap_i64, wrap_u64, X_ingotlaw12_StampMonths, c_ingotlaw12_StampMonths, known_ok, d_a, d_b, d_c, Bool.not_true, Bool.not_false, Bool.true_and, Bool.false_and, Bool.and_true, Bool.and_false, Bool.true_or, Bool.false_or, Bool.or_true, Bool.or_false, beq_self_eq_true, bne_self_eq_false, ↓reduceIte, Nat.reduceEqDiff, reduceCtorEq, Bool.false_eq_true]
      · have d_c : decide (a1 < 1) = false := by simp <;> omega
        by_cases c4 : a1 > 11
        · have d_e : decide (a1 > 11) = true := by simp <;> omega
          simp (disch := omega) only [go_sem, wrap_i64, wrap_u64, X_ingotlaw12_StampMonths, c_ingotlaw12_StampMonths, known_ok, d_a, d_b, d_c, d_e, Bool.not_true, Bool.not_false, Bool.true_and, Bool.false_and, Bool.and_true, Bool.and_false, Bool.true_or, Bool.false_or, Bool.or_true, Bool.or_false, beq_self_eq_true, bne_self_eq_false, ↓reduceIte, Nat.reduceEqDiff, reduceCtorEq, Bool.false_eq_true]
        · have d_e : decide (a1 > 11) = false := by simp <;> omega
          have hl := mlen_room a0 a1
          have hloop := fun K => months_loop K (y := a0) (m := a1) (by omega) (by omega) (by omega) (by omega) 32 1 0 (by decide) (by decide) (by rw [if_pos (by omega)]; rfl)
          have hd := days_ok (y := a0) (m := a1) (d := mlen a0 a1) ⟨by omega, by omega, by omega, by omega, by omega, by omega⟩
          have hl2 := mlen_room a0 (a1 + 1)
          have hd2 := days_ok (y := a0) (m := a1 + 1) (d := 1) ⟨by omega, by omega, by omega, by omega, by omega, by omega⟩
          have hs := cum_step a0 a1 (by omega) (by omega)
          rw [if_neg (by omega)] at hs
          rw [show first a0 + cum a0 (a1 + 1) + 1 - 1 = first a0 + cum a0 a1 + mlen a0 a1 - 1 + 1 by omega] at hd2
          have hf := first_room (y := a0) (by omega) (by omega)
          have hc := cum_roomy a0 a1 (by omega) (by omega)
          have d_f : decide (mlen a0 a1 ≥ 28) = true := by simp <;> omega
          have d_g : decide (mlen a0 a1 ≤ 31) = true := by simp <;> omega
          simp (disch := omega) only [go_sem, wrap_i64, wrap_u64, X_ingotlaw12_StampMonths, c_ingotlaw12_StampMonths, known_ok, d_a, d_b, d_c, d_e, hloop, hd, hd2, d_f, d_g, Bool.not_true, Bool.not_false, Bool.true_and, Bool.false_and, Bool.and_true, Bool.and_false, Bool.true_or, Bool.false_or, Bool.or_true, Bool.or_false, beq_self_eq_true, bne_self_eq_false, ↓reduceIte, Nat.reduceEqDiff, reduceCtorEq, Bool.false_eq_true]
end Go.Proofs.YtpabdojnfiiaoaaDoor.stampMonths
