/- P1202: years. -/
import Derived.Test.YtpabdojnfiiaoaaDoorDay
import Derived.Test.YtpabdojnfiiaoaaDoorK
namespace Go.Proofs.YtpabdojnfiiaoaaDoor.stampYears
open Go Go.Ev
set_option linter.unusedSimpArgs false
set_option linter.unusedVariables false
set_option maxHeartbeats 2000000
theorem newYear (y : Int) (h0 : -9999 ≤ y) (h1 : y ≤ 9999) : evL cfg n_stamp_Days 0 [.d (.int .i64 y), .d (.int .i64 1), .d (.int .i64 1)] [] = some (.d (.tup [.int .i64 (first y), .bool true]), []) := by
  have := days_ok (y := y) (m := 1) (d := 1) ⟨h0, h1, by decide, by decide, by decide, by have := mlen_room y 1; omega⟩
  rw [cum_1] at this
  rw [this, show first y + 0 + 1 - 1 = first y by omega]
theorem feb29 (y : Int) (h0 : -9999 ≤ y) (h1 : y ≤ 9999) : ∃ n, evL cfg n_stamp_Days 0 [.d (.int .i64 y), .d (.int .i64 2), .d (.int .i64 29)] [] = some (.d (.tup [.int .i64 n, .bool (leapB y)]), []) := by
  have e : mlen y 2 = 28 + lp y := rfl
  rcases lp_cases y with h | h
  · refine ⟨first y + cum y 2 + 29 - 1, ?_⟩
    rw [days_ok (y := y) (m := 2) (d := 29) ⟨h0, h1, by decide, by decide, by decide, by omega⟩, h.2.2.2]
  · refine ⟨0, ?_⟩
    rw [days_no (y := y) (m := 2) (d := 29) (by unfold okD; omega), h.2.2]
theorem law (a0 : Int) (w0 : (Lit.int .i64 a0).wf = true) :
    evL cfg n_ingotlaw12_StampYears 0 [.d (.int .i64 a0)] [] = some (.d (.bool true), []) := by
  rw [o_ingotlaw12_StampYears]
  by_cases c1 : a0 < -9999
  · have d_a : decide (a0 < -9999) = true := by simp <;> omega
    simp (disch := omega) only [go_sem, wrap_i64, wrap_u64, X_ingotlaw12_StampYears, c_ingotlaw12_StampYears, known_ok, d_a, Bool.not_true, Bool.not_false, Bool.true_and, Bool.false_and, Bool.and_true, Bool.and_false, Bool.true_or, Bool.false_or, Bool.or_true, Bool.or_false, beq_self_eq_true, bne_self_eq_false, ↓reduceIte, Nat.reduceEqDiff, reduceCtorEq, Bool.false_eq_true]
  · have d_a : decide (a0 < -9999) = false := by simp <;> omega
    by_cases c2 : a0 > 9998
    · have d_b : decide (a0 > 9998) = true := by simp <;> omega
      simp (disch := omega) only [go_sem, wrap_i64, wrap_u64, X_ingotlaw12_StampYears, c_ingotlaw12_StampYears, known_ok, d_a, d_b, Bool.not_true, Bool.not_false, Bool.true_and, Bool.false_and, Bool.and_true, Bool.and_false, Bool.true_or, Bool.false_or, Bool.or_true, Bool.or_false, beq_self_eq_true, bne_self_eq_false, ↓reduceIte, Nat.reduceEqDiff, reduceCtorEq, Bool.false_eq_true]
    · have d_b : decide (a0 > 9998) = false := by simp <;> omega
      have h1 := newYear a0 (by omega) (by omega)
      have h2 := newYear (a0 + 1) (by omega) (by omega)
      obtain ⟨n, h3⟩ := feb29 a0 (by omega) (by omega)
      have hr := first_room (y := a0) (by omega) (by omega)
      have hs := first_step a0
      have hp := lp_cases a0
      have e1 : first a0 + 366 - first a0 = 366 := by omega
      have e0 : first a0 + 365 - first a0 = 365 := by omega
      have e3 : first a0 + 146097 - first a0 = 146097 := by omega
      have e2 : first (a0 + 400) = first a0 + 146097 := by unfold first; omega
      rcases hp with ⟨p1, p2, p3, p4⟩ | ⟨p1, p2, p3⟩
      · rw [p4] at h3
        have d_u : (a0 % 4 == 0) = true := by simp <;> omega
        rcases p2 with p2 | p2
        · have d_v : (a0 % 100 == 0) = false := by simp <;> omega
          rw [show first (a0 + 1) = first a0 + 366 by omega] at h2
          by_cases c3 : a0 > 9599
          · have d_c : decide (a0 > 9599) = true := by simp <;> omega
            simp (disch := omega) only [go_sem, wrap_i64, wrap_u64, X_ingotlaw12_StampYears, c_ingotlaw12_StampYears, known_ok, d_a, d_b, h1, h2, h3, e1, d_c, ib_rem, tm0, tmn, d_u, d_v, Bool.not_true, Bool.not_false, Bool.true_and, Bool.false_and, Bool.and_true, Bool.and_false, Bool.true_or, Bool.false_or, Bool.or_true, Bool.or_false, beq_self_eq_true, bne_self_eq_false, ↓reduceIte, Nat.reduceEqDiff, reduceCtorEq, Bool.false_eq_true]
          · have d_c : decide (a0 > 9599) = false := by simp <;> omega
            have h4 := newYear (a0 + 400) (by omega) (by omega)
            rw [e2] at h4
            simp (disch := omega) only [go_sem, wrap_i64, wrap_u64, X_ingotlaw12_StampYears, c_ingotlaw12_StampYears, known_ok, d_a, d_b, h1, h2, h3, h4, e1, e3, d_c, ib_rem, tm0, tmn, d_u, d_v, Bool.not_true, Bool.not_false, Bool.true_and, Bool.false_and, Bool.and_true, Bool.and_false, Bool.true_or, Bool.false_or, Bool.or_true, Bool.or_false, beq_self_eq_true, bne_self_eq_false, ↓reduceIte, Nat.reduceEqDiff, reduceCtorEq, Bool.false_eq_true]
        · have d_w : (a0 % 400 == 0) = true := by simp <;> omega
          rcases Bool.eq_false_or_eq_true (a0 % 100 == 0) with v | v
          · rw [show first (a0 + 1) = first a0 + 366 by omega] at h2
            by_cases c3 : a0 > 9599
            · have d_c : decide (a0 > 9599) = true := by simp <;> omega
              simp (disch := omega) only [go_sem, wrap_i64, wrap_u64, X_ingotlaw12_StampYears, c_ingotlaw12_StampYears, known_ok, d_a, d_b, h1, h2, h3, e1, d_c, ib_rem, tm0, tmn, d_u, v, d_w, Bool.not_true, Bool.not_false, Bool.true_and, Bool.false_and, Bool.and_true, Bool.and_false, Bool.true_or, Bool.false_or, Bool.or_true, Bool.or_false, beq_self_eq_true, bne_self_eq_false, ↓reduceIte, Nat.reduceEqDiff, reduceCtorEq, Bool.false_eq_true]
            · have d_c : decide (a0 > 9599) = false := by simp <;> omega
              have h4 := newYear (a0 + 400) (by omega) (by omega)
              rw [e2] at h4
              simp (disch := omega) only [go_sem, wrap_i64, wrap_u64, X_ingotlaw12_StampYears, c_ingotlaw12_StampYears, known_ok, d_a, d_b, h1, h2, h3, h4, e1, e3, d_c, ib_rem, tm0, tmn, d_u, v, d_w, Bool.not_true, Bool.not_false, Bool.true_and, Bool.false_and, Bool.and_true, Bool.and_false, Bool.true_or, Bool.false_or, Bool.or_true, Bool.or_false, beq_self_eq_true, bne_self_eq_false, ↓reduceIte, Nat.reduceEqDiff, reduceCtorEq, Bool.false_eq_true]
          · rw [show first (a0 + 1) = first a0 + 366 by omega] at h2
            by_cases c3 : a0 > 9599
            · have d_c : decide (a0 > 9599) = true := by simp <;> omega
              simp (disch := omega) only [go_sem, wrap_i64, wrap_u64, X_ingotlaw12_StampYears, c_ingotlaw12_StampYears, known_ok, d_a, d_b, h1, h2, h3, e1, d_c, ib_rem, tm0, tmn, d_u, v, d_w, Bool.not_true, Bool.not_false, Bool.true_and, Bool.false_and, Bool.and_true, Bool.and_false, Bool.true_or, Bool.false_or, Bool.or_true, Bool.or_false, beq_self_eq_true, bne_self_eq_false, ↓reduceIte, Nat.reduceEqDiff, reduceCtorEq, Bool.false_eq_true]
            · have d_c : decide (a0 > 9599) = false := by simp <;> omega
              have h4 := newYear (a0 + 400) (by omega) (by omega)
              rw [e2] at h4
              simp (disch := omega) only [go_sem, wrap_i64, wrap_u64, X_ingotlaw12_StampYears, c_ingotlaw12_StampYears, known_ok, d_a, d_b, h1, h2, h3, h4, e1, e3, d_c, ib_rem, tm0, tmn, d_u, v, d_w, Bool.not_true, Bool.not_false, Bool.true_and, Bool.false_and, Bool.and_true, Bool.and_false, Bool.true_or, Bool.false_or, Bool.or_true, Bool.or_false, beq_self_eq_true, bne_self_eq_false, ↓reduceIte, Nat.reduceEqDiff, reduceCtorEq, Bool.false_eq_true]
      · rw [p3] at h3
        rcases p1 with p1 | p1
        · have d_u : (a0 % 4 == 0) = false := by simp <;> omega
          rw [show first (a0 + 1) = first a0 + 365 by omega] at h2
          by_cases c3 : a0 > 9599
          · have d_c : decide (a0 > 9599) = true := by simp <;> omega
            simp (disch := omega) only [go_sem, wrap_i64, wrap_u64, X_ingotlaw12_StampYears, c_ingotlaw12_StampYears, known_ok, d_a, d_b, h1, h2, h3, e0, d_c, ib_rem, tm0, tmn, d_u, Bool.not_true, Bool.not_false, Bool.true_and, Bool.false_and, Bool.and_true, Bool.and_false, Bool.true_or, Bool.false_or, Bool.or_true, Bool.or_false, beq_self_eq_true, bne_self_eq_false, ↓reduceIte, Nat.reduceEqDiff, reduceCtorEq, Bool.false_eq_true]
          · have d_c : decide (a0 > 9599) = false := by simp <;> omega
            have h4 := newYear (a0 + 400) (by omega) (by omega)
            rw [e2] at h4
            simp (disch := omega) only [go_sem, wrap_i64, wrap_u64, X_ingotlaw12_StampYears, c_ingotlaw12_StampYears, known_ok, d_a, d_b, h1, h2, h3, h4, e0, e3, d_c, ib_rem, tm0, tmn, d_u, Bool.not_true, Bool.not_false, Bool.true_and, Bool.false_and, Bool.and_true, Bool.and_false, Bool.true_or, Bool.false_or, Bool.or_true, Bool.or_false, beq_self_eq_true, bne_self_eq_false, ↓reduceIte, Nat.reduceEqDiff, reduceCtorEq, Bool.false_eq_true]
        · have d_u : (a0 % 4 == 0) = true := by simp <;> omega
          have d_v : (a0 % 100 == 0) = true := by simp <;> omega
          have d_w : (a0 % 400 == 0) = false := by simp <;> omega
          rw [show first (a0 + 1) = first a0 + 365 by omega] at h2
          by_cases c3 : a0 > 9599
          · have d_c : decide (a0 > 9599) = true := by simp <;> omega
            simp (disch := omega) only [go_sem, wrap_i64, wrap_u64, X_ingotlaw12_StampYears, c_ingotlaw12_StampYears, known_ok, d_a, d_b, h1, h2, h3, e0, d_c, ib_rem, tm0, tmn, d_u, d_v, d_w, Bool.not_true, Bool.not_false, Bool.true_and, Bool.false_and, Bool.and_true, Bool.and_false, Bool.true_or, Bool.false_or, Bool.or_true, Bool.or_false, beq_self_eq_true, bne_self_eq_false, ↓reduceIte, Nat.reduceEqDiff, reduceCtorEq, Bool.false_eq_true]
          · have d_c : decide (a0 > 9599) = false := by simp <;> omega
            have h4 := newYear (a0 + 400) (by omega) (by omega)
            rw [e2] at h4
            simp (disch := omega) only [go_sem, wrap_i64, wrap_u64, X_ingotlaw12_StampYears, c_ingotlaw12_StampYears, known_ok, d_a, d_b, h1, h2, h3, h4, e0, e3, d_c, ib_rem, tm0, tmn, d_u, d_v, d_w, Bool.not_true, Bool.not_false, Bool.true_and, Bool.false_and, Bool.and_true, Bool.and_false, Bool.true_or, Bool.false_or, Bool.or_true, Bool.or_false, beq_self_eq_true, bne_self_eq_false, ↓reduceIte, Nat.reduceEqDiff, reduceCtorEq, Bool.false_eq_true]
end Go.Proofs.YtpabdojnfiiaoaaDoor.stampYears
