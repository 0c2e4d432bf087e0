/- What the functions on days compute. -/
import Derived.Test.YtpabdojnfiiaoaaDoorCode
import Derived.Test.YtpabdojnfiiaoaaDoorCal
namespace Go.Proofs.YtpabdojnfiiaoaaDoor
open Go Go.Ev
set_option linter.unusedVariables false
set_option maxHeartbeats 2000000
set_option linter.unusedSimpArgs false

theorem tm0 (a k : Int) : (a.tmod k == 0) = (a % k == 0) := by
  have : a.tmod k = 0 ↔ a % k = 0 := by rw [← Int.dvd_iff_tmod_eq_zero, ← Int.dvd_iff_emod_eq_zero]
  rw [Bool.eq_iff_iff]
  simpa using this
theorem tmn (a k : Int) : (a.tmod k != 0) = !(a % k == 0) := by
  show (!(a.tmod k == 0)) = _
  rw [tm0]
theorem tdp {a k : Int} (h : 0 ≤ a) : a.tdiv k = a / k := Int.tdiv_eq_ediv_of_nonneg h
theorem tmp {a k : Int} (h : 0 ≤ a) : a.tmod k = a % k := Int.tmod_eq_emod_of_nonneg h

theorem leap_ans (y : Int) : evL cfg n_stamp_leap 0 [.d (.int .i64 y)] [] = some (.d (.bool (leapB y)), []) := by
  rw [o_stamp_leap]
  unfold leapB
  rcases Bool.eq_false_or_eq_true (y % 4 == 0) with a | a <;> rcases Bool.eq_false_or_eq_true (y % 100 == 0) with b | b <;> rcases Bool.eq_false_or_eq_true (y % 400 == 0) with c | c <;>
  simp (disch := omega) only [go_sem, wrap_i64, wrap_u64, X_stamp_leap, c_stamp_leap, ib_rem, tm0, tmn, a, b, c, Bool.not_true, Bool.not_false, Bool.true_and, Bool.false_and, Bool.and_true, Bool.and_false, Bool.true_or, Bool.false_or, Bool.or_true, Bool.or_false, beq_self_eq_true, bne_self_eq_false, ↓reduceIte, Nat.reduceEqDiff, reduceCtorEq, Bool.false_eq_true]
theorem refLeap_ans (y : Int) : evL cfg n_ingotref12_leap 0 [.d (.int .i64 y)] [] = some (.d (.bool (leapB y)), []) := by
  rw [o_ingotref12_leap]
  unfold leapB
  rcases Bool.eq_false_or_eq_true (y % 4 == 0) with a | a <;> rcases Bool.eq_false_or_eq_true (y % 100 == 0) with b | b <;> rcases Bool.eq_false_or_eq_true (y % 400 == 0) with c | c <;>
  simp (disch := omega) only [go_sem, wrap_i64, wrap_u64, X_ingotref12_leap, c_ingotref12_leap, ib_rem, tm0, tmn, a, b, c, Bool.not_true, Bool.not_false, Bool.true_and, Bool.false_and, Bool.and_true, Bool.and_false, Bool.true_or, Bool.false_or, Bool.or_true, Bool.or_false, beq_self_eq_true, bne_self_eq_false, ↓reduceIte, Nat.reduceEqDiff, reduceCtorEq, Bool.false_eq_true]
theorem lp_true {y : Int} (h : leapB y = true) : lp y = 1 := by unfold lp; rw [if_pos h]
theorem lp_false {y : Int} (h : leapB y = false) : lp y = 0 := by unfold lp; rw [h]; rfl
theorem length_ans (y m : Int) : evL cfg n_stamp_length 0 [.d (.int .i64 y), .d (.int .i64 m)] [] = some (.d (.int .i64 (if 1 ≤ m ∧ m ≤ 12 then mlen y m else 0)), []) := by
  rw [o_stamp_length]
  by_cases h : 1 ≤ m ∧ m ≤ 12
  · rw [if_pos h]
    have : m = 1 ∨ m = 2 ∨ m = 3 ∨ m = 4 ∨ m = 5 ∨ m = 6 ∨ m = 7 ∨ m = 8 ∨ m = 9 ∨ m = 10 ∨ m = 11 ∨ m = 12 := by omega
    unfold mlen
    rcases Bool.eq_false_or_eq_true (leapB y) with a | a
    · rw [lp_true a]
      rcases this with rfl | rfl | rfl | rfl | rfl | rfl | rfl | rfl | rfl | rfl | rfl | rfl <;>
      simp (disch := omega) only [go_sem, wrap_i64, wrap_u64, X_stamp_length, c_stamp_length, leap_ans, a, Int.reduceBEq, Int.reduceAdd, Int.reduceEq, or_self, or_true, true_or, Bool.not_true, Bool.not_false, Bool.true_and, Bool.false_and, Bool.and_true, Bool.and_false, Bool.true_or, Bool.false_or, Bool.or_true, Bool.or_false, beq_self_eq_true, bne_self_eq_false, ↓reduceIte, Nat.reduceEqDiff, reduceCtorEq, Bool.false_eq_true]
    · rw [lp_false a]
      rcases this with rfl | rfl | rfl | rfl | rfl | rfl | rfl | rfl | rfl | rfl | rfl | rfl <;>
      simp (disch := omega) only [go_sem, wrap_i64, wrap_u64, X_stamp_length, c_stamp_length, leap_ans, a, Int.reduceBEq, Int.reduceAdd, Int.reduceEq, or_self, or_true, true_or, Bool.not_true, Bool.not_false, Bool.true_and, Bool.false_and, Bool.and_true, Bool.and_false, Bool.true_or, Bool.false_or, Bool.or_true, Bool.or_false, beq_self_eq_true, bne_self_eq_false, ↓reduceIte, Nat.reduceEqDiff, reduceCtorEq, Bool.false_eq_true]
  · rw [if_neg h]
    have d_a1 : (m == 1) = false := by simp <;> omega
    have d_a2 : (m == 2) = false := by simp <;> omega
    have d_a3 : (m == 3) = false := by simp <;> omega
    have d_a4 : (m == 4) = false := by simp <;> omega
    have d_a5 : (m == 5) = false := by simp <;> omega
    have d_a6 : (m == 6) = false := by simp <;> omega
    have d_a7 : (m == 7) = false := by simp <;> omega
    have d_a8 : (m == 8) = false := by simp <;> omega
    have d_a9 : (m == 9) = false := by simp <;> omega
    have d_b1 : (m == 10) = false := by simp <;> omega
    have d_b2 : (m == 11) = false := by simp <;> omega
    have d_b3 : (m == 12) = false := by simp <;> omega
    simp (disch := omega) only [go_sem, wrap_i64, wrap_u64, X_stamp_length, c_stamp_length, d_a1, d_a2, d_a3, d_a4, d_a5, d_a6, d_a7, d_a8, d_a9, d_b1, d_b2, d_b3, Bool.not_true, Bool.not_false, Bool.true_and, Bool.false_and, Bool.and_true, Bool.and_false, Bool.true_or, Bool.false_or, Bool.or_true, Bool.or_false, beq_self_eq_true, bne_self_eq_false, ↓reduceIte, Nat.reduceEqDiff, reduceCtorEq, Bool.false_eq_true]
theorem month_ans (y m : Int) : evL cfg n_ingotref12_month 0 [.d (.int .i64 y), .d (.int .i64 m)] [] = some (.d (.int .i64 (mlen y m)), []) := by
  rw [o_ingotref12_month]
  unfold mlen
  by_cases h2 : m = 2
  · subst h2
    rcases Bool.eq_false_or_eq_true (leapB y) with a | a
    · rw [lp_true a]
      simp (disch := omega) only [go_sem, wrap_i64, wrap_u64, X_ingotref12_month, c_ingotref12_month, refLeap_ans, a, Int.reduceBEq, Int.reduceAdd, Bool.not_true, Bool.not_false, Bool.true_and, Bool.false_and, Bool.and_true, Bool.and_false, Bool.true_or, Bool.false_or, Bool.or_true, Bool.or_false, beq_self_eq_true, bne_self_eq_false, ↓reduceIte, Nat.reduceEqDiff, reduceCtorEq, Bool.false_eq_true]
    · rw [lp_false a]
      simp (disch := omega) only [go_sem, wrap_i64, wrap_u64, X_ingotref12_month, c_ingotref12_month, refLeap_ans, a, Int.reduceBEq, Int.reduceAdd, Bool.not_true, Bool.not_false, Bool.true_and, Bool.false_and, Bool.and_true, Bool.and_false, Bool.true_or, Bool.false_or, Bool.or_true, Bool.or_false, beq_self_eq_true, bne_self_eq_false, ↓reduceIte, Nat.reduceEqDiff, reduceCtorEq, Bool.false_eq_true]
  · rw [if_neg h2]
    have d_a2 : (m == 2) = false := by simp <;> omega
    by_cases h : m = 4 ∨ m = 6 ∨ m = 9 ∨ m = 11
    · rcases h with rfl | rfl | rfl | rfl <;>
      simp (disch := omega) only [go_sem, wrap_i64, wrap_u64, X_ingotref12_month, c_ingotref12_month, d_a2, Int.reduceBEq, Int.reduceEq, or_self, or_true, true_or, Bool.not_true, Bool.not_false, Bool.true_and, Bool.false_and, Bool.and_true, Bool.and_false, Bool.true_or, Bool.false_or, Bool.or_true, Bool.or_false, beq_self_eq_true, bne_self_eq_false, ↓reduceIte, Nat.reduceEqDiff, reduceCtorEq, Bool.false_eq_true]
    · rw [if_neg h]
      have d_a4 : (m == 4) = false := by simp <;> omega
      have d_a6 : (m == 6) = false := by simp <;> omega
      have d_a9 : (m == 9) = false := by simp <;> omega
      have d_b1 : (m == 11) = false := by simp <;> omega
      simp (disch := omega) only [go_sem, wrap_i64, wrap_u64, X_ingotref12_month, c_ingotref12_month, d_a2, d_a4, d_a6, d_a9, d_b1, Bool.not_true, Bool.not_false, Bool.true_and, Bool.false_and, Bool.and_true, Bool.and_false, Bool.true_or, Bool.false_or, Bool.or_true, Bool.or_false, beq_self_eq_true, bne_self_eq_false, ↓reduceIte, Nat.reduceEqDiff, reduceCtorEq, Bool.false_eq_true]
theorem floor_ans {a b : Int} (hb : 0 < b) (h1 : -9223372036854775808 < a) (h2 : a < 9223372036854775808) (h3 : -9223372036854775808 < a / b) (h4 : a / b < 9223372036854775807) :
    evL cfg n_ingotref12_floor 0 [.d (.int .i64 a), .d (.int .i64 b)] [] = some (.d (.int .i64 (a / b)), []) := by
  rw [o_ingotref12_floor]
  have hbn : b ≠ 0 := by omega
  by_cases c : 0 ≤ a ∨ b ∣ a
  · have e1 : a.tdiv b = a / b := by rw [Int.tdiv_eq_ediv, if_pos c]; omega
    have e2 : a.tmod b = a % b := by rw [Int.tmod_eq_emod, if_pos c]; omega
    have := Int.emod_nonneg a hbn
    have d_x : decide (a % b < 0) = false := by simp <;> omega
    simp (disch := omega) only [go_sem, wrap_i64, wrap_u64, X_ingotref12_floor, c_ingotref12_floor, ib_quo, ib_rem, e1, e2, d_x, Bool.not_true, Bool.not_false, Bool.true_and, Bool.false_and, Bool.and_true, Bool.and_false, Bool.true_or, Bool.false_or, Bool.or_true, Bool.or_false, beq_self_eq_true, bne_self_eq_false, ↓reduceIte, Nat.reduceEqDiff, reduceCtorEq, Bool.false_eq_true]
  · have e1 : a.tdiv b = a / b + 1 := by rw [Int.tdiv_eq_ediv, if_neg c, Int.sign_eq_one_of_pos hb]
    have e2 : a.tmod b = a % b - b := by rw [Int.tmod_eq_emod, if_neg c]; omega
    have := Int.emod_lt_of_pos a hb
    have d_x : decide (a % b - b < 0) = true := by simp <;> omega
    have e3 : a / b + 1 - 1 = a / b := by omega
    simp (disch := omega) only [go_sem, wrap_i64, wrap_u64, X_ingotref12_floor, c_ingotref12_floor, ib_quo, ib_rem, e1, e2, d_x, e3, Bool.not_true, Bool.not_false, Bool.true_and, Bool.false_and, Bool.and_true, Bool.and_false, Bool.true_or, Bool.false_or, Bool.or_true, Bool.or_false, beq_self_eq_true, bne_self_eq_false, ↓reduceIte, Nat.reduceEqDiff, reduceCtorEq, Bool.false_eq_true]

theorem refFirst_ans {y : Int} (h0 : -10000 ≤ y) (h1 : y ≤ 10000) : evL cfg n_ingotref12_first 0 [.d (.int .i64 y)] [] = some (.d (.int .i64 (first y)), []) := by
  rw [o_ingotref12_first]
  unfold first
  simp (disch := omega) only [go_sem, wrap_i64, wrap_u64, X_ingotref12_first, c_ingotref12_first, floor_ans, Bool.not_true, Bool.not_false, Bool.true_and, Bool.false_and, Bool.and_true, Bool.and_false, Bool.true_or, Bool.false_or, Bool.or_true, Bool.or_false, beq_self_eq_true, bne_self_eq_false, ↓reduceIte, Nat.reduceEqDiff, reduceCtorEq, Bool.false_eq_true]

def okD (y m d : Int) : Prop := -9999 ≤ y ∧ y ≤ 9999 ∧ 1 ≤ m ∧ m ≤ 12 ∧ 1 ≤ d ∧ d ≤ mlen y m
instance (y m d : Int) : Decidable (okD y m d) := by unfold okD; infer_instance
theorem first_room {y : Int} (h0 : -9999 ≤ y) (h1 : y ≤ 9999) : -10000000 ≤ first y ∧ first y ≤ 10000000 := by unfold first; omega
theorem days_ok {y m d : Int} (h : okD y m d) : evL cfg n_stamp_Days 0 [.d (.int .i64 y), .d (.int .i64 m), .d (.int .i64 d)] [] = some (.d (.tup [.int .i64 (first y + cum y m + d - 1), .bool true]), []) := by
  rw [o_stamp_Days]
  have hm := mlen_room y m
  obtain ⟨h1, h2, h3, h4, h5, h6⟩ := h
  rw [← sd_eq y m d h3 h4]
  unfold sd
  have d_a : decide (y < -9999) = false := by simp <;> omega
  have d_b : decide (y > 9999) = false := by simp <;> omega
  have d_c : decide (d < 1) = false := by simp <;> omega
  have hl := length_ans y m
  rw [if_pos ⟨h3, h4⟩] at hl
  have d_e : decide (d > mlen y m) = false := by simp <;> omega
  by_cases c2 : m ≤ 2
  · have d_f : decide (m ≤ 2) = true := by simp <;> omega
    simp only [if_pos c2]
    simp (disch := omega) only [go_sem, wrap_i64, wrap_u64, X_stamp_Days, c_stamp_Days, hl, d_a, d_b, d_c, d_e, d_f, ib_quo, ib_rem, tdp, tmp, Bool.not_true, Bool.not_false, Bool.true_and, Bool.false_and, Bool.and_true, Bool.and_false, Bool.true_or, Bool.false_or, Bool.or_true, Bool.or_false, beq_self_eq_true, bne_self_eq_false, ↓reduceIte, Nat.reduceEqDiff, reduceCtorEq, Bool.false_eq_true]
  · have d_f : decide (m ≤ 2) = false := by simp <;> omega
    simp only [if_neg c2]
    simp (disch := omega) only [go_sem, wrap_i64, wrap_u64, X_stamp_Days, c_stamp_Days, hl, d_a, d_b, d_c, d_e, d_f, ib_quo, ib_rem, tdp, tmp, Bool.not_true, Bool.not_false, Bool.true_and, Bool.false_and, Bool.and_true, Bool.and_false, Bool.true_or, Bool.false_or, Bool.or_true, Bool.or_false, beq_self_eq_true, bne_self_eq_false, ↓reduceIte, Nat.reduceEqDiff, reduceCtorEq, Bool.false_eq_true]
theorem days_no {y m d : Int} (h : ¬ okD y m d) : evL cfg n_stamp_Days 0 [.d (.int .i64 y), .d (.int .i64 m), .d (.int .i64 d)] [] = some (.d (.tup [.int .i64 0, .bool false]), []) := by
  rw [o_stamp_Days]
  by_cases c1 : y < -9999
  · have d_a : decide (y < -9999) = true := by simp <;> omega
    simp (disch := omega) only [go_sem, wrap_i64, wrap_u64, X_stamp_Days, c_stamp_Days, d_a, Bool.not_true, Bool.not_false, Bool.true_and, Bool.false_and, Bool.and_true, Bool.and_false, Bool.true_or, Bool.false_or, Bool.or_true, Bool.or_false, beq_self_eq_true, bne_self_eq_false, ↓reduceIte, Nat.reduceEqDiff, reduceCtorEq, Bool.false_eq_true]
  · have d_a : decide (y < -9999) = false := by simp <;> omega
    by_cases c2 : y > 9999
    · have d_b : decide (y > 9999) = true := by simp <;> omega
      simp (disch := omega) only [go_sem, wrap_i64, wrap_u64, X_stamp_Days, c_stamp_Days, d_a, d_b, Bool.not_true, Bool.not_false, Bool.true_and, Bool.false_and, Bool.and_true, Bool.and_false, Bool.true_or, Bool.false_or, Bool.or_true, Bool.or_false, beq_self_eq_true, bne_self_eq_false, ↓reduceIte, Nat.reduceEqDiff, reduceCtorEq, Bool.false_eq_true]
    · have d_b : decide (y > 9999) = false := by simp <;> omega
      by_cases c3 : d < 1
      · have d_c : decide (d < 1) = true := by simp <;> omega
        simp (disch := omega) only [go_sem, wrap_i64, wrap_u64, X_stamp_Days, c_stamp_Days, d_a, d_b, d_c, Bool.not_true, Bool.not_false, Bool.true_and, Bool.false_and, Bool.and_true, Bool.and_false, Bool.true_or, Bool.false_or, Bool.or_true, Bool.or_false, beq_self_eq_true, bne_self_eq_false, ↓reduceIte, Nat.reduceEqDiff, reduceCtorEq, Bool.false_eq_true]
      · have d_c : decide (d < 1) = false := by simp <;> omega
        have hl := length_ans y m
        have hv : d > (if 1 ≤ m ∧ m ≤ 12 then mlen y m else 0) := by
          split
          · rename_i hm
            unfold okD at h
            omega
          · omega
        generalize (if 1 ≤ m ∧ m ≤ 12 then mlen y m else 0) = l at hl hv
        have d_e : decide (d > l) = true := by simp <;> omega
        simp (disch := omega) only [go_sem, wrap_i64, wrap_u64, X_stamp_Days, c_stamp_Days, hl, d_a, d_b, d_c, d_e, Bool.not_true, Bool.not_false, Bool.true_and, Bool.false_and, Bool.and_true, Bool.and_false, Bool.true_or, Bool.false_or, Bool.or_true, Bool.or_false, beq_self_eq_true, bne_self_eq_false, ↓reduceIte, Nat.reduceEqDiff, reduceCtorEq, Bool.false_eq_true]

theorem refDays_no {y m d : Int} (h : ¬ okD y m d) : evL cfg n_ingotref12_Days 0 [.d (.int .i64 y), .d (.int .i64 m), .d (.int .i64 d)] [] = some (.d (.tup [.int .i64 0, .bool false]), []) := by
  rw [o_ingotref12_Days]
  by_cases c1 : y < -9999
  · have d_a : decide (y < -9999) = true := by simp <;> omega
    simp (disch := omega) only [go_sem, wrap_i64, wrap_u64, X_ingotref12_Days, c_ingotref12_Days, d_a, Bool.not_true, Bool.not_false, Bool.true_and, Bool.false_and, Bool.and_true, Bool.and_false, Bool.true_or, Bool.false_or, Bool.or_true, Bool.or_false, beq_self_eq_true, bne_self_eq_false, ↓reduceIte, Nat.reduceEqDiff, reduceCtorEq, Bool.false_eq_true]
  · have d_a : decide (y < -9999) = false := by simp <;> omega
    by_cases c2 : y > 9999
    · have d_b : decide (y > 9999) = true := by simp <;> omega
      simp (disch := omega) only [go_sem, wrap_i64, wrap_u64, X_ingotref12_Days, c_ingotref12_Days, d_a, d_b, Bool.not_true, Bool.not_false, Bool.true_and, Bool.false_and, Bool.and_true, Bool.and_false, Bool.true_or, Bool.false_or, Bool.or_true, Bool.or_false, beq_self_eq_true, bne_self_eq_false, ↓reduceIte, Nat.reduceEqDiff, reduceCtorEq, Bool.false_eq_true]
    · have d_b : decide (y > 9999) = false := by simp <;> omega
      by_cases c4 : m < 1
      · have d_f : decide (m < 1) = true := by simp <;> omega
        simp (disch := omega) only [go_sem, wrap_i64, wrap_u64, X_ingotref12_Days, c_ingotref12_Days, d_a, d_b, d_f, Bool.not_true, Bool.not_false, Bool.true_and, Bool.false_and, Bool.and_true, Bool.and_false, Bool.true_or, Bool.false_or, Bool.or_true, Bool.or_false, beq_self_eq_true, bne_self_eq_false, ↓reduceIte, Nat.reduceEqDiff, reduceCtorEq, Bool.false_eq_true]
      · have d_f : decide (m < 1) = false := by simp <;> omega
        by_cases c5 : m > 12
        · have d_g : decide (m > 12) = true := by simp <;> omega
          simp (disch := omega) only [go_sem, wrap_i64, wrap_u64, X_ingotref12_Days, c_ingotref12_Days, d_a, d_b, d_f, d_g, Bool.not_true, Bool.not_false, Bool.true_and, Bool.false_and, Bool.and_true, Bool.and_false, Bool.true_or, Bool.false_or, Bool.or_true, Bool.or_false, beq_self_eq_true, bne_self_eq_false, ↓reduceIte, Nat.reduceEqDiff, reduceCtorEq, Bool.false_eq_true]
        · have d_g : decide (m > 12) = false := by simp <;> omega
          by_cases c3 : d < 1
          · have d_c : decide (d < 1) = true := by simp <;> omega
            simp (disch := omega) only [go_sem, wrap_i64, wrap_u64, X_ingotref12_Days, c_ingotref12_Days, d_a, d_b, d_c, d_f, d_g, Bool.not_true, Bool.not_false, Bool.true_and, Bool.false_and, Bool.and_true, Bool.and_false, Bool.true_or, Bool.false_or, Bool.or_true, Bool.or_false, beq_self_eq_true, bne_self_eq_false, ↓reduceIte, Nat.reduceEqDiff, reduceCtorEq, Bool.false_eq_true]
          · have d_c : decide (d < 1) = false := by simp <;> omega
            have hv : d > mlen y m := by unfold okD at h; omega
            have d_e : decide (d > mlen y m) = true := by simp <;> omega
            simp (disch := omega) only [go_sem, wrap_i64, wrap_u64, X_ingotref12_Days, c_ingotref12_Days, month_ans, d_a, d_b, d_c, d_e, d_f, d_g, Bool.not_true, Bool.not_false, Bool.true_and, Bool.false_and, Bool.and_true, Bool.and_false, Bool.true_or, Bool.false_or, Bool.or_true, Bool.or_false, beq_self_eq_true, bne_self_eq_false, ↓reduceIte, Nat.reduceEqDiff, reduceCtorEq, Bool.false_eq_true]

theorem cum_1 (y : Int) : cum y 1 = 0 := rfl
theorem cum_roomy (y m : Int) (h1 : 1 ≤ m) (h2 : m ≤ 12) : 0 ≤ cum y m ∧ cum y m ≤ 340 := by
  have := cum_room y m h1 h2
  have := mlen_room y m
  have := lp_01 y
  omega
theorem refDays_loop (K : List Kf) {y m d : Int} (h0 : -9999 ≤ y) (h1 : y ≤ 9999) (h3 : m ≤ 12) : ∀ (k : Nat) (i : Int), 1 ≤ i → i + k = m →
    go X_ingotref12_Days (.c (.loop b_ingotref12_Days_8) :: .b 0 :: K) ⟨[(0, .d (.int .i64 y)), (1, .d (.int .i64 m)), (2, .d (.int .i64 d)), (8, .d (.int .i64 (first y + cum y i))), (9, .d (.int .i64 i))], []⟩ =
      go X_ingotref12_Days K ⟨[(0, .d (.int .i64 y)), (1, .d (.int .i64 m)), (2, .d (.int .i64 d)), (8, .d (.int .i64 (first y + cum y m))), (9, .d (.int .i64 m)), (39, .d (.bool false))], []⟩
  | 0, i, hi, he => by
    have e : i = m := by omega
    subst e
    have d_a : decide (i < i) = false := by simp <;> omega
    rw [go_loop]
    simp (disch := omega) only [go_sem, wrap_i64, wrap_u64, X_ingotref12_Days, d_a, Bool.not_true, Bool.not_false, Bool.true_and, Bool.false_and, Bool.and_true, Bool.and_false, Bool.true_or, Bool.false_or, Bool.or_true, Bool.or_false, beq_self_eq_true, bne_self_eq_false, ↓reduceIte, Nat.reduceEqDiff, reduceCtorEq, Bool.false_eq_true]
  | k + 1, i, hi, he => by
    have d_a : decide (i < m) = true := by simp <;> omega
    have ih := refDays_loop K (d := d) h0 h1 h3 k (i + 1) (by omega) (by omega)
    have hs := cum_step y i hi (by omega)
    rw [if_neg (by omega)] at hs
    have hr := first_room h0 h1
    have hc := cum_roomy y i hi (by omega)
    have hm := mlen_room y i
    rw [go_loop]
    have es : first y + cum y i + mlen y i = first y + cum y (i + 1) := by omega
    simp (disch := omega) only [go_sem, wrap_i64, wrap_u64, X_ingotref12_Days, month_ans, d_a, Bool.not_true, Bool.not_false, Bool.true_and, Bool.false_and, Bool.and_true, Bool.and_false, Bool.true_or, Bool.false_or, Bool.or_true, Bool.or_false, beq_self_eq_true, bne_self_eq_false, ↓reduceIte, Nat.reduceEqDiff, reduceCtorEq, Bool.false_eq_true]
    rw [es]
    exact ih
theorem refDays_ok {y m d : Int} (h : okD y m d) : evL cfg n_ingotref12_Days 0 [.d (.int .i64 y), .d (.int .i64 m), .d (.int .i64 d)] [] = some (.d (.tup [.int .i64 (first y + cum y m + d - 1), .bool true]), []) := by
  rw [o_ingotref12_Days]
  have hm := mlen_room y m
  obtain ⟨h1, h2, h3, h4, h5, h6⟩ := h
  have hr := first_room h1 h2
  have hc := cum_roomy y m h3 h4
  have d_a : decide (y < -9999) = false := by simp <;> omega
  have d_b : decide (y > 9999) = false := by simp <;> omega
  have d_c : decide (d < 1) = false := by simp <;> omega
  have d_f : decide (m < 1) = false := by simp <;> omega
  have d_g : decide (m > 12) = false := by simp <;> omega
  have d_e : decide (d > mlen y m) = false := by simp <;> omega
  have hl := fun K => refDays_loop K (d := d) h1 h2 h4 (m - 1).toNat 1 (by omega) (by omega)
  rw [cum_1, Int.add_zero] at hl
  simp (disch := omega) only [go_sem, wrap_i64, wrap_u64, X_ingotref12_Days, c_ingotref12_Days, month_ans, refFirst_ans, hl, d_a, d_b, d_c, d_e, d_f, d_g, Bool.not_true, Bool.not_false, Bool.true_and, Bool.false_and, Bool.and_true, Bool.and_false, Bool.true_or, Bool.false_or, Bool.or_true, Bool.or_false, beq_self_eq_true, bne_self_eq_false, ↓reduceIte, Nat.reduceEqDiff, reduceCtorEq, Bool.false_eq_true]

theorem date_ans {n : Int} (h0 : -1073741824 ≤ n) (h1 : n ≤ 1073741824) : evL cfg n_stamp_Date 0 [.d (.int .i64 n)] [] = some (.d (.tup [.int .i64 (dateY n), .int .i64 (dateM n), .int .i64 (dateD n)]), []) := by
  rw [o_stamp_Date]
  have d_a : decide (n < -1073741824) = false := by simp <;> omega
  have d_b : decide (n > 1073741824) = false := by simp <;> omega
  have hr0 : 0 ≤ (n + 719468) % 146097 := by omega
  have hr1 : (n + 719468) % 146097 ≤ 146096 := by omega
  have hy := yo_room _ hr0 hr1
  have ha := ao_room _ hr0 hr1
  have hl := lp_01 (yo ((n + 719468) % 146097) + 1)
  have hd : n + 719468 - (n + 719468) / 146097 * 146097 = (n + 719468) % 146097 := by omega
  have y1 : ((n + 719468) % 146097 - (n + 719468) % 146097 / 1460 + (n + 719468) % 146097 / 36524 - (n + 719468) % 146097 / 146096) / 365 = yo ((n + 719468) % 146097) := rfl
  have a1 : (n + 719468) % 146097 - (365 * yo ((n + 719468) % 146097) + yo ((n + 719468) % 146097) / 4 - yo ((n + 719468) % 146097) / 100) = ao ((n + 719468) % 146097) := rfl
  have m1 : (5 * ao ((n + 719468) % 146097) + 2) / 153 = dm n := rfl
  have hm : 0 ≤ dm n ∧ dm n ≤ 11 := by rw [← m1]; omega
  have hM : (dm n + 2) % 12 + 1 = dateM n := rfl
  have hM2 : 1 ≤ dateM n ∧ dateM n ≤ 12 := by rw [← hM]; omega
  have hD : ao ((n + 719468) % 146097) - (153 * dm n + 2) / 5 + 1 = dateD n := rfl
  have hY : dateY n = (n + 719468) / 146097 * 400 + yo ((n + 719468) % 146097) + (if dateM n ≤ 2 then 1 else 0) := rfl
  rw [hY]
  by_cases c : 0 ≤ n + 719468 ∨ (146097 : Int) ∣ n + 719468
  · have e1 : (n + 719468).tdiv 146097 = (n + 719468) / 146097 := by rw [Int.tdiv_eq_ediv, if_pos c]; omega
    have e2 : (n + 719468).tmod 146097 = (n + 719468) % 146097 := by rw [Int.tmod_eq_emod, if_pos c]; omega
    have d_x : decide ((n + 719468) % 146097 < 0) = false := by simp <;> omega
    by_cases f : dateM n ≤ 2
    · have d_g : decide (dateM n ≤ 2) = true := by simp <;> omega
      rw [if_pos f]
      simp (disch := omega) only [go_sem, wrap_i64, wrap_u64, X_stamp_Date, c_stamp_Date, ib_quo, ib_rem, e1, e2, hd, y1, a1, m1, hM, hD, tdp, tmp, d_a, d_b, d_x, d_g, Bool.not_true, Bool.not_false, Bool.true_and, Bool.false_and, Bool.and_true, Bool.and_false, Bool.true_or, Bool.false_or, Bool.or_true, Bool.or_false, beq_self_eq_true, bne_self_eq_false, ↓reduceIte, Nat.reduceEqDiff, reduceCtorEq, Bool.false_eq_true]
    · have d_g : decide (dateM n ≤ 2) = false := by simp <;> omega
      rw [if_neg f, Int.add_zero]
      simp (disch := omega) only [go_sem, wrap_i64, wrap_u64, X_stamp_Date, c_stamp_Date, ib_quo, ib_rem, e1, e2, hd, y1, a1, m1, hM, hD, tdp, tmp, d_a, d_b, d_x, d_g, Bool.not_true, Bool.not_false, Bool.true_and, Bool.false_and, Bool.and_true, Bool.and_false, Bool.true_or, Bool.false_or, Bool.or_true, Bool.or_false, beq_self_eq_true, bne_self_eq_false, ↓reduceIte, Nat.reduceEqDiff, reduceCtorEq, Bool.false_eq_true]
  · have e1 : (n + 719468).tdiv 146097 = (n + 719468) / 146097 + 1 := by rw [Int.tdiv_eq_ediv, if_neg c]; rfl
    have e2 : (n + 719468).tmod 146097 = (n + 719468) % 146097 - 146097 := by rw [Int.tmod_eq_emod, if_neg c]; rfl
    have e3 : (n + 719468) / 146097 + 1 - 1 = (n + 719468) / 146097 := by omega
    have d_x : decide ((n + 719468) % 146097 - 146097 < 0) = true := by simp <;> omega
    by_cases f : dateM n ≤ 2
    · have d_g : decide (dateM n ≤ 2) = true := by simp <;> omega
      rw [if_pos f]
      simp (disch := omega) only [go_sem, wrap_i64, wrap_u64, X_stamp_Date, c_stamp_Date, ib_quo, ib_rem, e1, e2, e3, hd, y1, a1, m1, hM, hD, tdp, tmp, d_a, d_b, d_x, d_g, Bool.not_true, Bool.not_false, Bool.true_and, Bool.false_and, Bool.and_true, Bool.and_false, Bool.true_or, Bool.false_or, Bool.or_true, Bool.or_false, beq_self_eq_true, bne_self_eq_false, ↓reduceIte, Nat.reduceEqDiff, reduceCtorEq, Bool.false_eq_true]
    · have d_g : decide (dateM n ≤ 2) = false := by simp <;> omega
      rw [if_neg f, Int.add_zero]
      simp (disch := omega) only [go_sem, wrap_i64, wrap_u64, X_stamp_Date, c_stamp_Date, ib_quo, ib_rem, e1, e2, e3, hd, y1, a1, m1, hM, hD, tdp, tmp, d_a, d_b, d_x, d_g, Bool.not_true, Bool.not_false, Bool.true_and, Bool.false_and, Bool.and_true, Bool.and_false, Bool.true_or, Bool.false_or, Bool.or_true, Bool.or_false, beq_self_eq_true, bne_self_eq_false, ↓reduceIte, Nat.reduceEqDiff, reduceCtorEq, Bool.false_eq_true]

theorem refDate_end (K : List Kf) (n Y : Int) :
    go X_ingotref12_Date (.c (.loop b_ingotref12_Date_8) :: .b 0 :: K) ⟨[(0, .d (.int .i64 n)), (5, .d (.int .i64 Y)), (6, .d (.int .i64 Y))], []⟩ =
      go X_ingotref12_Date K ⟨[(0, .d (.int .i64 n)), (5, .d (.int .i64 Y)), (6, .d (.int .i64 Y)), (12, .d (.bool false))], []⟩ := by
  have d_a : decide (Y < Y) = false := by simp <;> omega
  rw [go_loop]
  simp (disch := omega) only [go_sem, wrap_i64, wrap_u64, X_ingotref12_Date, d_a, Bool.not_true, Bool.not_false, Bool.true_and, Bool.false_and, Bool.and_true, Bool.and_false, Bool.true_or, Bool.false_or, Bool.or_true, Bool.or_false, beq_self_eq_true, bne_self_eq_false, ↓reduceIte, Nat.reduceEqDiff, reduceCtorEq, Bool.false_eq_true]
theorem refDate_loop (K : List Kf) {n Y : Int} (g0 : first Y ≤ n) (g1 : n < first (Y + 1)) : ∀ (k : Nat) (lo hi : Int), -9999 ≤ lo → hi ≤ 9999 → lo ≤ Y → Y ≤ hi → hi - lo ≤ k →
    go X_ingotref12_Date (.c (.loop b_ingotref12_Date_8) :: .b 0 :: K) ⟨[(0, .d (.int .i64 n)), (5, .d (.int .i64 lo)), (6, .d (.int .i64 hi))], []⟩ =
      go X_ingotref12_Date K ⟨[(0, .d (.int .i64 n)), (5, .d (.int .i64 Y)), (6, .d (.int .i64 Y)), (12, .d (.bool false))], []⟩ := by
  intro k
  induction k with
  | zero =>
    intro lo hi h1 h2 h3 h4 h5
    have e1 : lo = Y := by omega
    have e2 : hi = Y := by omega
    rw [e1, e2]
    exact refDate_end K n Y
  | succ k ih =>
    intro lo hi h1 h2 h3 h4 h5
    by_cases c : lo < hi
    · have d_a : decide (lo < hi) = true := by simp <;> omega
      rw [go_loop]
      by_cases c2 : (lo + hi + 1) / 2 ≤ Y
      · have := first_mono c2
        have d_b : decide (first ((lo + hi + 1) / 2) ≤ n) = true := by simp <;> omega
        simp (disch := omega) only [go_sem, wrap_i64, wrap_u64, X_ingotref12_Date, floor_ans, refFirst_ans, d_a, d_b, Bool.not_true, Bool.not_false, Bool.true_and, Bool.false_and, Bool.and_true, Bool.and_false, Bool.true_or, Bool.false_or, Bool.or_true, Bool.or_false, beq_self_eq_true, bne_self_eq_false, ↓reduceIte, Nat.reduceEqDiff, reduceCtorEq, Bool.false_eq_true]
        exact ih _ _ (by omega) h2 c2 h4 (by omega)
      · have := first_mono (y := Y + 1) (z := (lo + hi + 1) / 2) (by omega)
        have d_b : decide (first ((lo + hi + 1) / 2) ≤ n) = false := by simp <;> omega
        simp (disch := omega) only [go_sem, wrap_i64, wrap_u64, X_ingotref12_Date, floor_ans, refFirst_ans, d_a, d_b, Bool.not_true, Bool.not_false, Bool.true_and, Bool.false_and, Bool.and_true, Bool.and_false, Bool.true_or, Bool.false_or, Bool.or_true, Bool.or_false, beq_self_eq_true, bne_self_eq_false, ↓reduceIte, Nat.reduceEqDiff, reduceCtorEq, Bool.false_eq_true]
        exact ih _ _ h1 (by omega) h3 (by omega) (by omega)
    · have e1 : lo = Y := by omega
      have e2 : hi = Y := by omega
      rw [e1, e2]
      exact refDate_end K n Y
theorem refDate_months (K : List Kf) {y m d n : Int} (h : IsDate y m d n) : ∀ (k : Nat) (i : Int), 1 ≤ i → i + k = m →
    go X_ingotref12_Date (.c (.loop b_ingotref12_Date_14) :: .b 2 :: K) ⟨[(5, .d (.int .i64 y)), (8, .d (.int .i64 (cum y m - cum y i + (d - 1)))), (9, .d (.int .i64 i))], []⟩ =
      go X_ingotref12_Date K ⟨[(5, .d (.int .i64 y)), (8, .d (.int .i64 (d - 1))), (9, .d (.int .i64 m)), (37, .d (.bool false))], []⟩
  | 0, i, h1, h2 => by
    have e : i = m := by omega
    subst e
    obtain ⟨a1, a2, a3, a4, a5⟩ := h
    have es : cum y i - cum y i + (d - 1) = d - 1 := by omega
    rw [es, go_loop]
    have d_b : decide (d - 1 ≥ mlen y i) = false := by simp <;> omega
    rcases Bool.eq_false_or_eq_true (decide (i < 12)) with a | a
    · simp (disch := omega) only [go_sem, wrap_i64, wrap_u64, X_ingotref12_Date, month_ans, a, d_b, Bool.not_true, Bool.not_false, Bool.true_and, Bool.false_and, Bool.and_true, Bool.and_false, Bool.true_or, Bool.false_or, Bool.or_true, Bool.or_false, beq_self_eq_true, bne_self_eq_false, ↓reduceIte, Nat.reduceEqDiff, reduceCtorEq, Bool.false_eq_true]
    · simp (disch := omega) only [go_sem, wrap_i64, wrap_u64, X_ingotref12_Date, month_ans, a, d_b, Bool.not_true, Bool.not_false, Bool.true_and, Bool.false_and, Bool.and_true, Bool.and_false, Bool.true_or, Bool.false_or, Bool.or_true, Bool.or_false, beq_self_eq_true, bne_self_eq_false, ↓reduceIte, Nat.reduceEqDiff, reduceCtorEq, Bool.false_eq_true]
  | k + 1, i, h1, h2 => by
    have ih := refDate_months K h k (i + 1) (by omega) (by omega)
    obtain ⟨a1, a2, a3, a4, a5⟩ := h
    have hs := cum_step y i h1 (by omega)
    rw [if_neg (by omega)] at hs
    have hc := cum_mono k y i h1 (by omega)
    rw [show i + (k : Int) + 1 = m by omega] at hc
    have hm := mlen_room y m
    have hm2 := mlen_room y i
    have c1 := cum_roomy y i h1 (by omega)
    have c2 := cum_roomy y m a1 a2
    have d_a : decide (i < 12) = true := by simp <;> omega
    have d_b : decide (cum y m - cum y i + (d - 1) ≥ mlen y i) = true := by simp <;> omega
    have es : cum y m - cum y i + (d - 1) - mlen y i = cum y m - cum y (i + 1) + (d - 1) := by omega
    rw [go_loop]
    simp (disch := omega) only [go_sem, wrap_i64, wrap_u64, X_ingotref12_Date, month_ans, d_a, d_b, Bool.not_true, Bool.not_false, Bool.true_and, Bool.false_and, Bool.and_true, Bool.and_false, Bool.true_or, Bool.false_or, Bool.or_true, Bool.or_false, beq_self_eq_true, bne_self_eq_false, ↓reduceIte, Nat.reduceEqDiff, reduceCtorEq, Bool.false_eq_true]
    rw [es]
    exact ih
theorem refDate_ans {y m d n : Int} (h : IsDate y m d n) (h0 : -9999 ≤ y) (h1 : y ≤ 9999) : evL cfg n_ingotref12_Date 0 [.d (.int .i64 n)] [] = some (.d (.tup [.int .i64 y, .int .i64 m, .int .i64 d]), []) := by
  rw [o_ingotref12_Date]
  have hy := h.year
  have hl := fun K => refDate_loop K hy.1 hy.2 20000 (-9999) 9999 (by omega) (by omega) h0 h1 (by omega)
  have hl2 := fun K => refDate_months K h (m - 1).toNat 1 (by omega) (by have := h.m1; omega)
  obtain ⟨a1, a2, a3, a4, a5⟩ := h
  rw [cum_1] at hl2
  have hm := mlen_room y m
  have hr := first_room h0 h1
  have c2 := cum_roomy y m a1 a2
  have es : n - first y = cum y m - 0 + (d - 1) := by omega
  have es2 : d - 1 + 1 = d := by omega
  simp (disch := omega) only [go_sem, wrap_i64, wrap_u64, X_ingotref12_Date, c_ingotref12_Date, refFirst_ans, hl, hl2, es, es2, Bool.not_true, Bool.not_false, Bool.true_and, Bool.false_and, Bool.and_true, Bool.and_false, Bool.true_or, Bool.false_or, Bool.or_true, Bool.or_false, beq_self_eq_true, bne_self_eq_false, ↓reduceIte, Nat.reduceEqDiff, reduceCtorEq, Bool.false_eq_true]

def knownB (n : Int) : Bool := decide (n ≥ -4371587) && decide (n ≤ 2932896)
theorem known_ans (n : Int) : evL cfg n_ingotref12_Known 0 [.d (.int .i64 n)] [] = some (.d (.bool (knownB n)), []) := by
  rw [o_ingotref12_Known]
  have h1 := refDays_ok (y := -9999) (m := 1) (d := 1) (by decide)
  have h2 := refDays_ok (y := 9999) (m := 12) (d := 31) (by decide)
  rw [show first (-9999) + cum (-9999) 1 + 1 - 1 = -4371587 by decide] at h1
  rw [show first 9999 + cum 9999 12 + 31 - 1 = 2932896 by decide] at h2
  unfold knownB
  rcases Bool.eq_false_or_eq_true (decide (n ≥ -4371587)) with a | a <;> rcases Bool.eq_false_or_eq_true (decide (n ≤ 2932896)) with b | b <;>
  simp (disch := omega) only [go_sem, wrap_i64, wrap_u64, X_ingotref12_Known, c_ingotref12_Known, h1, h2, a, b, Bool.not_true, Bool.not_false, Bool.true_and, Bool.false_and, Bool.and_true, Bool.and_false, Bool.true_or, Bool.false_or, Bool.or_true, Bool.or_false, beq_self_eq_true, bne_self_eq_false, ↓reduceIte, Nat.reduceEqDiff, reduceCtorEq, Bool.false_eq_true]
theorem known_year {y m d n : Int} (h : IsDate y m d n) (k : knownB n = true) : -9999 ≤ y ∧ y ≤ 9999 := by
  have hy := h.year
  unfold knownB at k
  simp at k
  have e1 : first (-9999) = -4371587 := by decide
  have e2 : first 10000 = 2932897 := by decide
  constructor
  · by_cases c : y ≤ -10000
    · have := first_mono (y := y + 1) (z := -9999) (by omega)
      omega
    · omega
  · by_cases c : 10000 ≤ y
    · have := first_mono (y := 10000) (z := y) (by omega)
      omega
    · omega
end Go.Proofs.YtpabdojnfiiaoaaDoor
