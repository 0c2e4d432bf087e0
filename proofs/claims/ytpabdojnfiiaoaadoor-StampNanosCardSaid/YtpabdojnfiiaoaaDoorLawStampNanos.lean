/- P1201. -/
import Derived.Test.YtpabdojnfiiaoaaDoorNano
import Derived.Test.YtpabdojnfiiaoaaDoorK
namespace Go.Proofs.YtpabdojnfiiaoaaDoor.stampNanos
open Go Go.Ev
set_option linter.unusedSimpArgs false
set_option linter.unusedVariables false
theorem law (a0 a1 a2 : Int) (w0 : (Lit.int .i64 a0).wf = true) (w1 : (Lit.int .u64 a1).wf = true) (w2 : (Lit.int .i64 a2).wf = true) :
    evL cfg n_ingotlaw12_StampNanos 0 [.d (.int .i64 a0), .d (.int .u64 a1), .d (.int .i64 a2)] [] = some (.d (.bool true), []) := by
  have h1 : 0 ≤ a1 ∧ a1 < 18446744073709551616 := by
    simp [Lit.wf] at w1
    exact ⟨w1.1, Int.lt_of_le_of_lt w1.2 (by decide)⟩
  rw [o_ingotlaw12_StampNanos]
  have hk := check_ans a2 a0
  have hk2 := refCheck_ans a2 a0
  generalize checkM a2 a0 = ck at hk hk2
  have hb := back_ans h1.1 h1.2
  have hr := refBack_ans h1.1 h1.2
  generalize backM a1 = bm at hb hr
  by_cases c1 : a0 < 0
  · have d_a : decide (a0 < 0) = true := by simp <;> omega
    simp (disch := omega) only [go_sem, wrap_i64, wrap_u64, X_ingotlaw12_StampNanos, c_ingotlaw12_StampNanos, known_ok, hb, hr, hk, hk2, d_a, Bool.not_true, Bool.not_false, Bool.true_and, Bool.false_and, Bool.and_true, Bool.and_false, Bool.true_or, Bool.false_or, Bool.or_true, Bool.or_false, beq_self_eq_true, bne_self_eq_false, ↓reduceIte, Nat.reduceEqDiff, reduceCtorEq, Bool.false_eq_true]
  · have d_a : decide (a0 < 0) = false := by simp <;> omega
    by_cases c2 : a0 > 999999999
    · have d_b : decide (a0 > 999999999) = true := by simp <;> omega
      simp (disch := omega) only [go_sem, wrap_i64, wrap_u64, X_ingotlaw12_StampNanos, c_ingotlaw12_StampNanos, known_ok, hb, hr, hk, hk2, d_a, d_b, Bool.not_true, Bool.not_false, Bool.true_and, Bool.false_and, Bool.and_true, Bool.and_false, Bool.true_or, Bool.false_or, Bool.or_true, Bool.or_false, beq_self_eq_true, bne_self_eq_false, ↓reduceIte, Nat.reduceEqDiff, reduceCtorEq, Bool.false_eq_true]
    · have d_b : decide (a0 > 999999999) = false := by simp <;> omega
      have hn := nano_ans (n := a0) (by omega) (by omega)
      have hn2 := refNano_ans (n := a0) (by omega) (by omega)
      have hq := nanoM_room (n := a0) (by omega) (by omega)
      have hq2 := back_nano (n := a0) (by omega) (by omega)
      have hb2 := back_ans (u := nanoM a0) (by omega) (by omega)
      rw [hq2] at hb2
      generalize nanoM a0 = v at *
      simp (disch := omega) only [go_sem, wrap_i64, wrap_u64, X_ingotlaw12_StampNanos, c_ingotlaw12_StampNanos, known_ok, hb, hr, hk, hk2, hn, hn2, hb2, d_a, d_b, Bool.not_true, Bool.not_false, Bool.true_and, Bool.false_and, Bool.and_true, Bool.and_false, Bool.true_or, Bool.false_or, Bool.or_true, Bool.or_false, beq_self_eq_true, bne_self_eq_false, ↓reduceIte, Nat.reduceEqDiff, reduceCtorEq, Bool.false_eq_true]
end Go.Proofs.YtpabdojnfiiaoaaDoor.stampNanos
