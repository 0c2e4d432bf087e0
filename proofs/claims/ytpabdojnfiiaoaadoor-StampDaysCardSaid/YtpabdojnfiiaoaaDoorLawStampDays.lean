/- P1202: days. -/
import Derived.Test.YtpabdojnfiiaoaaDoorDay
import Derived.Test.YtpabdojnfiiaoaaDoorK
namespace Go.Proofs.YtpabdojnfiiaoaaDoor.stampDays
open Go Go.Ev
set_option linter.unusedSimpArgs false
set_option linter.unusedVariables false
set_option maxHeartbeats 2000000
theorem law (a0 a1 a2 a3 : Int) (w0 : (Lit.int .i64 a0).wf = true) (w1 : (Lit.int .i64 a1).wf = true) (w2 : (Lit.int .i64 a2).wf = true) (w3 : (Lit.int .i64 a3).wf = true) :
    evL cfg n_ingotlaw12_StampDays 0 [.d (.int .i64 a0), .d (.int .i64 a1), .d (.int .i64 a2), .d (.int .i64 a3)] [] = some (.d (.bool true), []) := by
  rw [o_ingotlaw12_StampDays]
  have hk := known_ans a3
  have back : knownB a3 = true → okD (dateY a3) (dateM a3) (dateD a3) ∧ -4371587 ≤ a3 ∧ a3 ≤ 2932896 := by
    intro k
    have hy := known_year (date_is a3) k
    obtain ⟨b1, b2, b3, b4, b5⟩ := date_is a3
    unfold knownB at k
    simp at k
    exact ⟨⟨hy.1, hy.2, b1, b2, b3, b4⟩, by omega, by omega⟩
  by_cases h : okD a0 a1 a2
  · have hd := days_ok h
    have hr := refDays_ok h
    obtain ⟨h1, h2, h3, h4, h5, h6⟩ := h
    have hm := mlen_room a0 a1
    have hf := first_room h1 h2
    have hc := cum_roomy a0 a1 h3 h4
    have hn := date_ans (n := first a0 + cum a0 a1 + a2 - 1) (by omega) (by omega)
    obtain ⟨e1, e2, e3⟩ := (date_is (first a0 + cum a0 a1 + a2 - 1)).same (y' := a0) (m' := a1) (d' := a2) ⟨h3, h4, h5, h6, rfl⟩
    rw [e1, e2, e3] at hn
    cases hkk : knownB a3
    · rw [hkk] at hk
      simp (disch := omega) only [go_sem, wrap_i64, wrap_u64, X_ingotlaw12_StampDays, c_ingotlaw12_StampDays, known_ok, hd, hr, hn, hk, Bool.not_true, Bool.not_false, Bool.true_and, Bool.false_and, Bool.and_true, Bool.and_false, Bool.true_or, Bool.false_or, Bool.or_true, Bool.or_false, beq_self_eq_true, bne_self_eq_false, ↓reduceIte, Nat.reduceEqDiff, reduceCtorEq, Bool.false_eq_true]
    · have hb := back hkk
      rw [hkk] at hk
      have hn2 := date_ans (n := a3) (by omega) (by omega)
      have hn3 := refDate_ans (date_is a3) hb.1.1 hb.1.2.1
      have hn4 := days_ok hb.1
      rw [(date_is a3).eq] at hn4
      simp (disch := omega) only [go_sem, wrap_i64, wrap_u64, X_ingotlaw12_StampDays, c_ingotlaw12_StampDays, known_ok, hd, hr, hn, hk, hn2, hn3, hn4, Bool.not_true, Bool.not_false, Bool.true_and, Bool.false_and, Bool.and_true, Bool.and_false, Bool.true_or, Bool.false_or, Bool.or_true, Bool.or_false, beq_self_eq_true, bne_self_eq_false, ↓reduceIte, Nat.reduceEqDiff, reduceCtorEq, Bool.false_eq_true]
  · have hd := days_no h
    have hr := refDays_no h
    cases hkk : knownB a3
    · rw [hkk] at hk
      simp (disch := omega) only [go_sem, wrap_i64, wrap_u64, X_ingotlaw12_StampDays, c_ingotlaw12_StampDays, known_ok, hd, hr, hk, Bool.not_true, Bool.not_false, Bool.true_and, Bool.false_and, Bool.and_true, Bool.and_false, Bool.true_or, Bool.false_or, Bool.or_true, Bool.or_false, beq_self_eq_true, bne_self_eq_false, ↓reduceIte, Nat.reduceEqDiff, reduceCtorEq, Bool.false_eq_true]
    · have hb := back hkk
      rw [hkk] at hk
      have hn2 := date_ans (n := a3) (by omega) (by omega)
      have hn3 := refDate_ans (date_is a3) hb.1.1 hb.1.2.1
      have hn4 := days_ok hb.1
      rw [(date_is a3).eq] at hn4
      simp (disch := omega) only [go_sem, wrap_i64, wrap_u64, X_ingotlaw12_StampDays, c_ingotlaw12_StampDays, known_ok, hd, hr, hk, hn2, hn3, hn4, Bool.not_true, Bool.not_false, Bool.true_and, Bool.false_and, Bool.and_true, Bool.and_false, Bool.true_or, Bool.false_or, Bool.or_true, Bool.or_false, beq_self_eq_true, bne_self_eq_false, ↓reduceIte, Nat.reduceEqDiff, reduceCtorEq, Bool.false_eq_true]
end Go.Proofs.YtpabdojnfiiaoaaDoor.stampDays
