/- P1202: times in words. -/
import Derived.Test.YtpabdojnfiiaoaaDoorText
import Derived.Test.YtpabdojnfiiaoaaDoorNano
import Derived.Test.YtpabdojnfiiaoaaDoorK
namespace Go.Proofs.YtpabdojnfiiaoaaDoor.stampTexts
open Go Go.Ev
set_option linter.unusedSimpArgs false
set_option linter.unusedVariables false
set_option maxHeartbeats 4000000
theorem law (a0 a1 a2 a3 a4 a5 a6 a7 : Int) (w0 : (Lit.int .i64 a0).wf = true) (w1 : (Lit.int .i64 a1).wf = true) (w2 : (Lit.int .i64 a2).wf = true) (w3 : (Lit.int .i64 a3).wf = true)
    (w4 : (Lit.int .i64 a4).wf = true) (w5 : (Lit.int .i64 a5).wf = true) (w6 : (Lit.int .i64 a6).wf = true) (w7 : (Lit.int .i64 a7).wf = true) :
    evL cfg n_ingotlaw12_StampTexts 0 [.d (.int .i64 a0), .d (.int .i64 a1), .d (.int .i64 a2), .d (.int .i64 a3), .d (.int .i64 a4), .d (.int .i64 a5), .d (.int .i64 a6), .d (.int .i64 a7)] [] = some (.d (.bool true), []) := by
  rw [o_ingotlaw12_StampTexts]
  have hk := refCheck_ans a0 a1
  obtain ⟨n, b, hd, hr⟩ : ∃ n b, evL cfg n_stamp_Seconds 0 [.d (.int .i64 a2), .d (.int .i64 a3), .d (.int .i64 a4), .d (.int .i64 a5), .d (.int .i64 a6), .d (.int .i64 a7)] [] = some (.d (.tup [.int .i64 n, .bool b]), []) ∧
      evL cfg n_ingotref12_Seconds 0 [.d (.int .i64 a2), .d (.int .i64 a3), .d (.int .i64 a4), .d (.int .i64 a5), .d (.int .i64 a6), .d (.int .i64 a7)] [] = some (.d (.tup [.int .i64 n, .bool b]), []) := by
    by_cases c : okS a2 a3 a4 a5 a6 a7
    · exact ⟨_, _, secs_ok c, refSecs_ok c⟩
    · exact ⟨_, _, secs_no c, refSecs_no c⟩
  have hbb : (b == b) = true := by simp
  cases hc : checkM a0 a1
  · rw [hc] at hk
    simp (disch := first | omega | (simp only [List.length_append, List.length_cons, List.length_nil]; omega)) only [go_sem, wrap_i64, wrap_u64, X_ingotlaw12_StampTexts, c_ingotlaw12_StampTexts, known_ok, hd, hr, hk, hbb, Bool.not_true, Bool.not_false, Bool.true_and, Bool.false_and, Bool.and_true, Bool.and_false, Bool.true_or, Bool.false_or, Bool.or_true, Bool.or_false, true_and, and_true, and_self, Nat.reduceLeDiff, Nat.reduceLT, Nat.reduceAdd, Nat.zero_lt_succ, Nat.lt_add_one, beq_self_eq_true, bne_self_eq_false, ↓reduceIte, Nat.reduceEqDiff, reduceCtorEq, Bool.false_eq_true]
  · rw [hc] at hk
    have hb : -1099511627776 ≤ a0 ∧ a0 ≤ 1099511627776 ∧ 0 ≤ a1 ∧ a1 ≤ 999999999 := by
      unfold checkM at hc
      simp at hc
      omega
    have hs := split_ans (n := a0) (by omega) (by omega)
    have hk2 := known_ans (a0 / 86400)
    cases hc2 : knownB (a0 / 86400)
    · rw [hc2] at hk2
      simp (disch := first | omega | (simp only [List.length_append, List.length_cons, List.length_nil]; omega)) only [go_sem, wrap_i64, wrap_u64, X_ingotlaw12_StampTexts, c_ingotlaw12_StampTexts, known_ok, hd, hr, hk, hs, hk2, hbb, Bool.not_true, Bool.not_false, Bool.true_and, Bool.false_and, Bool.and_true, Bool.and_false, Bool.true_or, Bool.false_or, Bool.or_true, Bool.or_false, true_and, and_true, and_self, Nat.reduceLeDiff, Nat.reduceLT, Nat.reduceAdd, Nat.zero_lt_succ, Nat.lt_add_one, beq_self_eq_true, bne_self_eq_false, ↓reduceIte, Nat.reduceEqDiff, reduceCtorEq, Bool.false_eq_true]
    · rw [hc2] at hk2
      have hq := known_room hc2
      have hda := date_ans (n := a0 / 86400) (by omega) (by omega)
      have hy := known_year (date_is (a0 / 86400)) hc2
      have h1 := text_ans hc2 hb.2.2.1 hb.2.2.2
      have h2 := refText_ans hc2 hb.2.2.1 hb.2.2.2
      generalize textM a0 a1 = T at h1 h2
      have hT : (T == T) = true := by simp
      have di := date_is (a0 / 86400)
      have q0 : 0 ≤ a0 % 86400 := by omega
      have q1 : a0 % 86400 < 86400 := by omega
      have hse := secs_ok (y := dateY (a0 / 86400)) (m := dateM (a0 / 86400)) (d := dateD (a0 / 86400)) (h := a0 % 86400 / 3600) (mi := a0 % 86400 / 60 % 60) (sc := a0 % 86400 % 60)
        ⟨⟨hy.1, hy.2, di.m1, di.m2, di.d1, di.d2⟩, by omega, by omega, by omega, by omega, by omega, by omega⟩
      rw [di.eq, show a0 / 86400 * 86400 + (a0 % 86400 / 3600 * 3600 + a0 % 86400 / 60 % 60 * 60 + a0 % 86400 % 60) = a0 by omega] at hse
      generalize dateY (a0 / 86400) = y at *
      generalize dateM (a0 / 86400) = m at *
      generalize dateD (a0 / 86400) = d at *
      generalize a0 % 86400 = r at *
      generalize a0 / 86400 = q at *
      simp (disch := first | omega | (simp only [List.length_append, List.length_cons, List.length_nil]; omega)) only [go_sem, wrap_i64, wrap_u64, X_ingotlaw12_StampTexts, c_ingotlaw12_StampTexts, known_ok, hd, hr, hk, hs, hk2, hbb, hda, h1, h2, hse, ib_quo, ib_rem, tdp, tmp, hT, Bool.not_true, Bool.not_false, Bool.true_and, Bool.false_and, Bool.and_true, Bool.and_false, Bool.true_or, Bool.false_or, Bool.or_true, Bool.or_false, true_and, and_true, and_self, Nat.reduceLeDiff, Nat.reduceLT, Nat.reduceAdd, Nat.zero_lt_succ, Nat.lt_add_one, beq_self_eq_true, bne_self_eq_false, ↓reduceIte, Nat.reduceEqDiff, reduceCtorEq, Bool.false_eq_true]
end Go.Proofs.YtpabdojnfiiaoaaDoor.stampTexts
