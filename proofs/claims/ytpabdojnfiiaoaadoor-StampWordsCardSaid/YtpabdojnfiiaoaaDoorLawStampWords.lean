/- P1202: words of times stand in the order of the times. -/
import Derived.Test.YtpabdojnfiiaoaaDoorOrd
import Derived.Test.YtpabdojnfiiaoaaDoorK
namespace Go.Proofs.YtpabdojnfiiaoaaDoor.stampWords
open Go Go.Ev
set_option linter.unusedSimpArgs false
set_option linter.unusedVariables false
set_option maxHeartbeats 4000000
theorem law (a0 a1 a2 a3 : Int) (w0 : (Lit.int .i64 a0).wf = true) (w1 : (Lit.int .i64 a1).wf = true) (w2 : (Lit.int .i64 a2).wf = true) (w3 : (Lit.int .i64 a3).wf = true) :
    evL cfg n_ingotlaw12_StampWords 0 [.d (.int .i64 a0), .d (.int .i64 a1), .d (.int .i64 a2), .d (.int .i64 a3)] [] = some (.d (.bool true), []) := by
  rw [o_ingotlaw12_StampWords]
  rcases Bool.eq_false_or_eq_true (decide (a0 < -62135596800)) with c1 | c1
  · simp (disch := first | omega | (simp only [List.length_append, List.length_cons, List.length_nil]; omega)) only [go_sem, wrap_i64, wrap_u64, X_ingotlaw12_StampWords, c_ingotlaw12_StampWords, known_ok, c1, Bool.not_true, Bool.not_false, Bool.true_and, Bool.false_and, Bool.and_true, Bool.and_false, Bool.true_or, Bool.false_or, Bool.or_true, Bool.or_false, true_and, and_true, and_self, Nat.reduceLeDiff, Nat.reduceLT, Nat.reduceAdd, Nat.zero_lt_succ, Nat.lt_add_one, beq_self_eq_true, bne_self_eq_false, ↓reduceIte, Nat.reduceEqDiff, reduceCtorEq, Bool.false_eq_true]
  rcases Bool.eq_false_or_eq_true (decide (a0 > 253402300799)) with c2 | c2
  · simp (disch := first | omega | (simp only [List.length_append, List.length_cons, List.length_nil]; omega)) only [go_sem, wrap_i64, wrap_u64, X_ingotlaw12_StampWords, c_ingotlaw12_StampWords, known_ok, c1, c2, Bool.not_true, Bool.not_false, Bool.true_and, Bool.false_and, Bool.and_true, Bool.and_false, Bool.true_or, Bool.false_or, Bool.or_true, Bool.or_false, true_and, and_true, and_self, Nat.reduceLeDiff, Nat.reduceLT, Nat.reduceAdd, Nat.zero_lt_succ, Nat.lt_add_one, beq_self_eq_true, bne_self_eq_false, ↓reduceIte, Nat.reduceEqDiff, reduceCtorEq, Bool.false_eq_true]
  rcases Bool.eq_false_or_eq_true (decide (a2 < -62135596800)) with c3 | c3
  · simp (disch := first | omega | (simp only [List.length_append, List.length_cons, List.length_nil]; omega)) only [go_sem, wrap_i64, wrap_u64, X_ingotlaw12_StampWords, c_ingotlaw12_StampWords, known_ok, c1, c2, c3, Bool.not_true, Bool.not_false, Bool.true_and, Bool.false_and, Bool.and_true, Bool.and_false, Bool.true_or, Bool.false_or, Bool.or_true, Bool.or_false, true_and, and_true, and_self, Nat.reduceLeDiff, Nat.reduceLT, Nat.reduceAdd, Nat.zero_lt_succ, Nat.lt_add_one, beq_self_eq_true, bne_self_eq_false, ↓reduceIte, Nat.reduceEqDiff, reduceCtorEq, Bool.false_eq_true]
  rcases Bool.eq_false_or_eq_true (decide (a2 > 253402300799)) with c4 | c4
  · simp (disch := first | omega | (simp only [List.length_append, List.length_cons, List.length_nil]; omega)) only [go_sem, wrap_i64, wrap_u64, X_ingotlaw12_StampWords, c_ingotlaw12_StampWords, known_ok, c1, c2, c3, c4, Bool.not_true, Bool.not_false, Bool.true_and, Bool.false_and, Bool.and_true, Bool.and_false, Bool.true_or, Bool.false_or, Bool.or_true, Bool.or_false, true_and, and_true, and_self, Nat.reduceLeDiff, Nat.reduceLT, Nat.reduceAdd, Nat.zero_lt_succ, Nat.lt_add_one, beq_self_eq_true, bne_self_eq_false, ↓reduceIte, Nat.reduceEqDiff, reduceCtorEq, Bool.false_eq_true]
  rcases Bool.eq_false_or_eq_true (decide (a1 < 0)) with c5 | c5
  · simp (disch := first | omega | (simp only [List.length_append, List.length_cons, List.length_nil]; omega)) only [go_sem, wrap_i64, wrap_u64, X_ingotlaw12_StampWords, c_ingotlaw12_StampWords, known_ok, c1, c2, c3, c4, c5, Bool.not_true, Bool.not_false, Bool.true_and, Bool.false_and, Bool.and_true, Bool.and_false, Bool.true_or, Bool.false_or, Bool.or_true, Bool.or_false, true_and, and_true, and_self, Nat.reduceLeDiff, Nat.reduceLT, Nat.reduceAdd, Nat.zero_lt_succ, Nat.lt_add_one, beq_self_eq_true, bne_self_eq_false, ↓reduceIte, Nat.reduceEqDiff, reduceCtorEq, Bool.false_eq_true]
  rcases Bool.eq_false_or_eq_true (decide (a1 > 999999999)) with c6 | c6
  · simp (disch := first | omega | (simp only [List.length_append, List.length_cons, List.length_nil]; omega)) only [go_sem, wrap_i64, wrap_u64, X_ingotlaw12_StampWords, c_ingotlaw12_StampWords, known_ok, c1, c2, c3, c4, c5, c6, Bool.not_true, Bool.not_false, Bool.true_and, Bool.false_and, Bool.and_true, Bool.and_false, Bool.true_or, Bool.false_or, Bool.or_true, Bool.or_false, true_and, and_true, and_self, Nat.reduceLeDiff, Nat.reduceLT, Nat.reduceAdd, Nat.zero_lt_succ, Nat.lt_add_one, beq_self_eq_true, bne_self_eq_false, ↓reduceIte, Nat.reduceEqDiff, reduceCtorEq, Bool.false_eq_true]
  rcases Bool.eq_false_or_eq_true (decide (a3 < 0)) with c7 | c7
  · simp (disch := first | omega | (simp only [List.length_append, List.length_cons, List.length_nil]; omega)) only [go_sem, wrap_i64, wrap_u64, X_ingotlaw12_StampWords, c_ingotlaw12_StampWords, known_ok, c1, c2, c3, c4, c5, c6, c7, Bool.not_true, Bool.not_false, Bool.true_and, Bool.false_and, Bool.and_true, Bool.and_false, Bool.true_or, Bool.false_or, Bool.or_true, Bool.or_false, true_and, and_true, and_self, Nat.reduceLeDiff, Nat.reduceLT, Nat.reduceAdd, Nat.zero_lt_succ, Nat.lt_add_one, beq_self_eq_true, bne_self_eq_false, ↓reduceIte, Nat.reduceEqDiff, reduceCtorEq, Bool.false_eq_true]
  rcases Bool.eq_false_or_eq_true (decide (a3 > 999999999)) with c8 | c8
  · simp (disch := first | omega | (simp only [List.length_append, List.length_cons, List.length_nil]; omega)) only [go_sem, wrap_i64, wrap_u64, X_ingotlaw12_StampWords, c_ingotlaw12_StampWords, known_ok, c1, c2, c3, c4, c5, c6, c7, c8, Bool.not_true, Bool.not_false, Bool.true_and, Bool.false_and, Bool.and_true, Bool.and_false, Bool.true_or, Bool.false_or, Bool.or_true, Bool.or_false, true_and, and_true, and_self, Nat.reduceLeDiff, Nat.reduceLT, Nat.reduceAdd, Nat.zero_lt_succ, Nat.lt_add_one, beq_self_eq_true, bne_self_eq_false, ↓reduceIte, Nat.reduceEqDiff, reduceCtorEq, Bool.false_eq_true]
  have k1 := of_decide_eq_false c1
  have k2 := of_decide_eq_false c2
  have k3 := of_decide_eq_false c3
  have k4 := of_decide_eq_false c4
  have k5 := of_decide_eq_false c5
  have k6 := of_decide_eq_false c6
  have k7 := of_decide_eq_false c7
  have k8 := of_decide_eq_false c8
  have g1 : knownB (a0 / 86400) = true := by unfold knownB; simp; omega
  have g2 : knownB (a2 / 86400) = true := by unfold knownB; simp; omega
  have t1 := text_ans g1 (n := a1) (by omega) (by omega)
  have t2 := text_ans g2 (n := a3) (by omega) (by omega)
  have t3 := refText_ans g1 (n := a1) (by omega) (by omega)
  have l1 := text_less (a := a0) (b := a2) (an := a1) (bn := a3) (by omega) (by omega) (by omega) (by omega) (by omega) (by omega) (by omega) (by omega)
  have l2 := text_same (a := a0) (b := a2) (an := a1) (bn := a3) (by omega) (by omega) (by omega) (by omega) (by omega) (by omega) (by omega) (by omega)
  unfold lx at l1
  generalize textM a0 a1 = T at *
  generalize textM a2 a3 = U at *
  have hT : (T == T) = true := by simp
  rcases Bool.eq_false_or_eq_true (decide (a0 < a2)) with x | x <;> rcases Bool.eq_false_or_eq_true (a0 == a2) with y | y <;> rcases Bool.eq_false_or_eq_true (decide (a1 < a3)) with z | z <;> rcases Bool.eq_false_or_eq_true (a1 == a3) with v | v <;>
  (rw [x, y, z] at l1; rw [y, v] at l2; simp only [Bool.true_or, Bool.false_or, Bool.true_and, Bool.false_and] at l1 l2) <;>
  simp (disch := first | omega | (simp only [List.length_append, List.length_cons, List.length_nil]; omega)) only [go_sem, wrap_i64, wrap_u64, X_ingotlaw12_StampWords, c_ingotlaw12_StampWords, known_ok, c1, c2, c3, c4, c5, c6, c7, c8, t1, t2, t3, l1, l2, hT, x, y, z, v, Bool.not_true, Bool.not_false, Bool.true_and, Bool.false_and, Bool.and_true, Bool.and_false, Bool.true_or, Bool.false_or, Bool.or_true, Bool.or_false, true_and, and_true, and_self, Nat.reduceLeDiff, Nat.reduceLT, Nat.reduceAdd, Nat.zero_lt_succ, Nat.lt_add_one, beq_self_eq_true, bne_self_eq_false, ↓reduceIte, Nat.reduceEqDiff, reduceCtorEq, Bool.false_eq_true]
end Go.Proofs.YtpabdojnfiiaoaaDoor.stampWords
