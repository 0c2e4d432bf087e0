/- P1102: the order of two. -/
import Derived.Test.YteckebocflnkdaaDoorCmp
import Derived.Test.YteckebocflnkdaaDoorK
import Derived.Test.YteckebocflnkdaaDoorScl
namespace Go.Proofs.YteckebocflnkdaaDoor.deciOrder
open Go Go.Ev
set_option linter.unusedSimpArgs false
set_option linter.unusedVariables false
set_option maxHeartbeats 4000000
theorem law (a0 a1 a2 a3 : Int) (w0 : (Lit.int .i64 a0).wf = true) (w1 : (Lit.int .i64 a1).wf = true) (w2 : (Lit.int .i64 a2).wf = true) (w3 : (Lit.int .i64 a3).wf = true) :
    evL cfg n_ingotlaw11_DeciOrder 0 [.d (.int .i64 (a0)), .d (.int .i64 (a1)), .d (.int .i64 (a2)), .d (.int .i64 (a3))] [] = some (.d (.bool (true)), []) := by
  rw [o_ingotlaw11_DeciOrder]
  by_cases c1 : 0 ≤ a1 ∧ a1 ≤ 18
  case neg =>
    have s1 := scale_no c1
    simp (disch := first | omega | (simp only [List.length_append, List.length_cons, List.length_nil, List.length_map, List.length_take, List.length_drop] <;> omega) | assumption | decide | (simp only [List.length_append, List.length_cons, List.length_nil, List.length_map] at * <;> omega) | fail) only [go_sem, wrap_i64, wrap_u64, X_ingotlaw11_DeciOrder, c_ingotlaw11_DeciOrder, known_ok, s1, Bool.not_true, Bool.not_false, Bool.true_and, Bool.false_and, Bool.and_true, Bool.and_false, Bool.true_or, Bool.false_or, Bool.or_true, Bool.or_false, true_and, and_true, and_self, Nat.reduceLeDiff, Nat.reduceLT, Nat.reduceAdd, Nat.zero_lt_succ, Nat.lt_add_one, Option.some.injEq, Loc.slot.injEq, Int.reduceAdd, Int.reduceSub, Int.reduceMul, Int.reduceNeg, beq_self_eq_true, List.length_cons, List.length_nil, decide_true, decide_false, Bool.and_self, bne_self_eq_false, ↓reduceIte, Nat.reduceEqDiff, reduceCtorEq, Bool.false_eq_true]
  by_cases c2 : 0 ≤ a3 ∧ a3 ≤ 18
  case neg =>
    have s1 := scale_ok c1
    have s2 := scale_no c2
    simp (disch := first | omega | (simp only [List.length_append, List.length_cons, List.length_nil, List.length_map, List.length_take, List.length_drop] <;> omega) | assumption | decide | (simp only [List.length_append, List.length_cons, List.length_nil, List.length_map] at * <;> omega) | fail) only [go_sem, wrap_i64, wrap_u64, X_ingotlaw11_DeciOrder, c_ingotlaw11_DeciOrder, known_ok, s1, s2, Bool.not_true, Bool.not_false, Bool.true_and, Bool.false_and, Bool.and_true, Bool.and_false, Bool.true_or, Bool.false_or, Bool.or_true, Bool.or_false, true_and, and_true, and_self, Nat.reduceLeDiff, Nat.reduceLT, Nat.reduceAdd, Nat.zero_lt_succ, Nat.lt_add_one, Option.some.injEq, Loc.slot.injEq, Int.reduceAdd, Int.reduceSub, Int.reduceMul, Int.reduceNeg, beq_self_eq_true, List.length_cons, List.length_nil, decide_true, decide_false, Bool.and_self, bne_self_eq_false, ↓reduceIte, Nat.reduceEqDiff, reduceCtorEq, Bool.false_eq_true]
  have s1 := scale_ok c1
  have s2 := scale_ok c2
  obtain ⟨f, rfl⟩ : ∃ n : Nat, a1 = n := ⟨a1.toNat, by omega⟩
  obtain ⟨t, rfl⟩ : ∃ n : Nat, a3 = n := ⟨a3.toNat, by omega⟩
  have hv := inI_of w0
  have hw := inI_of w2
  have r1 := deci_Compare_ans (a := a0) (b := a2) (sa := f) (sb := t) hv hw (by omega) (by omega)
  have r2 := ref11_Compare_ans (a := a0) (b := a2) (sa := f) (sb := t) hv hw (by omega) (by omega)
  have r3 := deci_Compare_ans (a := a2) (b := a0) (sa := t) (sb := f) hw hv (by omega) (by omega)
  have e0 : cmpM a2 t a0 f = 0 - cmpM a0 f a2 t := cmpZ_swap _ _
  rw [e0] at r3
  have r4 := ref1_Sub_ans (a := a0) (b := a2) hv hw
  by_cases hft : f = t
  · subst hft
    have q0 : ((f : Int) != f) = false := by simp
    rw [keyZ_self] at r1 r2 r3
    unfold subM at r4
    rcases cmpZ_in a0 a2 with ⟨e, h⟩ | ⟨e, h⟩ | ⟨e, h⟩
    · rw [e] at r1 r2 r3
      by_cases hi : inI (a0 - a2)
      · rw [if_pos hi] at r4
        have d_z : decide (a0 - a2 < 0) = true := by simp <;> omega
        have d_z2 : decide (a0 - a2 > 0) = false := by simp <;> omega
        simp (disch := first | omega | (simp only [List.length_append, List.length_cons, List.length_nil, List.length_map, List.length_take, List.length_drop] <;> omega) | assumption | decide | (simp only [List.length_append, List.length_cons, List.length_nil, List.length_map] at * <;> omega) | fail) only [go_sem, wrap_i64, wrap_u64, X_ingotlaw11_DeciOrder, c_ingotlaw11_DeciOrder, known_ok, s1, s2, r1, r2, r3, r4, q0, eqn_bool, d_z, d_z2, show ((-1 : Int) != -1) = false by decide, show ((0 - -1 : Int) != 0 - -1) = false by decide, show ((1 : Int) != 1) = false by decide, show decide ((-1 : Int) < 0) = true by decide, show decide ((-1 : Int) > 0) = false by decide, Bool.not_true, Bool.not_false, Bool.true_and, Bool.false_and, Bool.and_true, Bool.and_false, Bool.true_or, Bool.false_or, Bool.or_true, Bool.or_false, true_and, and_true, and_self, Nat.reduceLeDiff, Nat.reduceLT, Nat.reduceAdd, Nat.zero_lt_succ, Nat.lt_add_one, Option.some.injEq, Loc.slot.injEq, Int.reduceAdd, Int.reduceSub, Int.reduceMul, Int.reduceNeg, beq_self_eq_true, List.length_cons, List.length_nil, decide_true, decide_false, Bool.and_self, bne_self_eq_false, ↓reduceIte, Nat.reduceEqDiff, reduceCtorEq, Bool.false_eq_true]
      · rw [if_neg hi] at r4
        simp (disch := first | omega | (simp only [List.length_append, List.length_cons, List.length_nil, List.length_map, List.length_take, List.length_drop] <;> omega) | assumption | decide | (simp only [List.length_append, List.length_cons, List.length_nil, List.length_map] at * <;> omega) | fail) only [go_sem, wrap_i64, wrap_u64, X_ingotlaw11_DeciOrder, c_ingotlaw11_DeciOrder, known_ok, s1, s2, r1, r2, r3, r4, q0, eqn_bool, show ((-1 : Int) != -1) = false by decide, show ((1 : Int) != 1) = false by decide, Bool.not_true, Bool.not_false, Bool.true_and, Bool.false_and, Bool.and_true, Bool.and_false, Bool.true_or, Bool.false_or, Bool.or_true, Bool.or_false, true_and, and_true, and_self, Nat.reduceLeDiff, Nat.reduceLT, Nat.reduceAdd, Nat.zero_lt_succ, Nat.lt_add_one, Option.some.injEq, Loc.slot.injEq, Int.reduceAdd, Int.reduceSub, Int.reduceMul, Int.reduceNeg, beq_self_eq_true, List.length_cons, List.length_nil, decide_true, decide_false, Bool.and_self, bne_self_eq_false, ↓reduceIte, Nat.reduceEqDiff, reduceCtorEq, Bool.false_eq_true]
    · rw [e] at r1 r2 r3
      by_cases hi : inI (a0 - a2)
      · rw [if_pos hi] at r4
        have d_z : decide (a0 - a2 < 0) = false := by simp <;> omega
        have d_z2 : decide (a0 - a2 > 0) = false := by simp <;> omega
        simp (disch := first | omega | (simp only [List.length_append, List.length_cons, List.length_nil, List.length_map, List.length_take, List.length_drop] <;> omega) | assumption | decide | (simp only [List.length_append, List.length_cons, List.length_nil, List.length_map] at * <;> omega) | fail) only [go_sem, wrap_i64, wrap_u64, X_ingotlaw11_DeciOrder, c_ingotlaw11_DeciOrder, known_ok, s1, s2, r1, r2, r3, r4, q0, eqn_bool, d_z, d_z2, show ((0 : Int) != 0) = false by decide, show decide ((0 : Int) < 0) = false by decide, show decide ((0 : Int) > 0) = false by decide, Bool.not_true, Bool.not_false, Bool.true_and, Bool.false_and, Bool.and_true, Bool.and_false, Bool.true_or, Bool.false_or, Bool.or_true, Bool.or_false, true_and, and_true, and_self, Nat.reduceLeDiff, Nat.reduceLT, Nat.reduceAdd, Nat.zero_lt_succ, Nat.lt_add_one, Option.some.injEq, Loc.slot.injEq, Int.reduceAdd, Int.reduceSub, Int.reduceMul, Int.reduceNeg, beq_self_eq_true, List.length_cons, List.length_nil, decide_true, decide_false, Bool.and_self, bne_self_eq_false, ↓reduceIte, Nat.reduceEqDiff, reduceCtorEq, Bool.false_eq_true]
      · rw [if_neg hi] at r4
        simp (disch := first | omega | (simp only [List.length_append, List.length_cons, List.length_nil, List.length_map, List.length_take, List.length_drop] <;> omega) | assumption | decide | (simp only [List.length_append, List.length_cons, List.length_nil, List.length_map] at * <;> omega) | fail) only [go_sem, wrap_i64, wrap_u64, X_ingotlaw11_DeciOrder, c_ingotlaw11_DeciOrder, known_ok, s1, s2, r1, r2, r3, r4, q0, eqn_bool, show ((0 : Int) != 0) = false by decide, Bool.not_true, Bool.not_false, Bool.true_and, Bool.false_and, Bool.and_true, Bool.and_false, Bool.true_or, Bool.false_or, Bool.or_true, Bool.or_false, true_and, and_true, and_self, Nat.reduceLeDiff, Nat.reduceLT, Nat.reduceAdd, Nat.zero_lt_succ, Nat.lt_add_one, Option.some.injEq, Loc.slot.injEq, Int.reduceAdd, Int.reduceSub, Int.reduceMul, Int.reduceNeg, beq_self_eq_true, List.length_cons, List.length_nil, decide_true, decide_false, Bool.and_self, bne_self_eq_false, ↓reduceIte, Nat.reduceEqDiff, reduceCtorEq, Bool.false_eq_true]
    · rw [e] at r1 r2 r3
      by_cases hi : inI (a0 - a2)
      · rw [if_pos hi] at r4
        have d_z : decide (a0 - a2 < 0) = false := by simp <;> omega
        have d_z2 : decide (a0 - a2 > 0) = true := by simp <;> omega
        simp (disch := first | omega | (simp only [List.length_append, List.length_cons, List.length_nil, List.length_map, List.length_take, List.length_drop] <;> omega) | assumption | decide | (simp only [List.length_append, List.length_cons, List.length_nil, List.length_map] at * <;> omega) | fail) only [go_sem, wrap_i64, wrap_u64, X_ingotlaw11_DeciOrder, c_ingotlaw11_DeciOrder, known_ok, s1, s2, r1, r2, r3, r4, q0, eqn_bool, d_z, d_z2, show ((1 : Int) != 1) = false by decide, show ((-1 : Int) != -1) = false by decide, show decide ((1 : Int) < 0) = false by decide, show decide ((1 : Int) > 0) = true by decide, Bool.not_true, Bool.not_false, Bool.true_and, Bool.false_and, Bool.and_true, Bool.and_false, Bool.true_or, Bool.false_or, Bool.or_true, Bool.or_false, true_and, and_true, and_self, Nat.reduceLeDiff, Nat.reduceLT, Nat.reduceAdd, Nat.zero_lt_succ, Nat.lt_add_one, Option.some.injEq, Loc.slot.injEq, Int.reduceAdd, Int.reduceSub, Int.reduceMul, Int.reduceNeg, beq_self_eq_true, List.length_cons, List.length_nil, decide_true, decide_false, Bool.and_self, bne_self_eq_false, ↓reduceIte, Nat.reduceEqDiff, reduceCtorEq, Bool.false_eq_true]
      · rw [if_neg hi] at r4
        simp (disch := first | omega | (simp only [List.length_append, List.length_cons, List.length_nil, List.length_map, List.length_take, List.length_drop] <;> omega) | assumption | decide | (simp only [List.length_append, List.length_cons, List.length_nil, List.length_map] at * <;> omega) | fail) only [go_sem, wrap_i64, wrap_u64, X_ingotlaw11_DeciOrder, c_ingotlaw11_DeciOrder, known_ok, s1, s2, r1, r2, r3, r4, q0, eqn_bool, show ((1 : Int) != 1) = false by decide, show ((-1 : Int) != -1) = false by decide, Bool.not_true, Bool.not_false, Bool.true_and, Bool.false_and, Bool.and_true, Bool.and_false, Bool.true_or, Bool.false_or, Bool.or_true, Bool.or_false, true_and, and_true, and_self, Nat.reduceLeDiff, Nat.reduceLT, Nat.reduceAdd, Nat.zero_lt_succ, Nat.lt_add_one, Option.some.injEq, Loc.slot.injEq, Int.reduceAdd, Int.reduceSub, Int.reduceMul, Int.reduceNeg, beq_self_eq_true, List.length_cons, List.length_nil, decide_true, decide_false, Bool.and_self, bne_self_eq_false, ↓reduceIte, Nat.reduceEqDiff, reduceCtorEq, Bool.false_eq_true]
  · have q0 : ((f : Int) != t) = true := by simp; omega
    have q1 : (cmpM a0 f a2 t != cmpM a0 f a2 t) = false := by simp
    have hcr : -1 ≤ cmpM a0 f a2 t ∧ cmpM a0 f a2 t ≤ 1 := by
      have := cmpZ_in (keyZ a0 f) (keyZ a2 t)
      unfold cmpM
      omega
    have q2 : (0 - cmpM a0 f a2 t != 0 - cmpM a0 f a2 t) = false := by simp
    simp (disch := first | omega | (simp only [List.length_append, List.length_cons, List.length_nil, List.length_map, List.length_take, List.length_drop] <;> omega) | assumption | decide | (simp only [List.length_append, List.length_cons, List.length_nil, List.length_map] at * <;> omega) | fail) only [go_sem, wrap_i64, wrap_u64, X_ingotlaw11_DeciOrder, c_ingotlaw11_DeciOrder, known_ok, s1, s2, r1, r2, r3, q0, q1, q2, Bool.not_true, Bool.not_false, Bool.true_and, Bool.false_and, Bool.and_true, Bool.and_false, Bool.true_or, Bool.false_or, Bool.or_true, Bool.or_false, true_and, and_true, and_self, Nat.reduceLeDiff, Nat.reduceLT, Nat.reduceAdd, Nat.zero_lt_succ, Nat.lt_add_one, Option.some.injEq, Loc.slot.injEq, Int.reduceAdd, Int.reduceSub, Int.reduceMul, Int.reduceNeg, beq_self_eq_true, List.length_cons, List.length_nil, decide_true, decide_false, Bool.and_self, bne_self_eq_false, ↓reduceIte, Nat.reduceEqDiff, reduceCtorEq, Bool.false_eq_true]
end Go.Proofs.YteckebocflnkdaaDoor.deciOrder
