/- P1102: other scales. -/
import Derived.Test.YteckebocflnkdaaDoorSca
import Derived.Test.YteckebocflnkdaaDoorK
import Derived.Test.YteckebocflnkdaaDoorScl
namespace Go.Proofs.YteckebocflnkdaaDoor.deciScales
open Go Go.Ev
set_option linter.unusedSimpArgs false
set_option linter.unusedVariables false
set_option maxHeartbeats 4000000
theorem law (a0 a1 a2 : Int) (w0 : (Lit.int .i64 a0).wf = true) (w1 : (Lit.int .i64 a1).wf = true) (w2 : (Lit.int .i64 a2).wf = true) :
    evL cfg n_ingotlaw11_DeciScales 0 [.d (.int .i64 (a0)), .d (.int .i64 (a1)), .d (.int .i64 (a2))] [] = some (.d (.bool (true)), []) := by
  rw [o_ingotlaw11_DeciScales]
  by_cases c1 : 0 ≤ a1 ∧ a1 ≤ 18
  case neg =>
    have s1 := scale_no c1
    simp (disch := first | omega | (simp only [List.length_append, List.length_cons, List.length_nil, List.length_map, List.length_take, List.length_drop] <;> omega) | assumption | decide | (simp only [List.length_append, List.length_cons, List.length_nil, List.length_map] at * <;> omega) | fail) only [go_sem, wrap_i64, wrap_u64, X_ingotlaw11_DeciScales, c_ingotlaw11_DeciScales, known_ok, s1, Bool.not_true, Bool.not_false, Bool.true_and, Bool.false_and, Bool.and_true, Bool.and_false, Bool.true_or, Bool.false_or, Bool.or_true, Bool.or_false, true_and, and_true, and_self, Nat.reduceLeDiff, Nat.reduceLT, Nat.reduceAdd, Nat.zero_lt_succ, Nat.lt_add_one, Option.some.injEq, Loc.slot.injEq, Int.reduceAdd, Int.reduceSub, Int.reduceMul, Int.reduceNeg, beq_self_eq_true, List.length_cons, List.length_nil, decide_true, decide_false, Bool.and_self, bne_self_eq_false, ↓reduceIte, Nat.reduceEqDiff, reduceCtorEq, Bool.false_eq_true]
  by_cases c2 : 0 ≤ a2 ∧ a2 ≤ 18
  case neg =>
    have s1 := scale_ok c1
    have s2 := scale_no c2
    simp (disch := first | omega | (simp only [List.length_append, List.length_cons, List.length_nil, List.length_map, List.length_take, List.length_drop] <;> omega) | assumption | decide | (simp only [List.length_append, List.length_cons, List.length_nil, List.length_map] at * <;> omega) | fail) only [go_sem, wrap_i64, wrap_u64, X_ingotlaw11_DeciScales, c_ingotlaw11_DeciScales, known_ok, s1, s2, Bool.not_true, Bool.not_false, Bool.true_and, Bool.false_and, Bool.and_true, Bool.and_false, Bool.true_or, Bool.false_or, Bool.or_true, Bool.or_false, true_and, and_true, and_self, Nat.reduceLeDiff, Nat.reduceLT, Nat.reduceAdd, Nat.zero_lt_succ, Nat.lt_add_one, Option.some.injEq, Loc.slot.injEq, Int.reduceAdd, Int.reduceSub, Int.reduceMul, Int.reduceNeg, beq_self_eq_true, List.length_cons, List.length_nil, decide_true, decide_false, Bool.and_self, bne_self_eq_false, ↓reduceIte, Nat.reduceEqDiff, reduceCtorEq, Bool.false_eq_true]
  have s1 := scale_ok c1
  have s2 := scale_ok c2
  obtain ⟨f, rfl⟩ : ∃ n : Nat, a1 = n := ⟨a1.toNat, by omega⟩
  obtain ⟨t, rfl⟩ : ∃ n : Nat, a2 = n := ⟨a2.toNat, by omega⟩
  have hv := inI_of w0
  have r1 := deci_Rescale_ans (v := a0) (f := f) (t := t) hv (by omega) (by omega)
  have r2 := ref11_Rescale_ans (v := a0) (f := f) (t := t) hv (by omega) (by omega)
  have hin := rescM_in (v := a0) (f := f) (t := t) hv
  have e1 : ((rescM a0 f t).1 != (rescM a0 f t).1) = false := by simp
  have e2 : ((rescM a0 f t).2 == (rescM a0 f t).2) = true := by simp
  cases ok : (rescM a0 f t).2
  · rw [ok] at r1 r2
    have e3 := hin.2 ok
    rw [e3] at r1 r2
    simp (disch := first | omega | (simp only [List.length_append, List.length_cons, List.length_nil, List.length_map, List.length_take, List.length_drop] <;> omega) | assumption | decide | (simp only [List.length_append, List.length_cons, List.length_nil, List.length_map] at * <;> omega) | fail) only [go_sem, wrap_i64, wrap_u64, X_ingotlaw11_DeciScales, c_ingotlaw11_DeciScales, known_ok, s1, s2, r1, r2, eqn_bool, show ((0 : Int) != 0) = false by decide, show ((0 : Int) == 0) = true by decide, Bool.not_true, Bool.not_false, Bool.true_and, Bool.false_and, Bool.and_true, Bool.and_false, Bool.true_or, Bool.false_or, Bool.or_true, Bool.or_false, true_and, and_true, and_self, Nat.reduceLeDiff, Nat.reduceLT, Nat.reduceAdd, Nat.zero_lt_succ, Nat.lt_add_one, Option.some.injEq, Loc.slot.injEq, Int.reduceAdd, Int.reduceSub, Int.reduceMul, Int.reduceNeg, beq_self_eq_true, List.length_cons, List.length_nil, decide_true, decide_false, Bool.and_self, bne_self_eq_false, ↓reduceIte, Nat.reduceEqDiff, reduceCtorEq, Bool.false_eq_true]
  · have hb := rescM_back hv ok
    rcases hb with ⟨hb, hk⟩ | hb
    · rw [ok] at r1 r2
      have r3 := deci_Rescale_ans (v := (rescM a0 f t).1) (f := t) (t := f) hin.1 (by omega) (by omega)
      rw [hb] at r3
      have r4 := deci_Compare_ans (a := a0) (b := (rescM a0 f t).1) (sa := f) (sb := t) hv hin.1 (by omega) (by omega)
      have e4 : cmpM a0 f (rescM a0 f t).1 t = 0 := by
        unfold cmpM
        rw [hk]
        unfold cmpZ
        rw [if_neg (by omega), if_neg (by omega)]
      rw [e4] at r4
      have e5 : (a0 == a0) = true := by simp
      simp (disch := first | omega | (simp only [List.length_append, List.length_cons, List.length_nil, List.length_map, List.length_take, List.length_drop] <;> omega) | assumption | decide | (simp only [List.length_append, List.length_cons, List.length_nil, List.length_map] at * <;> omega) | fail) only [go_sem, wrap_i64, wrap_u64, X_ingotlaw11_DeciScales, c_ingotlaw11_DeciScales, known_ok, s1, s2, r1, r2, r3, r4, e1, e5, eqn_bool, show ((0 : Int) == 0) = true by decide, Bool.not_true, Bool.not_false, Bool.true_and, Bool.false_and, Bool.and_true, Bool.and_false, Bool.true_or, Bool.false_or, Bool.or_true, Bool.or_false, true_and, and_true, and_self, Nat.reduceLeDiff, Nat.reduceLT, Nat.reduceAdd, Nat.zero_lt_succ, Nat.lt_add_one, Option.some.injEq, Loc.slot.injEq, Int.reduceAdd, Int.reduceSub, Int.reduceMul, Int.reduceNeg, beq_self_eq_true, List.length_cons, List.length_nil, decide_true, decide_false, Bool.and_self, bne_self_eq_false, ↓reduceIte, Nat.reduceEqDiff, reduceCtorEq, Bool.false_eq_true]
    · exact absurd (by omega) hb
end Go.Proofs.YteckebocflnkdaaDoor.deciScales
