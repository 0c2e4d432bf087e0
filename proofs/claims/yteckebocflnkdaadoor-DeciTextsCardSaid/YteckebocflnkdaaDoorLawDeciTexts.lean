/- P1102: words. -/
import Derived.Test.YteckebocflnkdaaDoorPrsB
import Derived.Test.YteckebocflnkdaaDoorK
import Derived.Test.YteckebocflnkdaaDoorScl
import Derived.Test.YteckebocflnkdaaDoorWrd
namespace Go.Proofs.YteckebocflnkdaaDoor.deciTexts
open Go Go.Ev
set_option linter.unusedSimpArgs false
set_option linter.unusedVariables false
set_option maxHeartbeats 4000000
theorem law (a0 a1 : Int) (a2 : List UInt8) (w0 : (Lit.int .i64 a0).wf = true) (w1 : (Lit.int .i64 a1).wf = true) :
    evL cfg n_ingotlaw11_DeciTexts 0 [.d (.int .i64 (a0)), .d (.int .i64 (a1)), .d (.str (a2))] [] = some (.d (.bool (true)), []) := by
  rw [o_ingotlaw11_DeciTexts]
  by_cases c1 : 0 ≤ a1 ∧ a1 ≤ 18
  case neg =>
    have s1 := scale_no c1
    simp (disch := first | omega | (simp only [List.length_append, List.length_cons, List.length_nil, List.length_map, List.length_take, List.length_drop] <;> omega) | assumption | decide | (simp only [List.length_append, List.length_cons, List.length_nil, List.length_map] at * <;> omega) | fail) only [go_sem, wrap_i64, wrap_u64, X_ingotlaw11_DeciTexts, c_ingotlaw11_DeciTexts, known_ok, s1, Bool.not_true, Bool.not_false, Bool.true_and, Bool.false_and, Bool.and_true, Bool.and_false, Bool.true_or, Bool.false_or, Bool.or_true, Bool.or_false, true_and, and_true, and_self, Nat.reduceLeDiff, Nat.reduceLT, Nat.reduceAdd, Nat.zero_lt_succ, Nat.lt_add_one, Option.some.injEq, Loc.slot.injEq, Int.reduceAdd, Int.reduceSub, Int.reduceMul, Int.reduceNeg, beq_self_eq_true, List.length_cons, List.length_nil, decide_true, decide_false, Bool.and_self, bne_self_eq_false, ↓reduceIte, Nat.reduceEqDiff, reduceCtorEq, Bool.false_eq_true]
  have s1 := scale_ok c1
  rcases Bool.eq_false_or_eq_true (decide ((a2.length : Int) > 60)) with d_p | d_p <;> have p_p := d_p <;> simp only [decide_eq_true_eq, decide_eq_false_iff_not, beq_iff_eq, beq_eq_false_iff_ne, ne_eq] at p_p 
  · simp (disch := first | omega | (simp only [List.length_append, List.length_cons, List.length_nil, List.length_map, List.length_take, List.length_drop] <;> omega) | assumption | decide | (simp only [List.length_append, List.length_cons, List.length_nil, List.length_map] at * <;> omega) | fail) only [go_sem, wrap_i64, wrap_u64, X_ingotlaw11_DeciTexts, c_ingotlaw11_DeciTexts, known_ok, s1, d_p, Bool.not_true, Bool.not_false, Bool.true_and, Bool.false_and, Bool.and_true, Bool.and_false, Bool.true_or, Bool.false_or, Bool.or_true, Bool.or_false, true_and, and_true, and_self, Nat.reduceLeDiff, Nat.reduceLT, Nat.reduceAdd, Nat.zero_lt_succ, Nat.lt_add_one, Option.some.injEq, Loc.slot.injEq, Int.reduceAdd, Int.reduceSub, Int.reduceMul, Int.reduceNeg, beq_self_eq_true, List.length_cons, List.length_nil, decide_true, decide_false, Bool.and_self, bne_self_eq_false, ↓reduceIte, Nat.reduceEqDiff, reduceCtorEq, Bool.false_eq_true]
  obtain ⟨s, rfl⟩ : ∃ n : Nat, a1 = n := ⟨a1.toNat, by omega⟩
  have hv := inI_of w0
  have t1 := deci_Text_ans (v := a0) (s := s) hv (by omega)
  have t2 := ref11_Text_ans (v := a0) (s := s) hv (by omega)
  have p1 := deci_Parse_ans (t := a2) (s := s) (by omega) (by omega)
  have p2 := ref11_Parse_ans (t := a2) (s := s) (by omega) (by omega)
  have hl := textS_len (v := a0) (s := s) (by omega)
  have p3 := deci_Parse_ans (t := textS a0 s) (s := s) (by omega) (by omega)
  rw [parse_text hv (by omega)] at p3
  have d1 := deci_Digits_ans hv
  have d2 := ref11_Digits_ans hv
  have e1 : (textS a0 s == textS a0 s) = true := by simp
  have e2 : ((parseM a2 s).1 == (parseM a2 s).1) = true := by simp
  have e3 : (((parseM a2 s).2 : Int) == ((parseM a2 s).2 : Int)) = true := by simp
  have e4 : (a0 == a0) = true := by simp
  have e5 : ((digN a0.natAbs : Int) == (digN a0.natAbs : Int)) = true := by simp
  simp (disch := first | omega | (simp only [List.length_append, List.length_cons, List.length_nil, List.length_map, List.length_take, List.length_drop] <;> omega) | assumption | decide | (simp only [List.length_append, List.length_cons, List.length_nil, List.length_map] at * <;> omega) | fail) only [go_sem, wrap_i64, wrap_u64, X_ingotlaw11_DeciTexts, c_ingotlaw11_DeciTexts, known_ok, s1, d_p, t1, t2, p1, p2, p3, d1, d2, e1, e2, e3, e4, e5, show ((0 : Int) == 0) = true by decide, Bool.not_true, Bool.not_false, Bool.true_and, Bool.false_and, Bool.and_true, Bool.and_false, Bool.true_or, Bool.false_or, Bool.or_true, Bool.or_false, true_and, and_true, and_self, Nat.reduceLeDiff, Nat.reduceLT, Nat.reduceAdd, Nat.zero_lt_succ, Nat.lt_add_one, Option.some.injEq, Loc.slot.injEq, Int.reduceAdd, Int.reduceSub, Int.reduceMul, Int.reduceNeg, beq_self_eq_true, List.length_cons, List.length_nil, decide_true, decide_false, Bool.and_self, bne_self_eq_false, ↓reduceIte, Nat.reduceEqDiff, reduceCtorEq, Bool.false_eq_true]
end Go.Proofs.YteckebocflnkdaaDoor.deciTexts
