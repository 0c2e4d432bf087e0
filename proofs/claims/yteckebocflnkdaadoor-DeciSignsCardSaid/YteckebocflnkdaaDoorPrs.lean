/- Decimals read of words, and compared digit by digit: what the functions compute. -/
import Derived.Test.YteckebocflnkdaaDoorTxt
import Derived.Test.YteckebocflnkdaaDoorL11
namespace Go.Proofs.YteckebocflnkdaaDoor
open Go Go.Ev
set_option linter.unusedVariables false
set_option linter.unusedSimpArgs false
set_option maxHeartbeats 4000000

theorem cutM_len : ∀ t : List UInt8, (cutM t).1.length + (cutM t).2.1.length ≤ t.length
  | [] => by simp [cutM]
  | c :: t => by
    unfold cutM
    split
    · simp
    · have := cutM_len t
      simp only [List.length_cons]
      omega
theorem restS_len (t : List UInt8) : (restS t).length ≤ t.length := by
  unfold restS
  split <;> simp
theorem zer_len (k : Nat) : (zer k).length = k := by simp [zer]
theorem deci_Parse_ans {t : List UInt8} {s : Nat} (ht : t.length ≤ 200) (hs : s ≤ 18) : evL cfg n_deci_Parse 0 [.d (.str (t)), .d (.int .i64 ((s : Int)))] [] = some (.d (.tup [.int .i64 (parseM t s).1, .int .i64 ((parseM t s).2 : Int)]), []) := by
  rw [o_deci_Parse]
  have c1 := clampS hs
  have hc := strings_CutPrefix_ans t (by omega)
  have hl1 := restS_len t
  have hk := strings_Cut_ans (restS t) (by omega)
  have hl2 := cutM_len (restS t)
  unfold parseM
  have hcb := (cutM_back (restS t)).2
  generalize cutM (restS t) = q at *
  obtain ⟨w, p, pt⟩ := q
  simp only at *
  have pw := deci_plain_ans (t := w) (by omega)
  have pp := deci_plain_ans (t := p) (by omega)
  generalize decide (t.head? = some 45) = neg at *
  cases hw : plainB w
  · rw [hw] at pw
    rw [if_pos (.inl rfl)]
    simp (disch := first | omega | (simp only [List.length_append, List.length_cons, List.length_nil, List.length_map, List.length_take, List.length_drop] <;> omega) | assumption | decide | (simp only [List.length_append, List.length_cons, List.length_nil, List.length_map] at * <;> omega) | fail) only [go_sem, wrap_i64, wrap_u64, X_deci_Parse, c_deci_Parse, c1, hc, hk, pw, Bool.not_true, Bool.not_false, Bool.true_and, Bool.false_and, Bool.and_true, Bool.and_false, Bool.true_or, Bool.false_or, Bool.or_true, Bool.or_false, true_and, and_true, and_self, Nat.reduceLeDiff, Nat.reduceLT, Nat.reduceAdd, Nat.zero_lt_succ, Nat.lt_add_one, Option.some.injEq, Loc.slot.injEq, Int.reduceAdd, Int.reduceSub, Int.reduceMul, Int.reduceNeg, beq_self_eq_true, List.length_cons, List.length_nil, decide_true, decide_false, Bool.and_self, bne_self_eq_false, ↓reduceIte, Nat.reduceEqDiff, reduceCtorEq, Bool.false_eq_true]
    rfl
  · rw [hw] at pw
    by_cases hp : pt = true ∧ plainB p = false
    · rw [if_pos (.inr hp)]
      rw [hp.2] at pp
      obtain ⟨rfl, _⟩ := hp
      simp (disch := first | omega | (simp only [List.length_append, List.length_cons, List.length_nil, List.length_map, List.length_take, List.length_drop] <;> omega) | assumption | decide | (simp only [List.length_append, List.length_cons, List.length_nil, List.length_map] at * <;> omega) | fail) only [go_sem, wrap_i64, wrap_u64, X_deci_Parse, c_deci_Parse, c1, hc, hk, pw, pp, Bool.not_true, Bool.not_false, Bool.true_and, Bool.false_and, Bool.and_true, Bool.and_false, Bool.true_or, Bool.false_or, Bool.or_true, Bool.or_false, true_and, and_true, and_self, Nat.reduceLeDiff, Nat.reduceLT, Nat.reduceAdd, Nat.zero_lt_succ, Nat.lt_add_one, Option.some.injEq, Loc.slot.injEq, Int.reduceAdd, Int.reduceSub, Int.reduceMul, Int.reduceNeg, beq_self_eq_true, List.length_cons, List.length_nil, decide_true, decide_false, Bool.and_self, bne_self_eq_false, ↓reduceIte, Nat.reduceEqDiff, reduceCtorEq, Bool.false_eq_true]
      rfl
    · rw [if_neg (by simpa using hp)]
      have tail : go X_deci_Parse [.c c_deci_Parse] ⟨[(0, .d (.str (t))), (1, .d (.int .i64 ((s : Int))))], []⟩ = some (.d (.tup [.int .i64 (if s < p.length then ((0 : Int), 4) else foldV neg 0 (w ++ p ++ zer (s - p.length))).1, .int .i64 (((if s < p.length then ((0 : Int), 4) else foldV neg 0 (w ++ p ++ zer (s - p.length))).2 : Nat) : Int)]), []) := by
        by_cases hlt : s < p.length
        · have d_a : decide ((p.length : Int) > s) = true := by simp <;> omega
          rw [if_pos hlt]
          cases pt
          · simp (disch := first | omega | (simp only [List.length_append, List.length_cons, List.length_nil, List.length_map, List.length_take, List.length_drop] <;> omega) | assumption | decide | (simp only [List.length_append, List.length_cons, List.length_nil, List.length_map] at * <;> omega) | fail) only [go_sem, wrap_i64, wrap_u64, X_deci_Parse, c_deci_Parse, c1, hc, hk, pw, d_a, Bool.not_true, Bool.not_false, Bool.true_and, Bool.false_and, Bool.and_true, Bool.and_false, Bool.true_or, Bool.false_or, Bool.or_true, Bool.or_false, true_and, and_true, and_self, Nat.reduceLeDiff, Nat.reduceLT, Nat.reduceAdd, Nat.zero_lt_succ, Nat.lt_add_one, Option.some.injEq, Loc.slot.injEq, Int.reduceAdd, Int.reduceSub, Int.reduceMul, Int.reduceNeg, beq_self_eq_true, List.length_cons, List.length_nil, decide_true, decide_false, Bool.and_self, bne_self_eq_false, ↓reduceIte, Nat.reduceEqDiff, reduceCtorEq, Bool.false_eq_true]
            rfl
          · have hp' : plainB p = true := by
              rw [← Bool.not_eq_false]
              exact fun e => hp ⟨rfl, e⟩
            rw [hp'] at pp
            simp (disch := first | omega | (simp only [List.length_append, List.length_cons, List.length_nil, List.length_map, List.length_take, List.length_drop] <;> omega) | assumption | decide | (simp only [List.length_append, List.length_cons, List.length_nil, List.length_map] at * <;> omega) | fail) only [go_sem, wrap_i64, wrap_u64, X_deci_Parse, c_deci_Parse, c1, hc, hk, pw, pp, d_a, Bool.not_true, Bool.not_false, Bool.true_and, Bool.false_and, Bool.and_true, Bool.and_false, Bool.true_or, Bool.false_or, Bool.or_true, Bool.or_false, true_and, and_true, and_self, Nat.reduceLeDiff, Nat.reduceLT, Nat.reduceAdd, Nat.zero_lt_succ, Nat.lt_add_one, Option.some.injEq, Loc.slot.injEq, Int.reduceAdd, Int.reduceSub, Int.reduceMul, Int.reduceNeg, beq_self_eq_true, List.length_cons, List.length_nil, decide_true, decide_false, Bool.and_self, bne_self_eq_false, ↓reduceIte, Nat.reduceEqDiff, reduceCtorEq, Bool.false_eq_true]
            rfl
        · have d_a : decide ((p.length : Int) > s) = false := by simp <;> omega
          rw [if_neg hlt]
          have r1 := repeat_ans (k := s - p.length) (by omega)
          have e1 : (s : Int) - p.length = ((s - p.length : Nat) : Int) := by omega
          have hz := zer_len (s - p.length)
          cases pt
          · have hdw : w.all digB = true := by unfold plainB at hw; simp only [Bool.and_eq_true] at hw; exact hw.2
            by_cases hp0 : p = []
            · have hall : (w ++ p ++ zer (s - p.length)).all digB = true := by rw [List.all_append, List.all_append, hdw, hp0, dig_zer]; rfl
              have hl := deci_Parse_loop neg (w ++ p ++ zer (s - p.length)) hall (by rw [List.length_append, List.length_append]; omega) _ 0 0 rfl (by omega) (by unfold inI; omega)
              rw [List.drop_zero, show ((0 : Nat) : Int) = 0 from rfl] at hl
              simp (disch := first | omega | (simp only [List.length_append, List.length_cons, List.length_nil, List.length_map, List.length_take, List.length_drop] <;> omega) | assumption | decide | (simp only [List.length_append, List.length_cons, List.length_nil, List.length_map] at * <;> omega) | fail) only [go_sem, wrap_i64, wrap_u64, X_deci_Parse, c_deci_Parse, c1, hc, hk, pw, d_a, e1, r1, List.length_map, Bool.not_true, Bool.not_false, Bool.true_and, Bool.false_and, Bool.and_true, Bool.and_false, Bool.true_or, Bool.false_or, Bool.or_true, Bool.or_false, true_and, and_true, and_self, Nat.reduceLeDiff, Nat.reduceLT, Nat.reduceAdd, Nat.zero_lt_succ, Nat.lt_add_one, Option.some.injEq, Loc.slot.injEq, Int.reduceAdd, Int.reduceSub, Int.reduceMul, Int.reduceNeg, beq_self_eq_true, List.length_cons, List.length_nil, decide_true, decide_false, Bool.and_self, bne_self_eq_false, ↓reduceIte, Nat.reduceEqDiff, reduceCtorEq, Bool.false_eq_true]
              exact hl
            · exact absurd (hcb rfl) hp0
          · have hp' : plainB p = true := by
              rw [← Bool.not_eq_false]
              exact fun e => hp ⟨rfl, e⟩
            rw [hp'] at pp
            have hdw : w.all digB = true := by unfold plainB at hw; simp only [Bool.and_eq_true] at hw; exact hw.2
            have hdp : p.all digB = true := by unfold plainB at hp'; simp only [Bool.and_eq_true] at hp'; exact hp'.2
            have hall : (w ++ p ++ zer (s - p.length)).all digB = true := by rw [List.all_append, List.all_append, hdw, hdp, dig_zer]; rfl
            have hl := deci_Parse_loop neg (w ++ p ++ zer (s - p.length)) hall (by rw [List.length_append, List.length_append]; omega) _ 0 0 rfl (by omega) (by unfold inI; omega)
            rw [List.drop_zero, show ((0 : Nat) : Int) = 0 from rfl] at hl
            simp (disch := first | omega | (simp only [List.length_append, List.length_cons, List.length_nil, List.length_map, List.length_take, List.length_drop] <;> omega) | assumption | decide | (simp only [List.length_append, List.length_cons, List.length_nil, List.length_map] at * <;> omega) | fail) only [go_sem, wrap_i64, wrap_u64, X_deci_Parse, c_deci_Parse, c1, hc, hk, pw, pp, d_a, e1, r1, List.length_map, Bool.not_true, Bool.not_false, Bool.true_and, Bool.false_and, Bool.and_true, Bool.and_false, Bool.true_or, Bool.false_or, Bool.or_true, Bool.or_false, true_and, and_true, and_self, Nat.reduceLeDiff, Nat.reduceLT, Nat.reduceAdd, Nat.zero_lt_succ, Nat.lt_add_one, Option.some.injEq, Loc.slot.injEq, Int.reduceAdd, Int.reduceSub, Int.reduceMul, Int.reduceNeg, beq_self_eq_true, List.length_cons, List.length_nil, decide_true, decide_false, Bool.and_self, bne_self_eq_false, ↓reduceIte, Nat.reduceEqDiff, reduceCtorEq, Bool.false_eq_true]
            exact hl
      exact tail
end Go.Proofs.YteckebocflnkdaaDoor
