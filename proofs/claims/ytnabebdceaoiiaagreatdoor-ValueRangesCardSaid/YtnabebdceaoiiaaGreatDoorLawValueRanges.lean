/- ValueRanges holds of any kind and any number. -/
import Derived.Test.YtnabebdceaoiiaaGreatDoorVaD
namespace Go.Proofs.YtnabebdceaoiiaaGreatDoor
open Go Go.Ev
set_option linter.unusedVariables false
set_option linter.unusedSimpArgs false
set_option maxHeartbeats 2000000

theorem okV_num {v : Int} (h : inI v) : okV (.mk false v 0 [] []) := by
  rw [okV_eq]
  exact ⟨h, Nat.zero_lt_succ _, Nat.zero_lt_succ _, trivial⟩
theorem check_num (k : Int) {v : Int} (h : inI v) : evL cfg n_value_Check 0 [.d (.agg [.int .i64 k, .sl [], .sl [], .int .i64 0, .int .i64 0, .int .i64 0]), .d (.agg [.bool false, .int .i64 v, .int .i64 0, .sl [], .sl []])] [] = some (.d (.int .i64 (checkV (.mk k [] [] 0 0 0) (.mk false v 0 [] []))), []) :=
  value_Check_ans 100 (.mk false v 0 [] []) (.mk k [] [] 0 0 0) (show 1 + 0 ≤ 100 by decide) (okV_num h)
theorem sq8 : intBin .shl .i64 1 .u64 7 = some (.int .i64 128) := by kernel_rfl
theorem sq16 : intBin .shl .i64 1 .u64 15 = some (.int .i64 32768) := by kernel_rfl
theorem sq32 : intBin .shl .i64 1 .u64 31 = some (.int .i64 2147483648) := by kernel_rfl
theorem checkV_num {k v b : Int} (hn : numberM (.mk k [] [] 0 0 0) v 0 = (decide (v ≥ -b) && decide (v < b))) (hl : longM (.mk k [] [] 0 0 0) [] = false) (hc : countM (.mk k [] [] 0 0 0) 0 = 0) :
    checkV (.mk k [] [] 0 0 0) (.mk false v 0 [] []) = if (decide (v ≥ -b) && decide (v < b)) = true then 0 else 1 := by
  have hnode : nodeM (.mk k [] [] 0 0 0) (.mk false v 0 [] []) = if (decide (v ≥ -b) && decide (v < b)) = true then 0 else 1 := by
    have h1 : namedM (Ty.mk k [] [] 0 0 0).kind (.mk false v 0 [] []) = true := rfl
    unfold nodeM
    rw [h1]
    show (if (!true || (!false && !numberM (.mk k [] [] 0 0 0) v 0)) = true then (1 : Int) else if false = true then 0 else if longM (.mk k [] [] 0 0 0) [] = true then 4 else countM (.mk k [] [] 0 0 0) 0) = _
    rw [hn, hl, hc]
    cases decide (v ≥ -b) <;> cases decide (v < b) <;> rfl
  rw [checkV_eq, hnode]
  show (if _ then _ else if false = true then (0 : Int) else checkVs _ _ 0 []) = _
  rw [checkVs_nil]
  cases decide (v ≥ -b) <;> cases decide (v < b) <;> rfl
theorem wide_lt {v b : Int} : wideM v b = (decide (v ≥ -b) && decide (v < b)) := by
  unfold wideM
  congr 1
  exact decide_eq_decide.mpr (by omega)
theorem rowValueRanges (k v : Int) (hk : (Lit.int .i64 k).wf = true) (hv : (Lit.int .i64 v).wf = true) : evL cfg n_ingotlaw14_ValueRanges 0 [.d (.int .i64 (k)), .d (.int .i64 (v))] [] = some (.d (.bool (true)), []) := by
  have hi : inI v := by
    simp [Lit.wf, IntKind.min, IntKind.max, IntKind.signed, IntKind.bits] at hv
    unfold inI; omega
  have c := fun k => check_num k hi
  rw [o_ingotlaw14_ValueRanges]
  rcases Bool.eq_false_or_eq_true ((k == 1)) with d_a | d_a <;> have p_a := d_a <;> simp only [decide_eq_true_eq, decide_eq_false_iff_not, beq_iff_eq, beq_eq_false_iff_ne, ne_eq] at p_a 
  · subst p_a
    have e := checkV_num (k := 1) (v := v) (b := 128) wide_lt rfl rfl
    simp (disch := first | omega | (simp only [go_sem, List.length_take, List.length_drop] <;> omega) | assumption | decide | fail) only [go_sem, X_ingotlaw14_ValueRanges, c_ingotlaw14_ValueRanges, known_ok, c, e, sq8, Nat.reduceLeDiff, Nat.reduceLT, Nat.reduceAdd, Int.reduceAdd, Int.reduceSub, Int.reduceNeg, ↓reduceIte, Nat.reduceEqDiff, reduceCtorEq, Int.reduceBEq, Int.reduceBNe, Nat.reduceBEq]
    repeat' ((try rw [goQ_b]) <;> split <;> rename_i hh <;> (try simp only [Bool.not_eq_true, Bool.not_eq_false, Bool.not_eq_true', Bool.not_eq_false'] at hh) <;> (try simp (disch := first | omega | (simp only [go_sem, List.length_take, List.length_drop] <;> omega) | assumption | decide | fail) only [hh, go_sem, known_ok, c, e, sq8, Nat.reduceLeDiff, Nat.reduceLT, Nat.reduceAdd, Int.reduceAdd, Int.reduceSub, Int.reduceNeg, ↓reduceIte, Nat.reduceEqDiff, reduceCtorEq, Int.reduceBEq, Int.reduceBNe, Nat.reduceBEq]))
  · rcases Bool.eq_false_or_eq_true ((k == 2)) with d_b | d_b <;> have p_b := d_b <;> simp only [decide_eq_true_eq, decide_eq_false_iff_not, beq_iff_eq, beq_eq_false_iff_ne, ne_eq] at p_b 
    · subst p_b
      have e := checkV_num (k := 2) (v := v) (b := 32768) wide_lt rfl rfl
      simp (disch := first | omega | (simp only [go_sem, List.length_take, List.length_drop] <;> omega) | assumption | decide | fail) only [go_sem, X_ingotlaw14_ValueRanges, c_ingotlaw14_ValueRanges, known_ok, c, e, sq16, Nat.reduceLeDiff, Nat.reduceLT, Nat.reduceAdd, Int.reduceAdd, Int.reduceSub, Int.reduceNeg, ↓reduceIte, Nat.reduceEqDiff, reduceCtorEq, Int.reduceBEq, Int.reduceBNe, Nat.reduceBEq]
      repeat' ((try rw [goQ_b]) <;> split <;> rename_i hh <;> (try simp only [Bool.not_eq_true, Bool.not_eq_false, Bool.not_eq_true', Bool.not_eq_false'] at hh) <;> (try simp (disch := first | omega | (simp only [go_sem, List.length_take, List.length_drop] <;> omega) | assumption | decide | fail) only [hh, go_sem, known_ok, c, e, sq16, Nat.reduceLeDiff, Nat.reduceLT, Nat.reduceAdd, Int.reduceAdd, Int.reduceSub, Int.reduceNeg, ↓reduceIte, Nat.reduceEqDiff, reduceCtorEq, Int.reduceBEq, Int.reduceBNe, Nat.reduceBEq]))
    · rcases Bool.eq_false_or_eq_true ((k == 3)) with d_f | d_f <;> have p_f := d_f <;> simp only [decide_eq_true_eq, decide_eq_false_iff_not, beq_iff_eq, beq_eq_false_iff_ne, ne_eq] at p_f 
      · subst p_f
        have e := checkV_num (k := 3) (v := v) (b := 2147483648) wide_lt rfl rfl
        simp (disch := first | omega | (simp only [go_sem, List.length_take, List.length_drop] <;> omega) | assumption | decide | fail) only [go_sem, X_ingotlaw14_ValueRanges, c_ingotlaw14_ValueRanges, known_ok, c, e, sq32, Nat.reduceLeDiff, Nat.reduceLT, Nat.reduceAdd, Int.reduceAdd, Int.reduceSub, Int.reduceNeg, ↓reduceIte, Nat.reduceEqDiff, reduceCtorEq, Int.reduceBEq, Int.reduceBNe, Nat.reduceBEq]
        repeat' ((try rw [goQ_b]) <;> split <;> rename_i hh <;> (try simp only [Bool.not_eq_true, Bool.not_eq_false, Bool.not_eq_true', Bool.not_eq_false'] at hh) <;> (try simp (disch := first | omega | (simp only [go_sem, List.length_take, List.length_drop] <;> omega) | assumption | decide | fail) only [hh, go_sem, known_ok, c, e, sq32, Nat.reduceLeDiff, Nat.reduceLT, Nat.reduceAdd, Int.reduceAdd, Int.reduceSub, Int.reduceNeg, ↓reduceIte, Nat.reduceEqDiff, reduceCtorEq, Int.reduceBEq, Int.reduceBNe, Nat.reduceBEq]))
      · rcases Bool.eq_false_or_eq_true ((k == 15)) with d_g | d_g <;> have p_g := d_g <;> simp only [decide_eq_true_eq, decide_eq_false_iff_not, beq_iff_eq, beq_eq_false_iff_ne, ne_eq] at p_g 
        · subst p_g
          have e := checkV_num (k := 15) (v := v) (b := 2147483648) wide_lt rfl rfl
          simp (disch := first | omega | (simp only [go_sem, List.length_take, List.length_drop] <;> omega) | assumption | decide | fail) only [go_sem, X_ingotlaw14_ValueRanges, c_ingotlaw14_ValueRanges, known_ok, c, e, sq32, Nat.reduceLeDiff, Nat.reduceLT, Nat.reduceAdd, Int.reduceAdd, Int.reduceSub, Int.reduceNeg, ↓reduceIte, Nat.reduceEqDiff, reduceCtorEq, Int.reduceBEq, Int.reduceBNe, Nat.reduceBEq]
          repeat' ((try rw [goQ_b]) <;> split <;> rename_i hh <;> (try simp only [Bool.not_eq_true, Bool.not_eq_false, Bool.not_eq_true', Bool.not_eq_false'] at hh) <;> (try simp (disch := first | omega | (simp only [go_sem, List.length_take, List.length_drop] <;> omega) | assumption | decide | fail) only [hh, go_sem, known_ok, c, e, sq32, Nat.reduceLeDiff, Nat.reduceLT, Nat.reduceAdd, Int.reduceAdd, Int.reduceSub, Int.reduceNeg, ↓reduceIte, Nat.reduceEqDiff, reduceCtorEq, Int.reduceBEq, Int.reduceBNe, Nat.reduceBEq]))
        · rcases Bool.eq_false_or_eq_true ((k == 4)) with d_h | d_h <;> have p_h := d_h <;> simp only [decide_eq_true_eq, decide_eq_false_iff_not, beq_iff_eq, beq_eq_false_iff_ne, ne_eq] at p_h 
          · subst p_h
            have e : checkV (.mk 4 [] [] 0 0 0) (.mk false v 0 [] []) = 0 := rfl
            simp (disch := first | omega | (simp only [go_sem, List.length_take, List.length_drop] <;> omega) | assumption | decide | fail) only [go_sem, X_ingotlaw14_ValueRanges, c_ingotlaw14_ValueRanges, known_ok, c, e, Nat.reduceLeDiff, Nat.reduceLT, Nat.reduceAdd, Int.reduceAdd, Int.reduceSub, Int.reduceNeg, ↓reduceIte, Nat.reduceEqDiff, reduceCtorEq, Int.reduceBEq, Int.reduceBNe, Nat.reduceBEq]
            repeat' ((try rw [goQ_b]) <;> split <;> rename_i hh <;> (try simp only [Bool.not_eq_true, Bool.not_eq_false, Bool.not_eq_true', Bool.not_eq_false'] at hh) <;> (try simp (disch := first | omega | (simp only [go_sem, List.length_take, List.length_drop] <;> omega) | assumption | decide | fail) only [hh, go_sem, known_ok, c, e, Nat.reduceLeDiff, Nat.reduceLT, Nat.reduceAdd, Int.reduceAdd, Int.reduceSub, Int.reduceNeg, ↓reduceIte, Nat.reduceEqDiff, reduceCtorEq, Int.reduceBEq, Int.reduceBNe, Nat.reduceBEq]))
          · simp (disch := first | omega | (simp only [go_sem, List.length_take, List.length_drop] <;> omega) | assumption | decide | fail) only [go_sem, X_ingotlaw14_ValueRanges, c_ingotlaw14_ValueRanges, known_ok, d_a, d_b, d_f, d_g, d_h, Nat.reduceLeDiff, Nat.reduceLT, Nat.reduceAdd, Int.reduceAdd, Int.reduceSub, Int.reduceNeg, ↓reduceIte, Nat.reduceEqDiff, reduceCtorEq, Int.reduceBEq, Int.reduceBNe, Nat.reduceBEq]
end Go.Proofs.YtnabebdceaoiiaaGreatDoor
