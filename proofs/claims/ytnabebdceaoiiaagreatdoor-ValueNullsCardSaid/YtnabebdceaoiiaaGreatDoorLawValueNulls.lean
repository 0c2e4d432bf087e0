/- ValueNulls holds of any type and any value. -/
import Derived.Test.YtnabebdceaoiiaaGreatDoorLawValueOrders
namespace Go.Proofs.YtnabebdceaoiiaaGreatDoor
open Go Go.Ev
set_option linter.unusedVariables false
set_option linter.unusedSimpArgs false
set_option maxHeartbeats 2000000

abbrev nulV (i : Int) (b : Tx) : Va := .mk true i 0 b []
theorem nul_ok (i : Int) (h : inI i) (b : Tx) (hb : b.length < 2 ^ 63) : okV (nulV i b) := by
  rw [okV_eq]
  exact ⟨h, hb, Nat.zero_lt_succ _, trivial⟩
theorem nul_check0 (t : Ty) : evL cfg n_value_Check 0 [.d t.d, .d (.agg [.bool true, .int .i64 0, .int .i64 0, .sl [], .sl []])] [] = some (.d (.int .i64 (0)), []) := by
  have h := value_Check_ans 100 (nulV 0 []) t (show 1 + 0 ≤ 100 by decide) (nul_ok 0 (by decide) [] (by decide))
  rw [checkV_eq] at h
  exact h
theorem nul_check1 (t : Ty) : evL cfg n_value_Check 0 [.d t.d, .d (.agg [.bool true, .int .i64 1, .int .i64 0, .sl [], .sl []])] [] = some (.d (.int .i64 (1)), []) := by
  have h := value_Check_ans 100 (nulV 1 []) t (show 1 + 0 ≤ 100 by decide) (nul_ok 1 (by decide) [] (by decide))
  rw [checkV_eq] at h
  exact h
theorem nul_check2 (t : Ty) : evL cfg n_value_Check 0 [.d t.d, .d (.agg [.bool true, .int .i64 0, .int .i64 0, .sl [.int .u8 1], .sl []])] [] = some (.d (.int .i64 (1)), []) := by
  have h := value_Check_ans 100 (nulV 0 [1]) t (show 1 + 0 ≤ 100 by decide) (nul_ok 0 (by decide) [1] (show (1 : Nat) < 2 ^ 63 by decide))
  rw [checkV_eq] at h
  exact h
theorem nul_size (t : Ty) : evL cfg n_value_Size 0 [.d t.d, .d (.agg [.bool true, .int .i64 0, .int .i64 0, .sl [], .sl []])] [] = some (.d (.int .i64 (1)), []) := by
  rw [o_value_Size]
  simp (disch := first | omega | (simp only [go_sem, List.length_take, List.length_drop] <;> omega) | assumption | decide | fail) only [go_sem, X_value_Size, c_value_Size, Nat.reduceLeDiff, Nat.reduceLT, Nat.reduceAdd, Int.reduceAdd, Int.reduceSub, Int.reduceNeg, ↓reduceIte, Nat.reduceEqDiff, reduceCtorEq, Int.reduceBEq, Int.reduceBNe, Nat.reduceBEq]
theorem nul_text (t : Ty) : evL cfg n_value_Text 0 [.d t.d, .d (.agg [.bool true, .int .i64 0, .int .i64 0, .sl [], .sl []])] [] = some (.d (.str ([110, 117, 108, 108])), []) := by
  rw [o_value_Text]
  simp (disch := first | omega | (simp only [go_sem, List.length_take, List.length_drop] <;> omega) | assumption | decide | fail) only [go_sem, X_value_Text, c_value_Text, Nat.reduceLeDiff, Nat.reduceLT, Nat.reduceAdd, Int.reduceAdd, Int.reduceSub, Int.reduceNeg, ↓reduceIte, Nat.reduceEqDiff, reduceCtorEq, Int.reduceBEq, Int.reduceBNe, Nat.reduceBEq]
abbrev intD (k : Int) : D := .agg [.int .i64 k, .sl [], .sl [], .int .i64 0, .int .i64 0, .int .i64 0]
abbrev valD (n : Bool) (i : Int) : D := .agg [.bool n, .int .i64 i, .int .i64 0, .sl [], .sl []]
set_option maxRecDepth 100000 in
theorem map_check1 : evL cfg n_value_Check 0 [.d (.agg [.int .i64 11, .sl [], .sl [intD 3, intD 3], .int .i64 0, .int .i64 0, .int .i64 0]), .d (.agg [.bool false, .int .i64 0, .int .i64 0, .sl [], .sl [valD true 0, valD false 1]])] [] = some (.d (.int .i64 (1)), []) := evL_of_evFn (n := 20) (by kernel_rfl)
set_option maxRecDepth 100000 in
theorem map_check2 : evL cfg n_value_Check 0 [.d (.agg [.int .i64 11, .sl [], .sl [intD 3, intD 3], .int .i64 0, .int .i64 0, .int .i64 0]), .d (.agg [.bool false, .int .i64 0, .int .i64 0, .sl [], .sl [valD false 1, valD true 0]])] [] = some (.d (.int .i64 (0)), []) := evL_of_evFn (n := 20) (by kernel_rfl)
set_option maxRecDepth 100000 in
theorem nul_same : evL cfg n_ingotref14_Same 0 [.d (valD true 0), .d (valD true 0)] [] = some (.d (.bool (true)), []) := evL_of_evFn (n := 20) (by kernel_rfl)
theorem nul_of {t : Ty} {v : Va} (h : rchkV t v = 0) (hn : v.null = true) : v = nulV 0 [] := by
  rw [rchkV_eq] at h
  have hz : refNodeM t v = 0 := by
    split at h
    · exact h
    · rename_i h1; simpa using h1
  unfold refNodeM at hz
  rw [hn] at hz
  cases v with
  | mk nl i n b ks =>
    simp only [if_true] at hz
    split at hz
    · cases hz
    · rename_i h1
      simp only [Bool.or_eq_true, not_or, bne_iff_ne, ne_eq, Classical.not_not, decide_eq_true_eq] at h1
      obtain ⟨⟨⟨h2, h3⟩, h4⟩, h5⟩ := h1
      have hb : b = [] := by
        cases b with
        | nil => rfl
        | cons c b => exact absurd (show ((c :: b).length : Int) > 0 by simp) h4
      have hk : ks = [] := by
        cases ks with
        | nil => rfl
        | cons c b => exact absurd (show ((c :: b).length : Int) > 0 by simp) h5
      have e1 : i = 0 := h2
      have e2 : n = 0 := h3
      have e3 : nl = true := hn
      subst e1 e2 e3 hb hk
      rfl
theorem nul_few : evL cfg n_ingotlaw14_Few 0 [.d (.agg [.bool true, .int .i64 0, .int .i64 0, .sl [], .sl []])] [] = some (.d (.bool (true)), []) := evL_of_evFn (n := 20) (by kernel_rfl)
theorem nul_law (t : Ty) (hr : evL cfg n_ingotlaw14_Right 0 [.d t.d] [] = some (.d (.bool (true)), [])) (k1 : evL cfg n_ingotref14_Check 0 [.d t.d, .d (.agg [.bool true, .int .i64 0, .int .i64 0, .sl [], .sl []])] [] = some (.d (.int .i64 (0)), [])) : evL cfg n_ingotlaw14_ValueNulls 0 [.d t.d, .d (.agg [.bool true, .int .i64 0, .int .i64 0, .sl [], .sl []])] [] = some (.d (.bool (true)), []) := by
  rw [o_ingotlaw14_ValueNulls]
  simp (disch := first | omega | (simp only [go_sem, List.length_take, List.length_drop] <;> omega) | assumption | decide | fail) only [go_sem, X_ingotlaw14_ValueNulls, c_ingotlaw14_ValueNulls, known_ok, hr, nul_few, nul_check0, nul_check1, nul_check2, map_check1, map_check2, nul_size, nul_text, k1, nul_same, Nat.reduceLeDiff, Nat.reduceLT, Nat.reduceAdd, Int.reduceAdd, Int.reduceSub, Int.reduceNeg, ↓reduceIte, Nat.reduceEqDiff, reduceCtorEq, Int.reduceBEq, Int.reduceBNe, Nat.reduceBEq]
theorem rowValueNulls (t : Ty) (v : Va) (ht : ∀ m, smallT m t) (hv : okV v) : evL cfg n_ingotlaw14_ValueNulls 0 [.d t.d, .d v.d] [] = some (.d (.bool (true)), []) := by
  have hr := law14_Right_ans t (ht _)
  have f1 := law14_Few_ans v
  rw [o_ingotlaw14_ValueNulls]
  cases hR : rightT t with
  | false => simp (disch := first | omega | (simp only [go_sem, List.length_take, List.length_drop] <;> omega) | assumption | decide | fail) only [go_sem, X_ingotlaw14_ValueNulls, c_ingotlaw14_ValueNulls, known_ok, hr, hR, Nat.reduceLeDiff, Nat.reduceLT, Nat.reduceAdd, Int.reduceAdd, Int.reduceSub, Int.reduceNeg, ↓reduceIte, Nat.reduceEqDiff, reduceCtorEq, Int.reduceBEq, Int.reduceBNe, Nat.reduceBEq]
  | true =>
    cases hF : fewVB v with
    | false => simp (disch := first | omega | (simp only [go_sem, List.length_take, List.length_drop] <;> omega) | assumption | decide | fail) only [go_sem, X_ingotlaw14_ValueNulls, c_ingotlaw14_ValueNulls, known_ok, hr, hR, f1, hF, Nat.reduceLeDiff, Nat.reduceLT, Nat.reduceAdd, Int.reduceAdd, Int.reduceSub, Int.reduceNeg, ↓reduceIte, Nat.reduceEqDiff, reduceCtorEq, Int.reduceBEq, Int.reduceBNe, Nat.reduceBEq]
    | true =>
      have k1 := ref14_Check_ans _ v t (Nat.le_refl _) hv (right_good hR _)
      rcases Bool.eq_false_or_eq_true (rchkV t v != 0) with q | q
      · simp (disch := first | omega | (simp only [go_sem, List.length_take, List.length_drop] <;> omega) | assumption | decide | fail) only [go_sem, X_ingotlaw14_ValueNulls, c_ingotlaw14_ValueNulls, known_ok, hr, hR, f1, hF, nul_check0, nul_check1, nul_check2, map_check1, map_check2, nul_size, nul_text, k1, q, Nat.reduceLeDiff, Nat.reduceLT, Nat.reduceAdd, Int.reduceAdd, Int.reduceSub, Int.reduceNeg, ↓reduceIte, Nat.reduceEqDiff, reduceCtorEq, Int.reduceBEq, Int.reduceBNe, Nat.reduceBEq]
      · cases hN : v.null with
        | false => simp (disch := first | omega | (simp only [go_sem, List.length_take, List.length_drop] <;> omega) | assumption | decide | fail) only [go_sem, X_ingotlaw14_ValueNulls, c_ingotlaw14_ValueNulls, known_ok, hr, hR, f1, hF, nul_check0, nul_check1, nul_check2, map_check1, map_check2, nul_size, nul_text, k1, q, hN, Nat.reduceLeDiff, Nat.reduceLT, Nat.reduceAdd, Int.reduceAdd, Int.reduceSub, Int.reduceNeg, ↓reduceIte, Nat.reduceEqDiff, reduceCtorEq, Int.reduceBEq, Int.reduceBNe, Nat.reduceBEq]
        | true =>
          have e := nul_of (by simpa using q) hN
          subst e
          have q' : rchkV t (nulV 0 []) = 0 := by simpa using q
          rw [q'] at k1
          rw [hR] at hr
          rw [← o_ingotlaw14_ValueNulls]
          exact nul_law t hr k1
end Go.Proofs.YtnabebdceaoiiaaGreatDoor
