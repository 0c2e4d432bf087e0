/- DictWorth holds of any texts and any two shares. -/
import Derived.Test.YtghhloejmikdfaaJn
import Derived.Test.YtghhloejmikdfaaK
namespace Go.Proofs.Ytghhloejmikdfaa
open Go Go.Ev
set_option linter.unusedVariables false
set_option linter.unusedSimpArgs false
set_option maxHeartbeats 2000000

theorem fewT_len {l : List Tx} (h : fewT l = true) : l.length ≤ 150 ∧ ∀ x ∈ l, x.length ≤ 200 := by
  unfold fewT at h
  simp only [Bool.and_eq_true, decide_eq_true_eq, List.all_eq_true] at h
  exact h
theorem riseT_pos {l : List Tx} (h : l ≠ []) : 0 < (riseT l).length := by
  cases l with
  | nil => exact absurd rfl h
  | cons x l =>
    have := (mem_riseT (l := x :: l) (z := x)).2 List.mem_cons_self
    exact List.length_pos_of_mem this
theorem worth_mono {l : List Tx} {a b : Int} (h : a ≤ b) (hw : worthT l a = true) : worthT l b = true := by
  unfold worthT at hw ⊢
  simp only [Bool.and_eq_true, decide_eq_true_eq] at hw ⊢
  refine ⟨hw.1, Int.le_trans hw.2 (Int.mul_le_mul_of_nonneg_right (by unfold shareI; omega) (by omega))⟩
theorem worth_100 {l : List Tx} (h : l ≠ []) : worthT l 100 = true := by
  have := riseT_length l
  have := List.length_pos_iff.2 h
  unfold worthT
  simp only [Bool.and_eq_true, decide_eq_true_eq, show shareI 100 = 100 from rfl]
  omega
theorem worth_0 {l : List Tx} (h : l ≠ []) : worthT l 0 = false := by
  have := riseT_pos h
  unfold worthT
  simp only [show shareI 0 = 0 from rfl, Int.zero_mul, Bool.and_eq_false_imp, decide_eq_true_eq, decide_eq_false_iff_not]
  omega
theorem worth_nil (s : Int) : worthT [] s = false := rfl
theorem lawDictWorth (l : List Tx) (hl : l.length < 2 ^ 63) (a b : Int) : evL cfg n_ingotlaw17_DictWorth 0 [.d (.sl ((l).map txt)), .d (.int .i64 (a)), .d (.int .i64 (b))] [] = some (.d (.bool (true)), []) := by
  rw [o_ingotlaw17_DictWorth]
  have hf := law17_few_ans l hl
  rcases Bool.eq_false_or_eq_true (fewT l) with h | h
  · obtain ⟨h1, h2⟩ := fewT_len h
    have hw := fun s => dict_Worth_ans (l := l) (by omega) s
    rcases Bool.eq_false_or_eq_true (decide (a > b)) with d_c | d_c <;> have p_c := d_c <;> simp only [decide_eq_true_eq, decide_eq_false_iff_not, beq_iff_eq, beq_eq_false_iff_ne, ne_eq] at p_c 
    · simp (disch := first | omega | (simp only [go_sem, List.length_take, List.length_drop] <;> omega) | assumption | decide | fail) only [go_sem, X_ingotlaw17_DictWorth, c_ingotlaw17_DictWorth, known_ok, hf, h, d_c, Nat.reduceLeDiff, Nat.reduceLT, Nat.reduceAdd, Int.reduceAdd, Int.reduceSub, Int.reduceNeg, ↓reduceIte, Nat.reduceEqDiff, reduceCtorEq]
    · by_cases e : l = []
      · subst e
        have hw' := fun s => dict_Worth_ans (l := []) (by simp) s
        simp only [List.map_nil, worth_nil] at hw' hf
        simp (disch := first | omega | (simp only [go_sem, List.length_take, List.length_drop] <;> omega) | assumption | decide | fail) only [go_sem, X_ingotlaw17_DictWorth, c_ingotlaw17_DictWorth, known_ok, hf, h, d_c, List.map_nil, hw', nc0, show ((0 : Int) == 0) = true from rfl, Nat.reduceLeDiff, Nat.reduceLT, Nat.reduceAdd, Int.reduceAdd, Int.reduceSub, Int.reduceNeg, ↓reduceIte, Nat.reduceEqDiff, reduceCtorEq]
      · have d_d : ((l.length : Int) == 0) = false := by
          have := List.length_pos_iff.2 e
          simp; exact e
        have e1 := worth_100 e
        have e2 := worth_0 e
        rcases Bool.eq_false_or_eq_true (worthT l a) with h3 | h3
        · have h4 := worth_mono (by omega : a ≤ b) h3
          simp (disch := first | omega | (simp only [go_sem, List.length_take, List.length_drop] <;> omega) | assumption | decide | fail) only [go_sem, X_ingotlaw17_DictWorth, c_ingotlaw17_DictWorth, known_ok, hf, h, d_c, d_d, hw, e1, e2, h3, h4, Nat.reduceLeDiff, Nat.reduceLT, Nat.reduceAdd, Int.reduceAdd, Int.reduceSub, Int.reduceNeg, ↓reduceIte, Nat.reduceEqDiff, reduceCtorEq]
        · simp (disch := first | omega | (simp only [go_sem, List.length_take, List.length_drop] <;> omega) | assumption | decide | fail) only [go_sem, X_ingotlaw17_DictWorth, c_ingotlaw17_DictWorth, known_ok, hf, h, d_c, d_d, hw, e1, e2, h3, Nat.reduceLeDiff, Nat.reduceLT, Nat.reduceAdd, Int.reduceAdd, Int.reduceSub, Int.reduceNeg, ↓reduceIte, Nat.reduceEqDiff, reduceCtorEq]
  · simp (disch := first | omega | (simp only [go_sem, List.length_take, List.length_drop] <;> omega) | assumption | decide | fail) only [go_sem, X_ingotlaw17_DictWorth, c_ingotlaw17_DictWorth, known_ok, hf, h, Nat.reduceLeDiff, Nat.reduceLT, Nat.reduceAdd, Int.reduceAdd, Int.reduceSub, Int.reduceNeg, ↓reduceIte, Nat.reduceEqDiff, reduceCtorEq]
theorem rowDictWorth (a0 : List Tx) (a1 a2 : Int) (m0 : a0.length ≤ maxLen) (w1 : (Lit.int .i64 a1).wf = true) (w2 : (Lit.int .i64 a2).wf = true) : evL cfg n_ingotlaw17_DictWorth 0 [.d (.sl ((a0).map txt)), .d (.int .i64 (a1)), .d (.int .i64 (a2))] [] = some (.d (.bool (true)), []) := lawDictWorth a0 (len63 m0) a1 a2
end Go.Proofs.Ytghhloejmikdfaa
