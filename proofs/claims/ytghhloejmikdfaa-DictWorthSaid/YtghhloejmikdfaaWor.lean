/- Worth; numbers told as texts. -/
import Derived.Test.YtghhloejmikdfaaDmk
namespace Go.Proofs.Ytghhloejmikdfaa
open Go Go.Ev
set_option linter.unusedVariables false
set_option linter.unusedSimpArgs false
set_option maxHeartbeats 2000000

def shareI (s : Int) : Int := min (max s 0) 100
def worthT (l : List Tx) (s : Int) : Bool := decide (0 < l.length) && decide (100 * ((riseT l).length : Int) ≤ shareI s * l.length)
theorem share_bounds (s : Int) : 0 ≤ shareI s ∧ shareI s ≤ 100 := by unfold shareI; omega
theorem share_prod (s : Int) {n : Nat} (hn : n ≤ 1000000) : 0 ≤ shareI s * (n : Int) ∧ shareI s * (n : Int) ≤ 100000000 := by
  obtain ⟨h1, h2⟩ := share_bounds s
  have h3 : shareI s * (n : Int) ≤ 100 * (n : Int) := Int.mul_le_mul_of_nonneg_right h2 (by omega)
  have h4 := Int.mul_nonneg h1 (Int.natCast_nonneg n)
  omega
theorem dict_Worth_ans {l : List Tx} (hl : l.length ≤ 1000000) (s : Int) : evL cfg n_dict_Worth 0 [.d (.sl ((l).map txt)), .d (.int .i64 (s))] [] = some (.d (.bool (worthT l s)), []) := by
  rw [o_dict_Worth]
  have hwl := riseT_length l
  have h1 := rising_ans hl
  have h2 := share_prod s hl
  unfold worthT
  cases h : l with
  | nil =>
    have d_a : decide ((0 : Int) > 0) = false := by simp <;> omega
    simp (disch := first | omega | (simp only [go_sem, List.length_take, List.length_drop] <;> omega) | assumption | decide | fail) only [go_sem, X_dict_Worth, c_dict_Worth, d_a, List.map_nil, nc0, show decide (0 < 0) = false from rfl, Nat.reduceLeDiff, Nat.reduceLT, Nat.reduceAdd, Int.reduceAdd, Int.reduceSub, Int.reduceNeg, ↓reduceIte, Nat.reduceEqDiff, reduceCtorEq]
  | cons x r =>
    rw [← h]
    have hz : 0 < l.length := by rw [h]; simp
    have e : decide (0 < l.length) = true := by simpa using hz
    have hie : l.isEmpty = false := by rw [h]; rfl
    have hm : min (max s 0) 100 = shareI s := rfl
    have d_a : decide ((l.length : Int) > 0) = true := by simp <;> omega
    simp (disch := first | omega | (simp only [go_sem, List.length_take, List.length_drop] <;> omega) | assumption | decide | fail) only [go_sem, X_dict_Worth, c_dict_Worth, d_a, e, hie, h1, hm, Nat.reduceLeDiff, Nat.reduceLT, Nat.reduceAdd, Int.reduceAdd, Int.reduceSub, Int.reduceNeg, ↓reduceIte, Nat.reduceEqDiff, reduceCtorEq]
theorem ref17_Worth_ans {l : List Tx} (hl : l.length ≤ 1000000) (s : Int) : evL cfg n_ingotref17_Worth 0 [.d (.sl ((l).map txt)), .d (.int .i64 (s))] [] = some (.d (.bool (worthT l s)), []) := by
  rw [o_ingotref17_Worth]
  have hwl := riseT_length l
  have h1 := ref17_Make_ans hl
  have h2 := share_prod s hl
  have key : ∀ t : Int, t = shareI s → (decide ((l.length : Int) > 0) && decide (100 * ((riseT l).length : Int) ≤ t * l.length)) = worthT l s := fun t ht => by
    subst ht
    unfold worthT
    congr 1
    simp
  rw [← key _ rfl]
  have h3 : ∀ t, t = shareI s → 0 ≤ t * (l.length : Int) ∧ t * (l.length : Int) ≤ 100000000 := fun t ht => by rw [ht]; exact h2
  unfold shareI at h3 ⊢
  rcases Bool.eq_false_or_eq_true (decide (s < 0)) with d_a | d_a <;> have p_a := d_a <;> simp only [decide_eq_true_eq, decide_eq_false_iff_not, beq_iff_eq, beq_eq_false_iff_ne, ne_eq] at p_a 
  · have e : min (max s 0) 100 = 0 := by omega
    have h4 := h3 0 e.symm
    rw [e]
    rcases Bool.eq_false_or_eq_true (decide ((l.length : Int) > 0)) with d_b | d_b <;> have p_b := d_b <;> simp only [decide_eq_true_eq, decide_eq_false_iff_not, beq_iff_eq, beq_eq_false_iff_ne, ne_eq] at p_b <;> simp (disch := first | omega | (simp only [go_sem, List.length_take, List.length_drop] <;> omega) | assumption | decide | fail) only [go_sem, X_ingotref17_Worth, c_ingotref17_Worth, d_a, d_b, h1, show decide ((0 : Int) > 100) = false from rfl, Nat.reduceLeDiff, Nat.reduceLT, Nat.reduceAdd, Int.reduceAdd, Int.reduceSub, Int.reduceNeg, ↓reduceIte, Nat.reduceEqDiff, reduceCtorEq]
  · rcases Bool.eq_false_or_eq_true (decide (s > 100)) with d_c | d_c <;> have p_c := d_c <;> simp only [decide_eq_true_eq, decide_eq_false_iff_not, beq_iff_eq, beq_eq_false_iff_ne, ne_eq] at p_c 
    · have e : min (max s 0) 100 = 100 := by omega
      have h4 := h3 100 e.symm
      rw [e]
      rcases Bool.eq_false_or_eq_true (decide ((l.length : Int) > 0)) with d_b | d_b <;> have p_b := d_b <;> simp only [decide_eq_true_eq, decide_eq_false_iff_not, beq_iff_eq, beq_eq_false_iff_ne, ne_eq] at p_b <;> simp (disch := first | omega | (simp only [go_sem, List.length_take, List.length_drop] <;> omega) | assumption | decide | fail) only [go_sem, X_ingotref17_Worth, c_ingotref17_Worth, d_a, d_b, d_c, h1, Nat.reduceLeDiff, Nat.reduceLT, Nat.reduceAdd, Int.reduceAdd, Int.reduceSub, Int.reduceNeg, ↓reduceIte, Nat.reduceEqDiff, reduceCtorEq]
    · have e : min (max s 0) 100 = s := by omega
      have h4 := h3 s e.symm
      rw [e]
      rcases Bool.eq_false_or_eq_true (decide ((l.length : Int) > 0)) with d_b | d_b <;> have p_b := d_b <;> simp only [decide_eq_true_eq, decide_eq_false_iff_not, beq_iff_eq, beq_eq_false_iff_ne, ne_eq] at p_b <;> simp (disch := first | omega | (simp only [go_sem, List.length_take, List.length_drop] <;> omega) | assumption | decide | fail) only [go_sem, X_ingotref17_Worth, c_ingotref17_Worth, d_a, d_b, d_c, h1, Nat.reduceLeDiff, Nat.reduceLT, Nat.reduceAdd, Int.reduceAdd, Int.reduceSub, Int.reduceNeg, ↓reduceIte, Nat.reduceEqDiff, reduceCtorEq]
end Go.Proofs.Ytghhloejmikdfaa
