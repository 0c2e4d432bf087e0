/- Are values, types few? -/
import Derived.Test.YtnabebdceaoiiaaGreatDoorVaC
namespace Go.Proofs.YtnabebdceaoiiaaGreatDoor
open Go Go.Ev
set_option linter.unusedVariables false
set_option linter.unusedSimpArgs false
set_option maxHeartbeats 2000000

mutual
def fewV (deep : Nat) : Va → Int
  | .mk _ _ _ b ks => if decide ((deep : Int) > 20) || decide ((ks.length : Int) > 400) || decide ((b.length : Int) > 5000) then 1000 else fewVs (deep + 1) (1 + ((b.length / 50 : Nat) : Int)) ks
def fewVs (deep : Nat) (n : Int) : List Va → Int
  | [] => n
  | k :: r => if decide (n + fewV deep k > 1000) then 1000 else fewVs deep (n + fewV deep k) r
end
theorem fewV_eq (deep : Nat) (v : Va) : fewV deep v = if decide ((deep : Int) > 20) || decide ((v.kids.length : Int) > 400) || decide ((v.b.length : Int) > 5000) then 1000 else fewVs (deep + 1) (1 + ((v.b.length / 50 : Nat) : Int)) v.kids := by
  cases v with
  | mk nl i n b ks => rw [fewV]; rfl
theorem fewVs_cons (deep : Nat) (n : Int) (k : Va) (r : List Va) : fewVs deep n (k :: r) = if decide (n + fewV deep k > 1000) then 1000 else fewVs deep (n + fewV deep k) r := by rw [fewVs]
theorem fewVs_nil (deep : Nat) (n : Int) : fewVs deep n [] = n := by rw [fewVs]
theorem fewV_bd : ∀ (m : Nat) (v : Va) (deep : Nat), v.size ≤ m → 1 ≤ fewV deep v ∧ fewV deep v ≤ 1000
  | 0, v, deep, h => by have := v.size_pos; omega
  | m + 1, v, deep, h => by
    rw [fewV_eq]
    split
    · omega
    · rename_i hc
      simp only [Bool.or_eq_true, decide_eq_true_eq, not_or] at hc
      have key : ∀ (r : List Va) (n : Int), (∀ k ∈ r, k.size ≤ m) → 1 ≤ n → n ≤ 1000 → 1 ≤ fewVs (deep + 1) n r ∧ fewVs (deep + 1) n r ≤ 1000 := by
        intro r
        induction r with
        | nil => intro n _ h1 h2; rw [fewVs_nil]; omega
        | cons k r ih =>
          intro n hk h1 h2
          have := fewV_bd m k (deep + 1) (hk k (by simp))
          rw [fewVs_cons]
          split
          · omega
          · rename_i h3
            simp only [decide_eq_true_eq] at h3
            exact ih _ (fun x hx => hk x (by simp [hx])) (by omega) (by omega)
      exact key v.kids _ (fun k hk => by have := Va.size_kid hk; omega) (by omega) (by omega)
theorem law14_few_loop (v : Va) (deep : Nat) (hd : deep ≤ 20) (hk : v.kids.length ≤ 400) (IH : ∀ k ∈ v.kids, evL cfg n_ak 0 [.d k.d, .d (.int .i64 (((deep + 1 : Nat) : Int)))] [] = some (.d (.int .i64 (fewV (deep + 1) k)), [])) : ∀ (r : List Va) (i : Nat) (n : Int), v.kids.drop i = r → i ≤ v.kids.length → 1 ≤ n → n ≤ 1000 →
    go X_ak [.c (.loop aaw), .b 0, .c (.seq ym .ret)] ⟨[(1, .d (.int .i64 ((deep : Int)))), (2, .ref 0 2 0), (5, .d (.int .i64 (n))), (6, .d (.int .i64 ((i : Int))))], boxV 2 v⟩ = some (.d (.int .i64 (fewVs (deep + 1) n r)), [])
  | [], i, n, hr, hi, h1, h2 => by
    have := dp hr
    have : i = v.kids.length := by omega
    subst this
    have d_a : decide ((v.kids.length : Int) < v.kids.length) = false := by simp <;> omega
    rw [go_loop, fewVs_nil]
    simp (disch := first | omega | (simp only [go_sem, List.length_take, List.length_drop] <;> omega) | assumption | decide | fail) only [go_sem, X_ak, d_a, boxV, Nat.reduceLeDiff, Nat.reduceLT, Nat.reduceAdd, Int.reduceAdd, Int.reduceSub, Int.reduceNeg, ↓reduceIte, Nat.reduceEqDiff, reduceCtorEq, Int.reduceBEq, Int.reduceBNe, Nat.reduceBEq]
  | k :: r, i, n, hr, hi, h1, h2 => by
    obtain ⟨hlt, hc, hr'⟩ := e9 hr
    have hb := fewV_bd _ k (deep + 1) (Nat.le_refl _)
    have hf := IH k (List.mem_of_getElem? hc)
    have d_a : decide ((i : Int) < v.kids.length) = true := by simp <;> omega
    have e1 : (i : Int) + 1 = ((i + 1 : Nat) : Int) := by omega
    have e2 : (deep : Int) + 1 = ((deep + 1 : Nat) : Int) := by omega
    rw [go_loop, fewVs_cons]
    generalize fewV (deep + 1) k = q at *
    rcases Bool.eq_false_or_eq_true (decide (n + q > 1000)) with d_x | d_x <;> have p_x := d_x <;> simp only [decide_eq_true_eq, decide_eq_false_iff_not, beq_iff_eq, beq_eq_false_iff_ne, ne_eq] at p_x 
    · simp (disch := first | omega | (simp only [go_sem, List.length_take, List.length_drop] <;> omega) | assumption | decide | fail) only [go_sem, X_ak, d_a, hc, e2, hf, boxV, d_x, Nat.reduceLeDiff, Nat.reduceLT, Nat.reduceAdd, Int.reduceAdd, Int.reduceSub, Int.reduceNeg, ↓reduceIte, Nat.reduceEqDiff, reduceCtorEq, Int.reduceBEq, Int.reduceBNe, Nat.reduceBEq]
    · have ih := law14_few_loop v deep hd hk IH r (i + 1) (n + q) hr' (by omega) (by omega) (by omega)
      simp only [boxV] at ih
      simp (disch := first | omega | (simp only [go_sem, List.length_take, List.length_drop] <;> omega) | assumption | decide | fail) only [go_sem, X_ak, d_a, hc, e2, hf, boxV, d_x, e1, ih, Nat.reduceLeDiff, Nat.reduceLT, Nat.reduceAdd, Int.reduceAdd, Int.reduceSub, Int.reduceNeg, ↓reduceIte, Nat.reduceEqDiff, reduceCtorEq, Int.reduceBEq, Int.reduceBNe, Nat.reduceBEq]
theorem law14_few_ans : ∀ (m : Nat) (v : Va) (deep : Nat), v.size ≤ m → deep ≤ 21 → evL cfg n_ak 0 [.d v.d, .d (.int .i64 ((deep : Int)))] [] = some (.d (.int .i64 (fewV deep v)), [])
  | 0, v, deep, h, _ => by have := v.size_pos; omega
  | m + 1, v, deep, h, hd => by
    rw [o_ak, fewV_eq]
    rcases Bool.eq_false_or_eq_true (decide ((deep : Int) > 20)) with d_a | d_a <;> have p_a := d_a <;> simp only [decide_eq_true_eq, decide_eq_false_iff_not, beq_iff_eq, beq_eq_false_iff_ne, ne_eq] at p_a 
    · simp (disch := first | omega | (simp only [go_sem, List.length_take, List.length_drop] <;> omega) | assumption | decide | fail) only [go_sem, X_ak, c_ak, d_a, Nat.reduceLeDiff, Nat.reduceLT, Nat.reduceAdd, Int.reduceAdd, Int.reduceSub, Int.reduceNeg, ↓reduceIte, Nat.reduceEqDiff, reduceCtorEq, Int.reduceBEq, Int.reduceBNe, Nat.reduceBEq]
    · rcases Bool.eq_false_or_eq_true (decide ((v.kids.length : Int) > 400)) with d_b | d_b <;> have p_b := d_b <;> simp only [decide_eq_true_eq, decide_eq_false_iff_not, beq_iff_eq, beq_eq_false_iff_ne, ne_eq] at p_b 
      · simp (disch := first | omega | (simp only [go_sem, List.length_take, List.length_drop] <;> omega) | assumption | decide | fail) only [go_sem, X_ak, c_ak, d_a, d_b, Nat.reduceLeDiff, Nat.reduceLT, Nat.reduceAdd, Int.reduceAdd, Int.reduceSub, Int.reduceNeg, ↓reduceIte, Nat.reduceEqDiff, reduceCtorEq, Int.reduceBEq, Int.reduceBNe, Nat.reduceBEq]
      · rcases Bool.eq_false_or_eq_true (decide ((v.b.length : Int) > 5000)) with d_c | d_c <;> have p_c := d_c <;> simp only [decide_eq_true_eq, decide_eq_false_iff_not, beq_iff_eq, beq_eq_false_iff_ne, ne_eq] at p_c 
        · simp (disch := first | omega | (simp only [go_sem, List.length_take, List.length_drop] <;> omega) | assumption | decide | fail) only [go_sem, X_ak, c_ak, d_a, d_b, d_c, Nat.reduceLeDiff, Nat.reduceLT, Nat.reduceAdd, Int.reduceAdd, Int.reduceSub, Int.reduceNeg, ↓reduceIte, Nat.reduceEqDiff, reduceCtorEq, Int.reduceBEq, Int.reduceBNe, Nat.reduceBEq]
        · have IH : ∀ k ∈ v.kids, evL cfg n_ak 0 [.d k.d, .d (.int .i64 (((deep + 1 : Nat) : Int)))] [] = some (.d (.int .i64 (fewV (deep + 1) k)), []) := fun k hk => law14_few_ans m k (deep + 1) (by have := Va.size_kid hk; omega) (by omega)
          have hl := law14_few_loop v deep (by omega) (by omega) IH v.kids 0 (1 + ((v.b.length / 50 : Nat) : Int)) rfl (Nat.zero_le _) (by omega) (by omega)
          simp only [boxV, nc0] at hl
          have e1 : (v.b.length : Int).tdiv 50 = ((v.b.length / 50 : Nat) : Int) := rfl
          simp (disch := first | omega | (simp only [go_sem, List.length_take, List.length_drop] <;> omega) | assumption | decide | fail) only [go_sem, X_ak, c_ak, d_a, d_b, d_c, ib_quo, e1, hl, Nat.reduceLeDiff, Nat.reduceLT, Nat.reduceAdd, Int.reduceAdd, Int.reduceSub, Int.reduceNeg, ↓reduceIte, Nat.reduceEqDiff, reduceCtorEq, Int.reduceBEq, Int.reduceBNe, Nat.reduceBEq]
def fewVB (v : Va) : Bool := decide (fewV 1 v ≤ 400)
theorem law14_Few_ans (v : Va) : evL cfg n_bo 0 [.d v.d] [] = some (.d (.bool (fewVB v)), []) := by
  have h1 := law14_few_ans _ v 1 (Nat.le_refl _) (by omega)
  have h2 : evL cfg n_bb 0 [.d v.d] [] = some (.d (.int .i64 (fewV 1 v)), []) := by
    rw [o_bb]
    rw [show ((1 : Nat) : Int) = 1 from rfl] at h1
    simp (disch := first | omega | (simp only [go_sem, List.length_take, List.length_drop] <;> omega) | assumption | decide | fail) only [go_sem, X_bb, c_bb, h1, Nat.reduceLeDiff, Nat.reduceLT, Nat.reduceAdd, Int.reduceAdd, Int.reduceSub, Int.reduceNeg, ↓reduceIte, Nat.reduceEqDiff, reduceCtorEq, Int.reduceBEq, Int.reduceBNe, Nat.reduceBEq]
  rw [o_bo]
  simp (disch := first | omega | (simp only [go_sem, List.length_take, List.length_drop] <;> omega) | assumption | decide | fail) only [go_sem, X_bo, c_bo, h2, fewVB, Nat.reduceLeDiff, Nat.reduceLT, Nat.reduceAdd, Int.reduceAdd, Int.reduceSub, Int.reduceNeg, ↓reduceIte, Nat.reduceEqDiff, reduceCtorEq, Int.reduceBEq, Int.reduceBNe, Nat.reduceBEq]
end Go.Proofs.YtnabebdceaoiiaaGreatDoor
