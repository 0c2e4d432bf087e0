/- ValueOrders holds of any type and any three values. -/
import Derived.Test.YtnabebdceaoiiaaGreatDoorVaG
import Derived.Test.YtnabebdceaoiiaaGreatDoorVaF
namespace Go.Proofs.YtnabebdceaoiiaaGreatDoor
open Go Go.Ev
set_option linter.unusedVariables false
set_option linter.unusedSimpArgs false
set_option maxHeartbeats 2000000

theorem chkTs_mem : ∀ {l : List Ty} {d : Nat} {n : Int}, (chkTs d n l).2 = 0 → ∀ k ∈ l, ∃ n', (chkT d n' k).2 = 0
  | k :: r, d, n, h, x, hx => by
    rw [chkTs_cons] at h
    split at h
    · rename_i h1
      rw [h] at h1
      simp at h1
    · rename_i h1
      rcases List.mem_cons.1 hx with e | e
      · rw [e]; exact ⟨n, by simpa using h1⟩
      · exact chkTs_mem h x e
theorem chk_good : ∀ (m : Nat) (t : Ty) (d : Nat) (n : Int), (chkT d n t).2 = 0 → goodT m t
  | 0, _, _, _, _ => trivial
  | m + 1, t, d, n, h => by
    rw [chkT_eq] at h
    split at h
    · cases h
    · split at h
      · rename_i h1
        simp only at h
        rw [h] at h1
        simp at h1
      · rename_i h1
        refine ⟨by simpa using h1, fun k hk => ?_⟩
        obtain ⟨n', h2⟩ := chkTs_mem h k hk
        exact chk_good m k _ _ h2
theorem right_good {t : Ty} (h : rightT t = true) (m : Nat) : goodT m t := by
  unfold rightT at h
  simp only [Bool.and_eq_true, beq_iff_eq] at h
  exact chk_good m t 1 0 h.2
theorem lawValueOrders (t : Ty) (a b c : Va) (ht : ∀ m, smallT m t) (ha : okV a) (hb : okV b) (hc : okV c) : evL cfg n_ingotlaw14_ValueOrders 0 [.d t.d, .d a.d, .d b.d, .d c.d] [] = some (.d (.bool (true)), []) := by
  have hr := law14_Right_ans t (ht _)
  have f1 := law14_Few_ans a
  have f2 := law14_Few_ans b
  have f3 := law14_Few_ans c
  have c1 := value_Compare_ans t a b
  have c2 := value_Compare_ans t b c
  have c3 := value_Compare_ans t a c
  have ho := cmpV_or t a b c
  rw [o_ingotlaw14_ValueOrders]
  cases hR : rightT t with
  | false => simp (disch := first | omega | (simp only [go_sem, List.length_take, List.length_drop] <;> omega) | assumption | decide | fail) only [go_sem, X_ingotlaw14_ValueOrders, c_ingotlaw14_ValueOrders, known_ok, hr, hR, Nat.reduceLeDiff, Nat.reduceLT, Nat.reduceAdd, Int.reduceAdd, Int.reduceSub, Int.reduceNeg, ↓reduceIte, Nat.reduceEqDiff, reduceCtorEq, Int.reduceBEq, Int.reduceBNe, Nat.reduceBEq]
  | true =>
    have k1 := ref14_Check_ans _ a t (Nat.le_refl _) ha (right_good hR _)
    have k2 := ref14_Check_ans _ b t (Nat.le_refl _) hb (right_good hR _)
    have k3 := ref14_Check_ans _ c t (Nat.le_refl _) hc (right_good hR _)
    generalize rchkV t a = e1 at *
    generalize rchkV t b = e2 at *
    generalize rchkV t c = e3 at *
    generalize cmpV t a b = x at *
    generalize cmpV t b c = y at *
    generalize cmpV t a c = z at *
    rcases Bool.eq_false_or_eq_true (e1 != 0) with q1 | q1
    · simp (disch := first | omega | (simp only [go_sem, List.length_take, List.length_drop] <;> omega) | assumption | decide | fail) only [go_sem, X_ingotlaw14_ValueOrders, c_ingotlaw14_ValueOrders, known_ok, hr, hR, f1, f2, f3, k1, q1, Nat.reduceLeDiff, Nat.reduceLT, Nat.reduceAdd, Int.reduceAdd, Int.reduceSub, Int.reduceNeg, ↓reduceIte, Nat.reduceEqDiff, reduceCtorEq, Int.reduceBEq, Int.reduceBNe, Nat.reduceBEq]
      repeat' ((try rw [goQ_b]) <;> split <;> rename_i hh <;> (try simp only [Bool.not_eq_true, Bool.not_eq_false, Bool.not_eq_true', Bool.not_eq_false'] at hh) <;> (try simp (disch := first | omega | (simp only [go_sem, List.length_take, List.length_drop] <;> omega) | assumption | decide | fail) only [*, go_sem, known_ok, hr, hR, f1, f2, f3, k1, q1, Nat.reduceLeDiff, Nat.reduceLT, Nat.reduceAdd, Int.reduceAdd, Int.reduceSub, Int.reduceNeg, ↓reduceIte, Nat.reduceEqDiff, reduceCtorEq, Int.reduceBEq, Int.reduceBNe, Nat.reduceBEq]))
    · rcases Bool.eq_false_or_eq_true (e2 != 0) with q2 | q2
      · simp (disch := first | omega | (simp only [go_sem, List.length_take, List.length_drop] <;> omega) | assumption | decide | fail) only [go_sem, X_ingotlaw14_ValueOrders, c_ingotlaw14_ValueOrders, known_ok, hr, hR, f1, f2, f3, k1, k2, q1, q2, Nat.reduceLeDiff, Nat.reduceLT, Nat.reduceAdd, Int.reduceAdd, Int.reduceSub, Int.reduceNeg, ↓reduceIte, Nat.reduceEqDiff, reduceCtorEq, Int.reduceBEq, Int.reduceBNe, Nat.reduceBEq]
        repeat' ((try rw [goQ_b]) <;> split <;> rename_i hh <;> (try simp only [Bool.not_eq_true, Bool.not_eq_false, Bool.not_eq_true', Bool.not_eq_false'] at hh) <;> (try simp (disch := first | omega | (simp only [go_sem, List.length_take, List.length_drop] <;> omega) | assumption | decide | fail) only [*, go_sem, known_ok, hr, hR, f1, f2, f3, k1, k2, q1, q2, Nat.reduceLeDiff, Nat.reduceLT, Nat.reduceAdd, Int.reduceAdd, Int.reduceSub, Int.reduceNeg, ↓reduceIte, Nat.reduceEqDiff, reduceCtorEq, Int.reduceBEq, Int.reduceBNe, Nat.reduceBEq]))
      · rcases Bool.eq_false_or_eq_true (e3 != 0) with q3 | q3
        · simp (disch := first | omega | (simp only [go_sem, List.length_take, List.length_drop] <;> omega) | assumption | decide | fail) only [go_sem, X_ingotlaw14_ValueOrders, c_ingotlaw14_ValueOrders, known_ok, hr, hR, f1, f2, f3, k1, k2, k3, q1, q2, q3, Nat.reduceLeDiff, Nat.reduceLT, Nat.reduceAdd, Int.reduceAdd, Int.reduceSub, Int.reduceNeg, ↓reduceIte, Nat.reduceEqDiff, reduceCtorEq, Int.reduceBEq, Int.reduceBNe, Nat.reduceBEq]
          repeat' ((try rw [goQ_b]) <;> split <;> rename_i hh <;> (try simp only [Bool.not_eq_true, Bool.not_eq_false, Bool.not_eq_true', Bool.not_eq_false'] at hh) <;> (try simp (disch := first | omega | (simp only [go_sem, List.length_take, List.length_drop] <;> omega) | assumption | decide | fail) only [*, go_sem, known_ok, hr, hR, f1, f2, f3, k1, k2, k3, q1, q2, q3, Nat.reduceLeDiff, Nat.reduceLT, Nat.reduceAdd, Int.reduceAdd, Int.reduceSub, Int.reduceNeg, ↓reduceIte, Nat.reduceEqDiff, reduceCtorEq, Int.reduceBEq, Int.reduceBNe, Nat.reduceBEq]))
        · cases hx : x.2 with
          | false => simp (disch := first | omega | (simp only [go_sem, List.length_take, List.length_drop] <;> omega) | assumption | decide | fail) only [go_sem, X_ingotlaw14_ValueOrders, c_ingotlaw14_ValueOrders, known_ok, hr, hR, f1, f2, f3, k1, k2, k3, q1, q2, q3, c1, c2, c3, hx, Nat.reduceLeDiff, Nat.reduceLT, Nat.reduceAdd, Int.reduceAdd, Int.reduceSub, Int.reduceNeg, ↓reduceIte, Nat.reduceEqDiff, reduceCtorEq, Int.reduceBEq, Int.reduceBNe, Nat.reduceBEq]
                     repeat' ((try rw [goQ_b]) <;> split <;> rename_i hh <;> (try simp only [Bool.not_eq_true, Bool.not_eq_false, Bool.not_eq_true', Bool.not_eq_false'] at hh) <;> (try simp (disch := first | omega | (simp only [go_sem, List.length_take, List.length_drop] <;> omega) | assumption | decide | fail) only [*, go_sem, known_ok, hr, hR, f1, f2, f3, k1, k2, k3, q1, q2, q3, c1, c2, c3, hx, Nat.reduceLeDiff, Nat.reduceLT, Nat.reduceAdd, Int.reduceAdd, Int.reduceSub, Int.reduceNeg, ↓reduceIte, Nat.reduceEqDiff, reduceCtorEq, Int.reduceBEq, Int.reduceBNe, Nat.reduceBEq]))
          | true =>
            cases hy : y.2 with
            | false => simp (disch := first | omega | (simp only [go_sem, List.length_take, List.length_drop] <;> omega) | assumption | decide | fail) only [go_sem, X_ingotlaw14_ValueOrders, c_ingotlaw14_ValueOrders, known_ok, hr, hR, f1, f2, f3, k1, k2, k3, q1, q2, q3, c1, c2, c3, hx, hy, Nat.reduceLeDiff, Nat.reduceLT, Nat.reduceAdd, Int.reduceAdd, Int.reduceSub, Int.reduceNeg, ↓reduceIte, Nat.reduceEqDiff, reduceCtorEq, Int.reduceBEq, Int.reduceBNe, Nat.reduceBEq]
                       repeat' ((try rw [goQ_b]) <;> split <;> rename_i hh <;> (try simp only [Bool.not_eq_true, Bool.not_eq_false, Bool.not_eq_true', Bool.not_eq_false'] at hh) <;> (try simp (disch := first | omega | (simp only [go_sem, List.length_take, List.length_drop] <;> omega) | assumption | decide | fail) only [*, go_sem, known_ok, hr, hR, f1, f2, f3, k1, k2, k3, q1, q2, q3, c1, c2, c3, hx, hy, Nat.reduceLeDiff, Nat.reduceLT, Nat.reduceAdd, Int.reduceAdd, Int.reduceSub, Int.reduceNeg, ↓reduceIte, Nat.reduceEqDiff, reduceCtorEq, Int.reduceBEq, Int.reduceBNe, Nat.reduceBEq]))
            | true =>
              obtain ⟨h1, h2, h3⟩ := ho hx hy
              clear ho
              simp (disch := first | omega | (simp only [go_sem, List.length_take, List.length_drop] <;> omega) | assumption | decide | fail) only [go_sem, X_ingotlaw14_ValueOrders, c_ingotlaw14_ValueOrders, known_ok, hr, hR, f1, f2, f3, k1, k2, k3, q1, q2, q3, c1, c2, c3, hx, hy, h1, Nat.reduceLeDiff, Nat.reduceLT, Nat.reduceAdd, Int.reduceAdd, Int.reduceSub, Int.reduceNeg, ↓reduceIte, Nat.reduceEqDiff, reduceCtorEq, Int.reduceBEq, Int.reduceBNe, Nat.reduceBEq]
              repeat' ((try rw [goQ_b]) <;> split <;> rename_i hh <;> (try simp only [Bool.not_eq_true, Bool.not_eq_false, Bool.not_eq_true', Bool.not_eq_false'] at hh) <;> (try simp (disch := first | omega | (simp only [go_sem, List.length_take, List.length_drop] <;> omega) | assumption | decide | fail) only [*, go_sem, known_ok, hr, hR, f1, f2, f3, k1, k2, k3, q1, q2, q3, c1, c2, c3, hx, hy, h1, Nat.reduceLeDiff, Nat.reduceLT, Nat.reduceAdd, Int.reduceAdd, Int.reduceSub, Int.reduceNeg, ↓reduceIte, Nat.reduceEqDiff, reduceCtorEq, Int.reduceBEq, Int.reduceBNe, Nat.reduceBEq]))
              all_goals first
                | (exfalso; simp only [decide_eq_true_eq, decide_eq_false_iff_not] at *; omega)
                | (have hz : decide (z.1 ≥ 0) = true := by (simp only [decide_eq_true_eq, decide_eq_false_iff_not] at *; omega)
                   rw [hz])
theorem rowValueOrders (t : Ty) (a b c : Va) (ht : ∀ m, smallT m t) (ha : okV a) (hb : okV b) (hc : okV c) : evL cfg n_ingotlaw14_ValueOrders 0 [.d t.d, .d a.d, .d b.d, .d c.d] [] = some (.d (.bool (true)), []) := lawValueOrders t a b c ht ha hb hc
end Go.Proofs.YtnabebdceaoiiaaGreatDoor
