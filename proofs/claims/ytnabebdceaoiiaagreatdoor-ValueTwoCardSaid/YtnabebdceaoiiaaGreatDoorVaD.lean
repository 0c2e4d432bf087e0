/- Values: Check, in the program and in the document. -/
import Derived.Test.YtnabebdceaoiiaaGreatDoorVaC
namespace Go.Proofs.YtnabebdceaoiiaaGreatDoor
open Go Go.Ev
set_option linter.unusedVariables false
set_option linter.unusedSimpArgs false
set_option maxHeartbeats 2000000

def exVT (a b : Nat) : Option (Bool × Va × Ty) → List (Cel × V)
  | none => []
  | some (c, k, x) => boxW a c k ++ boxT b x
theorem exVT_none (a b : Nat) : exVT a b none = [] := rfl
theorem exVT_some (a b : Nat) (c : Bool) (k : Va) (x : Ty) : exVT a b (some (c, k, x)) = boxW a c k ++ boxT b x := rfl
theorem value_Check_loop (t : Ty) (v : Va) (cn : Bool) (hcn : v.null = cn) (hv : v.kids.length < 2 ^ 63) (IH : ∀ k ∈ v.kids, ∀ t, evL cfg n_value_Check 0 [.d t.d, .d k.d] [] = some (.d (.int .i64 (checkV t k)), [])) : ∀ (r : List Va) (j : Nat) (o : Option (Bool × Va × Ty)), v.kids.drop j = r → j ≤ v.kids.length →
    go X_value_Check [.c (.loop b_value_Check_20), .b 1, .c (.seq r_value_Check_21 .ret)] ⟨[(2, .ref 0 2 0), (3, .ref 0 3 0), (41, .d (.sl (v.kids.map Va.d))), (42, .d (.int .i64 ((v.kids.length : Int)))), (43, .d (.int .i64 ((j : Int))))], boxT 2 t ++ boxW 3 cn v ++ exVT 7 8 o⟩ = some (.d (.int .i64 (checkVs t v.i j r)), [])
  | [], j, o, hr, hj => by
    have h1 := dropEnd hr
    have : j = v.kids.length := by omega
    subst this
    have d_a : decide ((v.kids.length : Int) < v.kids.length) = false := by simp <;> omega
    rw [go_loop, checkVs_nil]
    rcases o with _ | ⟨c0, k0, x0⟩ <;> simp (disch := first | omega | (simp only [go_sem, List.length_take, List.length_drop] <;> omega) | assumption | decide | fail) only [go_sem, X_value_Check, d_a, boxT, boxV, boxW, exVT_none, exVT_some, Nat.reduceLeDiff, Nat.reduceLT, Nat.reduceAdd, Int.reduceAdd, Int.reduceSub, Int.reduceNeg, ↓reduceIte, Nat.reduceEqDiff, reduceCtorEq, Int.reduceBEq, Int.reduceBNe, Nat.reduceBEq]
  | k :: r, j, o, hr, hj => by
    obtain ⟨hlt, hc, hr'⟩ := dropAt hr
    have hk := IH k (List.mem_of_getElem? hc)
    have hkid := value_kid_ans t v j (by omega)
    have d_a : decide ((j : Int) < v.kids.length) = true := by simp <;> omega
    have e1 : (j : Int) + 1 = ((j + 1 : Nat) : Int) := by omega
    have e2 : (((j % 2 : Nat) : Int) == 0) = (j % 2 == 0) := by
      rcases Nat.mod_two_eq_zero_or_one j with h | h <;> rw [h] <;> rfl
    rw [go_loop, checkVs_cons]
    cases hkt : kidT t v.i j with
    | none =>
      rw [hkt] at hkid
      rcases o with _ | ⟨c0, k0, x0⟩ <;> simp (disch := first | omega | (simp only [go_sem, List.length_take, List.length_drop] <;> omega) | assumption | decide | fail) only [go_sem, X_value_Check, d_a, hc, hkid, kidD_none, boxT, boxV, boxW, exVT_none, exVT_some, Nat.reduceLeDiff, Nat.reduceLT, Nat.reduceAdd, Int.reduceAdd, Int.reduceSub, Int.reduceNeg, ↓reduceIte, Nat.reduceEqDiff, reduceCtorEq, Int.reduceBEq, Int.reduceBNe, Nat.reduceBEq]
    | some x =>
      rw [hkt] at hkid
      have ih := fun c => value_Check_loop t v cn hcn hv IH r (j + 1) (some (c, k, x)) hr' (by omega)
      simp only [boxT, boxV, boxW, exVT_some, List.cons_append, List.nil_append] at ih
      rcases o with _ | ⟨c0, k0, x0⟩
      · simp (disch := first | omega | (simp only [go_sem, List.length_take, List.length_drop] <;> omega) | assumption | decide | fail) only [go_sem, X_value_Check, d_a, hc, hkid, hk, kidD_some, boxT, boxV, boxW, exVT_none, exVT_some, e1, e2, ih, ib_rem, tmod_two, bne, Nat.reduceLeDiff, Nat.reduceLT, Nat.reduceAdd, Int.reduceAdd, Int.reduceSub, Int.reduceNeg, ↓reduceIte, Nat.reduceEqDiff, reduceCtorEq, Int.reduceBEq, Int.reduceBNe, Nat.reduceBEq]
        repeat' ((try rw [goQ_b]) <;> split <;> rename_i hh <;> (try simp only [Bool.not_eq_true, Bool.not_eq_false, Bool.not_eq_true', Bool.not_eq_false'] at hh) <;> (try simp (disch := first | omega | (simp only [go_sem, List.length_take, List.length_drop] <;> omega) | assumption | decide | fail) only [*, go_sem, X_value_Check, d_a, hc, hkid, hk, kidD_some, boxT, boxV, boxW, exVT_none, exVT_some, e1, e2, ih, ib_rem, tmod_two, bne, Nat.reduceLeDiff, Nat.reduceLT, Nat.reduceAdd, Int.reduceAdd, Int.reduceSub, Int.reduceNeg, ↓reduceIte, Nat.reduceEqDiff, reduceCtorEq, Int.reduceBEq, Int.reduceBNe, Nat.reduceBEq]))
      · simp (disch := first | omega | (simp only [go_sem, List.length_take, List.length_drop] <;> omega) | assumption | decide | fail) only [go_sem, X_value_Check, d_a, hc, hkid, hk, kidD_some, boxT, boxV, boxW, exVT_none, exVT_some, e1, e2, ih, ib_rem, tmod_two, bne, Nat.reduceLeDiff, Nat.reduceLT, Nat.reduceAdd, Int.reduceAdd, Int.reduceSub, Int.reduceNeg, ↓reduceIte, Nat.reduceEqDiff, reduceCtorEq, Int.reduceBEq, Int.reduceBNe, Nat.reduceBEq]
        repeat' ((try rw [goQ_b]) <;> split <;> rename_i hh <;> (try simp only [Bool.not_eq_true, Bool.not_eq_false, Bool.not_eq_true', Bool.not_eq_false'] at hh) <;> (try simp (disch := first | omega | (simp only [go_sem, List.length_take, List.length_drop] <;> omega) | assumption | decide | fail) only [*, go_sem, X_value_Check, d_a, hc, hkid, hk, kidD_some, boxT, boxV, boxW, exVT_none, exVT_some, e1, e2, ih, ib_rem, tmod_two, bne, Nat.reduceLeDiff, Nat.reduceLT, Nat.reduceAdd, Int.reduceAdd, Int.reduceSub, Int.reduceNeg, ↓reduceIte, Nat.reduceEqDiff, reduceCtorEq, Int.reduceBEq, Int.reduceBNe, Nat.reduceBEq]))
theorem value_Check_ans : ∀ (n : Nat) (v : Va) (t : Ty), v.size ≤ n → okV v → evL cfg n_value_Check 0 [.d t.d, .d v.d] [] = some (.d (.int .i64 (checkV t v)), [])
  | 0, v, t, h, _ => by have := v.size_pos; omega
  | n + 1, v, t, h, hv => by
    obtain ⟨h1, h2, h3, h4⟩ := (okV_eq v).1 hv
    have IH : ∀ k ∈ v.kids, ∀ t, evL cfg n_value_Check 0 [.d t.d, .d k.d] [] = some (.d (.int .i64 (checkV t k)), []) := fun k hk t => value_Check_ans n k t (by have := Va.size_kid hk; omega) (okVs_mem h4 hk)
    have hl := fun cn hcn => value_Check_loop t v cn hcn h3 IH v.kids 0 none rfl (Nat.zero_le _)
    simp only [boxT, boxV, boxW, exVT_none, List.cons_append, List.nil_append, List.append_nil, nc0] at hl
    rw [o_value_Check, checkV_eq]
    unfold nodeM
    simp (disch := first | omega | (simp only [go_sem, List.length_take, List.length_drop] <;> omega) | assumption | decide | fail) only [go_sem, X_value_Check, c_value_Check, value_named_ans, value_number_ans t v h1, value_long_ans t v h2, value_count_ans t v (by omega), hl, bne, Nat.reduceLeDiff, Nat.reduceLT, Nat.reduceAdd, Int.reduceAdd, Int.reduceSub, Int.reduceNeg, ↓reduceIte, Nat.reduceEqDiff, reduceCtorEq, Int.reduceBEq, Int.reduceBNe, Nat.reduceBEq]
    repeat' ((try rw [goQ_b]) <;> split <;> rename_i hh <;> (try simp only [Bool.not_eq_true, Bool.not_eq_false, Bool.not_eq_true', Bool.not_eq_false'] at hh) <;> (try simp (disch := first | omega | (simp only [go_sem, List.length_take, List.length_drop] <;> omega) | assumption | decide | fail) only [*, go_sem, value_named_ans, value_number_ans t v h1, value_long_ans t v h2, value_count_ans t v (by omega), hl, bne, Nat.reduceLeDiff, Nat.reduceLT, Nat.reduceAdd, Int.reduceAdd, Int.reduceSub, Int.reduceNeg, ↓reduceIte, Nat.reduceEqDiff, reduceCtorEq, Int.reduceBEq, Int.reduceBNe, Nat.reduceBEq]))
end Go.Proofs.YtnabebdceaoiiaaGreatDoor
