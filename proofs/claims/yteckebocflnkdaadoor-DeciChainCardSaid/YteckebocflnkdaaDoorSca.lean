/- Decimals of any scale: what the functions compute. -/
import Derived.Test.YteckebocflnkdaaDoorNumC
import Derived.Test.YteckebocflnkdaaDoorL10
namespace Go.Proofs.YteckebocflnkdaaDoor
open Go Go.Ev
set_option linter.unusedVariables false
set_option linter.unusedSimpArgs false
set_option maxHeartbeats 4000000

theorem deci_power_loop (n : Nat) (hn : n ≤ 18) : ∀ (k i : Nat), i + k = n →
    go X_deci_power [.c (.loop b_deci_power_6), .b 0, .c (.seq r_deci_power_7 .ret)] ⟨[(3, .d (.int .i64 (((10 ^ i : Nat) : Int)))), (4, .d (.int .i64 ((n : Int)))), (5, .d (.int .i64 ((i : Int))))], []⟩ = some (.d (.int .i64 (((10 ^ n : Nat) : Int))), [])
  | 0, i, h => by
    obtain rfl : i = n := by omega
    have d_a : decide ((i : Int) < i) = false := by simp <;> omega
    rw [go_loop]
    simp (disch := first | omega | (simp only [List.length_append, List.length_cons, List.length_nil, List.length_map, List.length_take, List.length_drop] <;> omega) | assumption | decide | (simp only [List.length_append, List.length_cons, List.length_nil, List.length_map] at * <;> omega) | fail) only [go_sem, wrap_i64, wrap_u64, X_deci_power, d_a, Bool.not_true, Bool.not_false, Bool.true_and, Bool.false_and, Bool.and_true, Bool.and_false, Bool.true_or, Bool.false_or, Bool.or_true, Bool.or_false, true_and, and_true, and_self, Nat.reduceLeDiff, Nat.reduceLT, Nat.reduceAdd, Nat.zero_lt_succ, Nat.lt_add_one, Option.some.injEq, Loc.slot.injEq, Int.reduceAdd, Int.reduceSub, Int.reduceMul, Int.reduceNeg, beq_self_eq_true, List.length_cons, List.length_nil, decide_true, decide_false, Bool.and_self, bne_self_eq_false, ↓reduceIte, Nat.reduceEqDiff, reduceCtorEq, Bool.false_eq_true]
  | k + 1, i, h => by
    have d_a : decide ((i : Int) < n) = true := by simp <;> omega
    have ih := deci_power_loop n hn k (i + 1) (by omega)
    have h1 := ten_le (n := i + 1) (by omega)
    have e : ((10 ^ (i + 1) : Nat) : Int) = ((10 ^ i : Nat) : Int) * 10 := by rw [Nat.pow_succ]; omega
    rw [e, show (((i + 1 : Nat)) : Int) = (i : Int) + 1 by omega] at ih
    have h2 : ((10 ^ i : Nat) : Int) * 10 ≤ 1000000000000000000 := by omega
    have h3 := ten_pos i
    generalize ((10 ^ i : Nat) : Int) = p at *
    have hp : 0 ≤ p := by omega
    rw [go_loop]
    simp (disch := first | omega | (simp only [List.length_append, List.length_cons, List.length_nil, List.length_map, List.length_take, List.length_drop] <;> omega) | assumption | decide | (simp only [List.length_append, List.length_cons, List.length_nil, List.length_map] at * <;> omega) | fail) only [go_sem, wrap_i64, wrap_u64, X_deci_power, d_a, Bool.not_true, Bool.not_false, Bool.true_and, Bool.false_and, Bool.and_true, Bool.and_false, Bool.true_or, Bool.false_or, Bool.or_true, Bool.or_false, true_and, and_true, and_self, Nat.reduceLeDiff, Nat.reduceLT, Nat.reduceAdd, Nat.zero_lt_succ, Nat.lt_add_one, Option.some.injEq, Loc.slot.injEq, Int.reduceAdd, Int.reduceSub, Int.reduceMul, Int.reduceNeg, beq_self_eq_true, List.length_cons, List.length_nil, decide_true, decide_false, Bool.and_self, bne_self_eq_false, ↓reduceIte, Nat.reduceEqDiff, reduceCtorEq, Bool.false_eq_true]
    exact ih
theorem deci_power_ans {n : Nat} (h : n ≤ 18) : evL cfg n_deci_power 0 [.d (.int .i64 ((n : Int)))] [] = some (.d (.int .i64 (((10 ^ n : Nat) : Int))), []) := by
  rw [o_deci_power]
  have hl := deci_power_loop n h n 0 (by omega)
  rw [show ((0 : Nat) : Int) = 0 from rfl, show ((10 ^ 0 : Nat) : Int) = 1 from rfl] at hl
  simp (disch := first | omega | (simp only [List.length_append, List.length_cons, List.length_nil, List.length_map, List.length_take, List.length_drop] <;> omega) | assumption | decide | (simp only [List.length_append, List.length_cons, List.length_nil, List.length_map] at * <;> omega) | fail) only [go_sem, wrap_i64, wrap_u64, X_deci_power, c_deci_power, hl, Bool.not_true, Bool.not_false, Bool.true_and, Bool.false_and, Bool.and_true, Bool.and_false, Bool.true_or, Bool.false_or, Bool.or_true, Bool.or_false, true_and, and_true, and_self, Nat.reduceLeDiff, Nat.reduceLT, Nat.reduceAdd, Nat.zero_lt_succ, Nat.lt_add_one, Option.some.injEq, Loc.slot.injEq, Int.reduceAdd, Int.reduceSub, Int.reduceMul, Int.reduceNeg, beq_self_eq_true, List.length_cons, List.length_nil, decide_true, decide_false, Bool.and_self, bne_self_eq_false, ↓reduceIte, Nat.reduceEqDiff, reduceCtorEq, Bool.false_eq_true]
theorem clampS {s : Nat} (h : s ≤ 18) : min (max (s : Int) 0) 18 = s := by omega
theorem deci_Compare_ans {a b : Int} {sa sb : Nat} (ha : inI a) (hb : inI b) (h1 : sa ≤ 18) (h2 : sb ≤ 18) : evL cfg n_deci_Compare 0 [.d (.int .i64 (a)), .d (.int .i64 ((sa : Int))), .d (.int .i64 (b)), .d (.int .i64 ((sb : Int)))] [] = some (.d (.int .i64 (cmpM a sa b sb)), []) := by
  rw [o_deci_Compare, cmpM_eq a b h1 h2]
  have c1 := clampS h1
  have c2 := clampS h2
  have s1 := deci_size_ans ha
  have s2 := deci_size_ans hb
  have p1 := deci_power_ans h1
  have p2 := deci_power_ans h2
  have l1 := ten_le h1
  have l2 := ten_le h2
  have o1 := ten_pos sa
  have o2 := ten_pos sb
  have m1 := mul64_ans (x := a.natAbs) (y := 10 ^ sb) (by unfold inI at ha; omega) (by omega)
  have m2 := mul64_ans (x := b.natAbs) (y := 10 ^ sa) (by unfold inI at hb; omega) (by omega)
  have g1 : ∀ {x : Int} {p : Nat}, 0 ≤ x → x * (p : Int) = ((x.natAbs * p : Nat) : Int) := fun {x p} h => by rw [Int.natCast_mul]; congr 1; omega
  have g2 : ∀ {x : Int} {p : Nat}, x < 0 → x * (p : Int) = -((x.natAbs * p : Nat) : Int) := fun {x p} h => by rw [Int.natCast_mul, ← Int.neg_mul]; congr 1; omega
  unfold inI at ha hb
  have fin3 : ∀ m n : Nat, ∃ o : Int, (m < n ∧ o = -1 ∨ m = n ∧ o = 0 ∨ n < m ∧ o = 1) := fun m n => by
    rcases Nat.lt_trichotomy m n with h | h | h
    · exact ⟨-1, .inl ⟨h, rfl⟩⟩
    · exact ⟨0, .inr (.inl ⟨h, rfl⟩)⟩
    · exact ⟨1, .inr (.inr ⟨h, rfl⟩)⟩
  rcases Bool.eq_false_or_eq_true (decide (a < 0)) with d_a | d_a <;> have p_a := d_a <;> simp only [decide_eq_true_eq, decide_eq_false_iff_not, beq_iff_eq, beq_eq_false_iff_ne, ne_eq] at p_a <;> rcases Bool.eq_false_or_eq_true (decide (b < 0)) with d_b | d_b <;> have p_b := d_b <;> simp only [decide_eq_true_eq, decide_eq_false_iff_not, beq_iff_eq, beq_eq_false_iff_ne, ne_eq] at p_b 
  · have d_a2 : decide (a ≥ 0) = false := by simp <;> omega
    have d_b2 : decide (b ≥ 0) = false := by simp <;> omega
    rw [g2 p_a, g2 p_b]
    generalize hp : (10 ^ sb : Nat) = P at *
    generalize hq : (10 ^ sa : Nat) = Q at *
    generalize a.natAbs * P = m at *
    generalize b.natAbs * Q = n at *
    have hw1 := wrap_u64 (n := (P : Int)) (by omega) (by omega)
    have hw2 := wrap_u64 (n := (Q : Int)) (by omega) (by omega)
    rcases Bool.eq_false_or_eq_true (decide (((m / 18446744073709551616 : Nat) : Int) < ((n / 18446744073709551616 : Nat) : Int))) with d_q1 | d_q1 <;> have p_q1 := d_q1 <;> simp only [decide_eq_true_eq, decide_eq_false_iff_not, beq_iff_eq, beq_eq_false_iff_ne, ne_eq] at p_q1 
    · rw [show cmpZ (-(m : Int)) (-(n : Int)) = 1 by unfold cmpZ; rw [if_neg (by omega), if_pos (by omega)]]
      simp (disch := first | omega | (simp only [List.length_append, List.length_cons, List.length_nil, List.length_map, List.length_take, List.length_drop] <;> omega) | assumption | decide | (simp only [List.length_append, List.length_cons, List.length_nil, List.length_map] at * <;> omega) | fail) only [go_sem, wrap_i64, wrap_u64, X_deci_Compare, c_deci_Compare, c1, c2, s1, s2, p1, p2, m1, m2, d_a, d_b, d_a2, d_b2, hw1, hw2, d_q1, Bool.not_true, Bool.not_false, Bool.true_and, Bool.false_and, Bool.and_true, Bool.and_false, Bool.true_or, Bool.false_or, Bool.or_true, Bool.or_false, true_and, and_true, and_self, Nat.reduceLeDiff, Nat.reduceLT, Nat.reduceAdd, Nat.zero_lt_succ, Nat.lt_add_one, Option.some.injEq, Loc.slot.injEq, Int.reduceAdd, Int.reduceSub, Int.reduceMul, Int.reduceNeg, beq_self_eq_true, List.length_cons, List.length_nil, decide_true, decide_false, Bool.and_self, bne_self_eq_false, ↓reduceIte, Nat.reduceEqDiff, reduceCtorEq, Bool.false_eq_true]
    · rcases Bool.eq_false_or_eq_true ((((m / 18446744073709551616 : Nat) : Int) == ((n / 18446744073709551616 : Nat) : Int))) with d_q2 | d_q2 <;> have p_q2 := d_q2 <;> simp only [decide_eq_true_eq, decide_eq_false_iff_not, beq_iff_eq, beq_eq_false_iff_ne, ne_eq] at p_q2 
      · rcases Bool.eq_false_or_eq_true (decide (((m % 18446744073709551616 : Nat) : Int) < ((n % 18446744073709551616 : Nat) : Int))) with d_q3 | d_q3 <;> have p_q3 := d_q3 <;> simp only [decide_eq_true_eq, decide_eq_false_iff_not, beq_iff_eq, beq_eq_false_iff_ne, ne_eq] at p_q3 
        · rw [show cmpZ (-(m : Int)) (-(n : Int)) = 1 by unfold cmpZ; rw [if_neg (by omega), if_pos (by omega)]]
          simp (disch := first | omega | (simp only [List.length_append, List.length_cons, List.length_nil, List.length_map, List.length_take, List.length_drop] <;> omega) | assumption | decide | (simp only [List.length_append, List.length_cons, List.length_nil, List.length_map] at * <;> omega) | fail) only [go_sem, wrap_i64, wrap_u64, X_deci_Compare, c_deci_Compare, c1, c2, s1, s2, p1, p2, m1, m2, d_a, d_b, d_a2, d_b2, hw1, hw2, d_q1, d_q2, d_q3, Bool.not_true, Bool.not_false, Bool.true_and, Bool.false_and, Bool.and_true, Bool.and_false, Bool.true_or, Bool.false_or, Bool.or_true, Bool.or_false, true_and, and_true, and_self, Nat.reduceLeDiff, Nat.reduceLT, Nat.reduceAdd, Nat.zero_lt_succ, Nat.lt_add_one, Option.some.injEq, Loc.slot.injEq, Int.reduceAdd, Int.reduceSub, Int.reduceMul, Int.reduceNeg, beq_self_eq_true, List.length_cons, List.length_nil, decide_true, decide_false, Bool.and_self, bne_self_eq_false, ↓reduceIte, Nat.reduceEqDiff, reduceCtorEq, Bool.false_eq_true]
        · have d_q4 : decide (((m / 18446744073709551616 : Nat) : Int) > ((n / 18446744073709551616 : Nat) : Int)) = false := by simp <;> omega
          rcases Bool.eq_false_or_eq_true (decide (((m % 18446744073709551616 : Nat) : Int) > ((n % 18446744073709551616 : Nat) : Int))) with d_q5 | d_q5 <;> have p_q5 := d_q5 <;> simp only [decide_eq_true_eq, decide_eq_false_iff_not, beq_iff_eq, beq_eq_false_iff_ne, ne_eq] at p_q5 
          · rw [show cmpZ (-(m : Int)) (-(n : Int)) = -1 by unfold cmpZ; rw [if_pos (by omega)]]
            simp (disch := first | omega | (simp only [List.length_append, List.length_cons, List.length_nil, List.length_map, List.length_take, List.length_drop] <;> omega) | assumption | decide | (simp only [List.length_append, List.length_cons, List.length_nil, List.length_map] at * <;> omega) | fail) only [go_sem, wrap_i64, wrap_u64, X_deci_Compare, c_deci_Compare, c1, c2, s1, s2, p1, p2, m1, m2, d_a, d_b, d_a2, d_b2, hw1, hw2, d_q1, d_q2, d_q3, d_q4, d_q5, Bool.not_true, Bool.not_false, Bool.true_and, Bool.false_and, Bool.and_true, Bool.and_false, Bool.true_or, Bool.false_or, Bool.or_true, Bool.or_false, true_and, and_true, and_self, Nat.reduceLeDiff, Nat.reduceLT, Nat.reduceAdd, Nat.zero_lt_succ, Nat.lt_add_one, Option.some.injEq, Loc.slot.injEq, Int.reduceAdd, Int.reduceSub, Int.reduceMul, Int.reduceNeg, beq_self_eq_true, List.length_cons, List.length_nil, decide_true, decide_false, Bool.and_self, bne_self_eq_false, ↓reduceIte, Nat.reduceEqDiff, reduceCtorEq, Bool.false_eq_true]
          · rw [show cmpZ (-(m : Int)) (-(n : Int)) = 0 by unfold cmpZ; rw [if_neg (by omega), if_neg (by omega)]]
            simp (disch := first | omega | (simp only [List.length_append, List.length_cons, List.length_nil, List.length_map, List.length_take, List.length_drop] <;> omega) | assumption | decide | (simp only [List.length_append, List.length_cons, List.length_nil, List.length_map] at * <;> omega) | fail) only [go_sem, wrap_i64, wrap_u64, X_deci_Compare, c_deci_Compare, c1, c2, s1, s2, p1, p2, m1, m2, d_a, d_b, d_a2, d_b2, hw1, hw2, d_q1, d_q2, d_q3, d_q4, d_q5, Bool.not_true, Bool.not_false, Bool.true_and, Bool.false_and, Bool.and_true, Bool.and_false, Bool.true_or, Bool.false_or, Bool.or_true, Bool.or_false, true_and, and_true, and_self, Nat.reduceLeDiff, Nat.reduceLT, Nat.reduceAdd, Nat.zero_lt_succ, Nat.lt_add_one, Option.some.injEq, Loc.slot.injEq, Int.reduceAdd, Int.reduceSub, Int.reduceMul, Int.reduceNeg, beq_self_eq_true, List.length_cons, List.length_nil, decide_true, decide_false, Bool.and_self, bne_self_eq_false, ↓reduceIte, Nat.reduceEqDiff, reduceCtorEq, Bool.false_eq_true]
      · have d_q4 : decide (((m / 18446744073709551616 : Nat) : Int) > ((n / 18446744073709551616 : Nat) : Int)) = true := by simp <;> omega
        rw [show cmpZ (-(m : Int)) (-(n : Int)) = -1 by unfold cmpZ; rw [if_pos (by omega)]]
        simp (disch := first | omega | (simp only [List.length_append, List.length_cons, List.length_nil, List.length_map, List.length_take, List.length_drop] <;> omega) | assumption | decide | (simp only [List.length_append, List.length_cons, List.length_nil, List.length_map] at * <;> omega) | fail) only [go_sem, wrap_i64, wrap_u64, X_deci_Compare, c_deci_Compare, c1, c2, s1, s2, p1, p2, m1, m2, d_a, d_b, d_a2, d_b2, hw1, hw2, d_q1, d_q2, d_q4, Bool.not_true, Bool.not_false, Bool.true_and, Bool.false_and, Bool.and_true, Bool.and_false, Bool.true_or, Bool.false_or, Bool.or_true, Bool.or_false, true_and, and_true, and_self, Nat.reduceLeDiff, Nat.reduceLT, Nat.reduceAdd, Nat.zero_lt_succ, Nat.lt_add_one, Option.some.injEq, Loc.slot.injEq, Int.reduceAdd, Int.reduceSub, Int.reduceMul, Int.reduceNeg, beq_self_eq_true, List.length_cons, List.length_nil, decide_true, decide_false, Bool.and_self, bne_self_eq_false, ↓reduceIte, Nat.reduceEqDiff, reduceCtorEq, Bool.false_eq_true]
  · have d_b2 : decide (b ≥ 0) = true := by simp <;> omega
    rw [g2 p_a, g1 (by omega)]
    have hm : 1 * 1 ≤ a.natAbs * 10 ^ sb := Nat.mul_le_mul (by omega) (by omega)
    rw [show cmpZ (-((a.natAbs * 10 ^ sb : Nat) : Int)) ((b.natAbs * 10 ^ sa : Nat) : Int) = -1 by unfold cmpZ; rw [if_pos (by omega)]]
    simp (disch := first | omega | (simp only [List.length_append, List.length_cons, List.length_nil, List.length_map, List.length_take, List.length_drop] <;> omega) | assumption | decide | (simp only [List.length_append, List.length_cons, List.length_nil, List.length_map] at * <;> omega) | fail) only [go_sem, wrap_i64, wrap_u64, X_deci_Compare, c_deci_Compare, c1, c2, d_a, d_b, d_b2, Bool.not_true, Bool.not_false, Bool.true_and, Bool.false_and, Bool.and_true, Bool.and_false, Bool.true_or, Bool.false_or, Bool.or_true, Bool.or_false, true_and, and_true, and_self, Nat.reduceLeDiff, Nat.reduceLT, Nat.reduceAdd, Nat.zero_lt_succ, Nat.lt_add_one, Option.some.injEq, Loc.slot.injEq, Int.reduceAdd, Int.reduceSub, Int.reduceMul, Int.reduceNeg, beq_self_eq_true, List.length_cons, List.length_nil, decide_true, decide_false, Bool.and_self, bne_self_eq_false, ↓reduceIte, Nat.reduceEqDiff, reduceCtorEq, Bool.false_eq_true]
  · have d_a2 : decide (a ≥ 0) = true := by simp <;> omega
    rw [g1 (by omega), g2 p_b]
    have hm : 1 * 1 ≤ b.natAbs * 10 ^ sa := Nat.mul_le_mul (by omega) (by omega)
    rw [show cmpZ ((a.natAbs * 10 ^ sb : Nat) : Int) (-((b.natAbs * 10 ^ sa : Nat) : Int)) = 1 by unfold cmpZ; rw [if_neg (by omega), if_pos (by omega)]]
    simp (disch := first | omega | (simp only [List.length_append, List.length_cons, List.length_nil, List.length_map, List.length_take, List.length_drop] <;> omega) | assumption | decide | (simp only [List.length_append, List.length_cons, List.length_nil, List.length_map] at * <;> omega) | fail) only [go_sem, wrap_i64, wrap_u64, X_deci_Compare, c_deci_Compare, c1, c2, d_a, d_b, d_a2, Bool.not_true, Bool.not_false, Bool.true_and, Bool.false_and, Bool.and_true, Bool.and_false, Bool.true_or, Bool.false_or, Bool.or_true, Bool.or_false, true_and, and_true, and_self, Nat.reduceLeDiff, Nat.reduceLT, Nat.reduceAdd, Nat.zero_lt_succ, Nat.lt_add_one, Option.some.injEq, Loc.slot.injEq, Int.reduceAdd, Int.reduceSub, Int.reduceMul, Int.reduceNeg, beq_self_eq_true, List.length_cons, List.length_nil, decide_true, decide_false, Bool.and_self, bne_self_eq_false, ↓reduceIte, Nat.reduceEqDiff, reduceCtorEq, Bool.false_eq_true]
  · rw [g1 (by omega), g1 (by omega)]
    have d_a2 : decide (a ≥ 0) = true := by simp <;> omega
    generalize hp : (10 ^ sb : Nat) = P at *
    generalize hq : (10 ^ sa : Nat) = Q at *
    generalize a.natAbs * P = m at *
    generalize b.natAbs * Q = n at *
    have hw1 := wrap_u64 (n := (P : Int)) (by omega) (by omega)
    have hw2 := wrap_u64 (n := (Q : Int)) (by omega) (by omega)
    rcases Bool.eq_false_or_eq_true (decide (((m / 18446744073709551616 : Nat) : Int) < ((n / 18446744073709551616 : Nat) : Int))) with d_q1 | d_q1 <;> have p_q1 := d_q1 <;> simp only [decide_eq_true_eq, decide_eq_false_iff_not, beq_iff_eq, beq_eq_false_iff_ne, ne_eq] at p_q1 
    · rw [show cmpZ (m : Int) (n : Int) = -1 by unfold cmpZ; rw [if_pos (by omega)]]
      simp (disch := first | omega | (simp only [List.length_append, List.length_cons, List.length_nil, List.length_map, List.length_take, List.length_drop] <;> omega) | assumption | decide | (simp only [List.length_append, List.length_cons, List.length_nil, List.length_map] at * <;> omega) | fail) only [go_sem, wrap_i64, wrap_u64, X_deci_Compare, c_deci_Compare, c1, c2, s1, s2, p1, p2, m1, m2, d_a, d_b, d_a2, hw1, hw2, d_q1, Bool.not_true, Bool.not_false, Bool.true_and, Bool.false_and, Bool.and_true, Bool.and_false, Bool.true_or, Bool.false_or, Bool.or_true, Bool.or_false, true_and, and_true, and_self, Nat.reduceLeDiff, Nat.reduceLT, Nat.reduceAdd, Nat.zero_lt_succ, Nat.lt_add_one, Option.some.injEq, Loc.slot.injEq, Int.reduceAdd, Int.reduceSub, Int.reduceMul, Int.reduceNeg, beq_self_eq_true, List.length_cons, List.length_nil, decide_true, decide_false, Bool.and_self, bne_self_eq_false, ↓reduceIte, Nat.reduceEqDiff, reduceCtorEq, Bool.false_eq_true]
    · rcases Bool.eq_false_or_eq_true ((((m / 18446744073709551616 : Nat) : Int) == ((n / 18446744073709551616 : Nat) : Int))) with d_q2 | d_q2 <;> have p_q2 := d_q2 <;> simp only [decide_eq_true_eq, decide_eq_false_iff_not, beq_iff_eq, beq_eq_false_iff_ne, ne_eq] at p_q2 
      · rcases Bool.eq_false_or_eq_true (decide (((m % 18446744073709551616 : Nat) : Int) < ((n % 18446744073709551616 : Nat) : Int))) with d_q3 | d_q3 <;> have p_q3 := d_q3 <;> simp only [decide_eq_true_eq, decide_eq_false_iff_not, beq_iff_eq, beq_eq_false_iff_ne, ne_eq] at p_q3 
        · rw [show cmpZ (m : Int) (n : Int) = -1 by unfold cmpZ; rw [if_pos (by omega)]]
          simp (disch := first | omega | (simp only [List.length_append, List.length_cons, List.length_nil, List.length_map, List.length_take, List.length_drop] <;> omega) | assumption | decide | (simp only [List.length_append, List.length_cons, List.length_nil, List.length_map] at * <;> omega) | fail) only [go_sem, wrap_i64, wrap_u64, X_deci_Compare, c_deci_Compare, c1, c2, s1, s2, p1, p2, m1, m2, d_a, d_b, d_a2, hw1, hw2, d_q1, d_q2, d_q3, Bool.not_true, Bool.not_false, Bool.true_and, Bool.false_and, Bool.and_true, Bool.and_false, Bool.true_or, Bool.false_or, Bool.or_true, Bool.or_false, true_and, and_true, and_self, Nat.reduceLeDiff, Nat.reduceLT, Nat.reduceAdd, Nat.zero_lt_succ, Nat.lt_add_one, Option.some.injEq, Loc.slot.injEq, Int.reduceAdd, Int.reduceSub, Int.reduceMul, Int.reduceNeg, beq_self_eq_true, List.length_cons, List.length_nil, decide_true, decide_false, Bool.and_self, bne_self_eq_false, ↓reduceIte, Nat.reduceEqDiff, reduceCtorEq, Bool.false_eq_true]
        · have d_q4 : decide (((m / 18446744073709551616 : Nat) : Int) > ((n / 18446744073709551616 : Nat) : Int)) = false := by simp <;> omega
          rcases Bool.eq_false_or_eq_true (decide (((m % 18446744073709551616 : Nat) : Int) > ((n % 18446744073709551616 : Nat) : Int))) with d_q5 | d_q5 <;> have p_q5 := d_q5 <;> simp only [decide_eq_true_eq, decide_eq_false_iff_not, beq_iff_eq, beq_eq_false_iff_ne, ne_eq] at p_q5 
          · rw [show cmpZ (m : Int) (n : Int) = 1 by unfold cmpZ; rw [if_neg (by omega), if_pos (by omega)]]
            simp (disch := first | omega | (simp only [List.length_append, List.length_cons, List.length_nil, List.length_map, List.length_take, List.length_drop] <;> omega) | assumption | decide | (simp only [List.length_append, List.length_cons, List.length_nil, List.length_map] at * <;> omega) | fail) only [go_sem, wrap_i64, wrap_u64, X_deci_Compare, c_deci_Compare, c1, c2, s1, s2, p1, p2, m1, m2, d_a, d_b, d_a2, hw1, hw2, d_q1, d_q2, d_q3, d_q4, d_q5, Bool.not_true, Bool.not_false, Bool.true_and, Bool.false_and, Bool.and_true, Bool.and_false, Bool.true_or, Bool.false_or, Bool.or_true, Bool.or_false, true_and, and_true, and_self, Nat.reduceLeDiff, Nat.reduceLT, Nat.reduceAdd, Nat.zero_lt_succ, Nat.lt_add_one, Option.some.injEq, Loc.slot.injEq, Int.reduceAdd, Int.reduceSub, Int.reduceMul, Int.reduceNeg, beq_self_eq_true, List.length_cons, List.length_nil, decide_true, decide_false, Bool.and_self, bne_self_eq_false, ↓reduceIte, Nat.reduceEqDiff, reduceCtorEq, Bool.false_eq_true]
          · rw [show cmpZ (m : Int) (n : Int) = 0 by unfold cmpZ; rw [if_neg (by omega), if_neg (by omega)]]
            simp (disch := first | omega | (simp only [List.length_append, List.length_cons, List.length_nil, List.length_map, List.length_take, List.length_drop] <;> omega) | assumption | decide | (simp only [List.length_append, List.length_cons, List.length_nil, List.length_map] at * <;> omega) | fail) only [go_sem, wrap_i64, wrap_u64, X_deci_Compare, c_deci_Compare, c1, c2, s1, s2, p1, p2, m1, m2, d_a, d_b, d_a2, hw1, hw2, d_q1, d_q2, d_q3, d_q4, d_q5, Bool.not_true, Bool.not_false, Bool.true_and, Bool.false_and, Bool.and_true, Bool.and_false, Bool.true_or, Bool.false_or, Bool.or_true, Bool.or_false, true_and, and_true, and_self, Nat.reduceLeDiff, Nat.reduceLT, Nat.reduceAdd, Nat.zero_lt_succ, Nat.lt_add_one, Option.some.injEq, Loc.slot.injEq, Int.reduceAdd, Int.reduceSub, Int.reduceMul, Int.reduceNeg, beq_self_eq_true, List.length_cons, List.length_nil, decide_true, decide_false, Bool.and_self, bne_self_eq_false, ↓reduceIte, Nat.reduceEqDiff, reduceCtorEq, Bool.false_eq_true]
      · have d_q4 : decide (((m / 18446744073709551616 : Nat) : Int) > ((n / 18446744073709551616 : Nat) : Int)) = true := by simp <;> omega
        rw [show cmpZ (m : Int) (n : Int) = 1 by unfold cmpZ; rw [if_neg (by omega), if_pos (by omega)]]
        simp (disch := first | omega | (simp only [List.length_append, List.length_cons, List.length_nil, List.length_map, List.length_take, List.length_drop] <;> omega) | assumption | decide | (simp only [List.length_append, List.length_cons, List.length_nil, List.length_map] at * <;> omega) | fail) only [go_sem, wrap_i64, wrap_u64, X_deci_Compare, c_deci_Compare, c1, c2, s1, s2, p1, p2, m1, m2, d_a, d_b, d_a2, hw1, hw2, d_q1, d_q2, d_q4, Bool.not_true, Bool.not_false, Bool.true_and, Bool.false_and, Bool.and_true, Bool.and_false, Bool.true_or, Bool.false_or, Bool.or_true, Bool.or_false, true_and, and_true, and_self, Nat.reduceLeDiff, Nat.reduceLT, Nat.reduceAdd, Nat.zero_lt_succ, Nat.lt_add_one, Option.some.injEq, Loc.slot.injEq, Int.reduceAdd, Int.reduceSub, Int.reduceMul, Int.reduceNeg, beq_self_eq_true, List.length_cons, List.length_nil, decide_true, decide_false, Bool.and_self, bne_self_eq_false, ↓reduceIte, Nat.reduceEqDiff, reduceCtorEq, Bool.false_eq_true]
theorem deci_Rescale_ans {v : Int} {f t : Nat} (hv : inI v) (h1 : f ≤ 18) (h2 : t ≤ 18) : evL cfg n_deci_Rescale 0 [.d (.int .i64 (v)), .d (.int .i64 ((f : Int))), .d (.int .i64 ((t : Int)))] [] = some (.d (.tup [.int .i64 (rescM v f t).1, .bool (rescM v f t).2]), []) := by
  rw [o_deci_Rescale]
  have c1 := clampS h1
  have c2 := clampS h2
  unfold rescM
  by_cases c : f ≤ t
  · rw [if_pos c]
    have d_a : decide ((t : Int) ≥ f) = true := by simp <;> omega
    have e : (t : Int) - f = ((t - f : Nat) : Int) := by omega
    have p1 := deci_power_ans (n := t - f) (by omega)
    have l1 := ten_le (n := t - f) (by omega)
    have o1 := ten_pos (t - f)
    have o2 : (0 : Int) < ((10 ^ (t - f) : Nat) : Int) := by omega
    have o3 : ((10 ^ (t - f) : Nat) : Int) ≤ 1000000000000000000 := by omega
    have hm := nums_Mul_ans (a := v) (b := ((10 ^ (t - f) : Nat) : Int)) hv (by unfold inI; omega)
    simp (disch := first | omega | (simp only [List.length_append, List.length_cons, List.length_nil, List.length_map, List.length_take, List.length_drop] <;> omega) | assumption | decide | (simp only [List.length_append, List.length_cons, List.length_nil, List.length_map] at * <;> omega) | fail) only [go_sem, wrap_i64, wrap_u64, X_deci_Rescale, c_deci_Rescale, c1, c2, d_a, e, p1, hm, Bool.not_true, Bool.not_false, Bool.true_and, Bool.false_and, Bool.and_true, Bool.and_false, Bool.true_or, Bool.false_or, Bool.or_true, Bool.or_false, true_and, and_true, and_self, Nat.reduceLeDiff, Nat.reduceLT, Nat.reduceAdd, Nat.zero_lt_succ, Nat.lt_add_one, Option.some.injEq, Loc.slot.injEq, Int.reduceAdd, Int.reduceSub, Int.reduceMul, Int.reduceNeg, beq_self_eq_true, List.length_cons, List.length_nil, decide_true, decide_false, Bool.and_self, bne_self_eq_false, ↓reduceIte, Nat.reduceEqDiff, reduceCtorEq, Bool.false_eq_true]
  · rw [if_neg c]
    have d_a : decide ((t : Int) ≥ f) = false := by simp <;> omega
    have e : (f : Int) - t = ((f - t : Nat) : Int) := by omega
    have p1 := deci_power_ans (n := f - t) (by omega)
    have l1 := ten_le (n := f - t) (by omega)
    have o1 := ten_pos (f - t)
    have o2 : (0 : Int) < ((10 ^ (f - t) : Nat) : Int) := by omega
    have hd := div_in (v := v) (p := ((10 ^ (f - t) : Nat) : Int)) hv (by omega)
    generalize ((10 ^ (f - t) : Nat) : Int) = P at *
    have hP : P ≠ 0 := by omega
    have hz := tmod_zero (v := v) hP
    by_cases d : v % P = 0
    · rw [if_pos d]
      have d2 : (v.tmod P != 0) = false := by simp [hz.2 d]
      have d3 := tdiv_of d
      have d4 := wrap_i64 hd.1 hd.2
      simp (disch := first | omega | (simp only [List.length_append, List.length_cons, List.length_nil, List.length_map, List.length_take, List.length_drop] <;> omega) | assumption | decide | (simp only [List.length_append, List.length_cons, List.length_nil, List.length_map] at * <;> omega) | fail) only [go_sem, wrap_i64, wrap_u64, X_deci_Rescale, c_deci_Rescale, c1, c2, d_a, e, p1, ib_rem, ib_quo, d2, d3, d4, Bool.not_true, Bool.not_false, Bool.true_and, Bool.false_and, Bool.and_true, Bool.and_false, Bool.true_or, Bool.false_or, Bool.or_true, Bool.or_false, true_and, and_true, and_self, Nat.reduceLeDiff, Nat.reduceLT, Nat.reduceAdd, Nat.zero_lt_succ, Nat.lt_add_one, Option.some.injEq, Loc.slot.injEq, Int.reduceAdd, Int.reduceSub, Int.reduceMul, Int.reduceNeg, beq_self_eq_true, List.length_cons, List.length_nil, decide_true, decide_false, Bool.and_self, bne_self_eq_false, ↓reduceIte, Nat.reduceEqDiff, reduceCtorEq, Bool.false_eq_true]
    · rw [if_neg d]
      have d2 : (v.tmod P != 0) = true := by simp; exact fun h => d (hz.1 h)
      simp (disch := first | omega | (simp only [List.length_append, List.length_cons, List.length_nil, List.length_map, List.length_take, List.length_drop] <;> omega) | assumption | decide | (simp only [List.length_append, List.length_cons, List.length_nil, List.length_map] at * <;> omega) | fail) only [go_sem, wrap_i64, wrap_u64, X_deci_Rescale, c_deci_Rescale, c1, c2, d_a, e, p1, ib_rem, ib_quo, d2, Bool.not_true, Bool.not_false, Bool.true_and, Bool.false_and, Bool.and_true, Bool.and_false, Bool.true_or, Bool.false_or, Bool.or_true, Bool.or_false, true_and, and_true, and_self, Nat.reduceLeDiff, Nat.reduceLT, Nat.reduceAdd, Nat.zero_lt_succ, Nat.lt_add_one, Option.some.injEq, Loc.slot.injEq, Int.reduceAdd, Int.reduceSub, Int.reduceMul, Int.reduceNeg, beq_self_eq_true, List.length_cons, List.length_nil, decide_true, decide_false, Bool.and_self, bne_self_eq_false, ↓reduceIte, Nat.reduceEqDiff, reduceCtorEq, Bool.false_eq_true]
theorem ref11_Rescale_loop2 : ∀ (k : Nat) (v : Int) (f t : Nat) (tl : List (Nat × V)), t + k = f → f ≤ 18 → inI v →
    go X_ingotref11_Rescale [.c (.loop b_ingotref11_Rescale_13), .b 2, .c (.seq r_ingotref11_Rescale_14 .ret)] ⟨(0, .d (.int .i64 (v))) :: (1, .d (.int .i64 ((f : Int)))) :: (2, .d (.int .i64 ((t : Int)))) :: tl, []⟩ =
      some (.d (if v % ((10 ^ k : Nat) : Int) = 0 then .tup [.int .i64 (v / ((10 ^ k : Nat) : Int)), .bool true] else .tup [.int .i64 0, .bool false]), [])
  | 0, v, f, t, tl, h, h1, hv => by
    have d_a : decide ((f : Int) > t) = false := by simp <;> omega
    rw [go_loop]
    simp (disch := first | omega | (simp only [List.length_append, List.length_cons, List.length_nil, List.length_map, List.length_take, List.length_drop] <;> omega) | assumption | decide | (simp only [List.length_append, List.length_cons, List.length_nil, List.length_map] at * <;> omega) | fail) only [go_sem, wrap_i64, wrap_u64, X_ingotref11_Rescale, d_a, lk_st, Bool.not_true, Bool.not_false, Bool.true_and, Bool.false_and, Bool.and_true, Bool.and_false, Bool.true_or, Bool.false_or, Bool.or_true, Bool.or_false, true_and, and_true, and_self, Nat.reduceLeDiff, Nat.reduceLT, Nat.reduceAdd, Nat.zero_lt_succ, Nat.lt_add_one, Option.some.injEq, Loc.slot.injEq, Int.reduceAdd, Int.reduceSub, Int.reduceMul, Int.reduceNeg, beq_self_eq_true, List.length_cons, List.length_nil, decide_true, decide_false, Bool.and_self, bne_self_eq_false, ↓reduceIte, Nat.reduceEqDiff, reduceCtorEq, Bool.false_eq_true]
    simp
  | k + 1, v, f, t, tl, h, h1, hv => by
    have d_a : decide ((f : Int) > t) = true := by simp <;> omega
    have hz := tmod_zero (v := v) (p := 10) (by decide)
    rw [go_loop]
    by_cases d : v % 10 = 0
    · have d2 : (v.tmod 10 != 0) = false := by simp [hz.2 d]
      have d3 := tdiv_of d
      have hd := div_in (v := v) (p := 10) hv (by decide)
      have d4 := wrap_i64 hd.1 hd.2
      have ih := ref11_Rescale_loop2 k (v / 10) (f - 1) t [] (by omega) (by omega) hd
      rw [show ((f - 1 : Nat) : Int) = (f : Int) - 1 by omega, div_ten] at ih
      have e : v % ((10 ^ (k + 1) : Nat) : Int) = 0 ↔ v / 10 % ((10 ^ k : Nat) : Int) = 0 := by rw [mod_ten]; simp [d]
      simp only [e]
      simp (disch := first | omega | (simp only [List.length_append, List.length_cons, List.length_nil, List.length_map, List.length_take, List.length_drop] <;> omega) | assumption | decide | (simp only [List.length_append, List.length_cons, List.length_nil, List.length_map] at * <;> omega) | fail) only [go_sem, wrap_i64, wrap_u64, X_ingotref11_Rescale, lk_st, d_a, ib_rem, ib_quo, d2, d3, d4, Bool.not_true, Bool.not_false, Bool.true_and, Bool.false_and, Bool.and_true, Bool.and_false, Bool.true_or, Bool.false_or, Bool.or_true, Bool.or_false, true_and, and_true, and_self, Nat.reduceLeDiff, Nat.reduceLT, Nat.reduceAdd, Nat.zero_lt_succ, Nat.lt_add_one, Option.some.injEq, Loc.slot.injEq, Int.reduceAdd, Int.reduceSub, Int.reduceMul, Int.reduceNeg, beq_self_eq_true, List.length_cons, List.length_nil, decide_true, decide_false, Bool.and_self, bne_self_eq_false, ↓reduceIte, Nat.reduceEqDiff, reduceCtorEq, Bool.false_eq_true]
      exact ih
    · have d2 : (v.tmod 10 != 0) = true := by simp; exact fun h => d (hz.1 h)
      rw [if_neg (fun c => d ((mod_ten v k).1 c).1)]
      simp (disch := first | omega | (simp only [List.length_append, List.length_cons, List.length_nil, List.length_map, List.length_take, List.length_drop] <;> omega) | assumption | decide | (simp only [List.length_append, List.length_cons, List.length_nil, List.length_map] at * <;> omega) | fail) only [go_sem, wrap_i64, wrap_u64, X_ingotref11_Rescale, lk_st, d_a, ib_rem, ib_quo, d2, Bool.not_true, Bool.not_false, Bool.true_and, Bool.false_and, Bool.and_true, Bool.and_false, Bool.true_or, Bool.false_or, Bool.or_true, Bool.or_false, true_and, and_true, and_self, Nat.reduceLeDiff, Nat.reduceLT, Nat.reduceAdd, Nat.zero_lt_succ, Nat.lt_add_one, Option.some.injEq, Loc.slot.injEq, Int.reduceAdd, Int.reduceSub, Int.reduceMul, Int.reduceNeg, beq_self_eq_true, List.length_cons, List.length_nil, decide_true, decide_false, Bool.and_self, bne_self_eq_false, ↓reduceIte, Nat.reduceEqDiff, reduceCtorEq, Bool.false_eq_true]
theorem ref11_Rescale_loop1 : ∀ (k : Nat) (v : Int) (f t : Nat), f + k = t → t ≤ 18 → inI v →
    go X_ingotref11_Rescale [.c (.loop b_ingotref11_Rescale_7), .b 0, .c (.seq (.block 2 (.loop b_ingotref11_Rescale_13)) (.seq r_ingotref11_Rescale_14 .ret))] ⟨[(0, .d (.int .i64 (v))), (1, .d (.int .i64 ((f : Int)))), (2, .d (.int .i64 ((t : Int))))], []⟩ =
      some (.d (.tup [.int .i64 (mulM v ((10 ^ k : Nat) : Int)).1, .bool (mulM v ((10 ^ k : Nat) : Int)).2]), [])
  | 0, v, f, t, h, h1, hv => by
    have d_a : decide ((f : Int) < t) = false := by simp <;> omega
    have hl := ref11_Rescale_loop2 0 v f t [(12, .d (.bool false))] (by omega) (by omega) hv
    have e : mulM v ((10 ^ 0 : Nat) : Int) = (v, true) := by unfold mulM; simp [hv]
    rw [go_loop, e]
    simp (disch := first | omega | (simp only [List.length_append, List.length_cons, List.length_nil, List.length_map, List.length_take, List.length_drop] <;> omega) | assumption | decide | (simp only [List.length_append, List.length_cons, List.length_nil, List.length_map] at * <;> omega) | fail) only [go_sem, wrap_i64, wrap_u64, X_ingotref11_Rescale, d_a, Bool.not_true, Bool.not_false, Bool.true_and, Bool.false_and, Bool.and_true, Bool.and_false, Bool.true_or, Bool.false_or, Bool.or_true, Bool.or_false, true_and, and_true, and_self, Nat.reduceLeDiff, Nat.reduceLT, Nat.reduceAdd, Nat.zero_lt_succ, Nat.lt_add_one, Option.some.injEq, Loc.slot.injEq, Int.reduceAdd, Int.reduceSub, Int.reduceMul, Int.reduceNeg, beq_self_eq_true, List.length_cons, List.length_nil, decide_true, decide_false, Bool.and_self, bne_self_eq_false, ↓reduceIte, Nat.reduceEqDiff, reduceCtorEq, Bool.false_eq_true]
    rw [hl]
    simp
  | k + 1, v, f, t, h, h1, hv => by
    have d_a : decide ((f : Int) < t) = true := by simp <;> omega
    have hm := ref1_Mul_ans (a := v) (b := 10) hv (by unfold inI; omega)
    rw [go_loop]
    by_cases c : inI (v * 10)
    · have e1 : mulM v 10 = (v * 10, true) := if_pos c
      rw [e1] at hm
      have ih := ref11_Rescale_loop1 k (v * 10) (f + 1) t (by omega) h1 c
      have e2 : mulM (v * 10) ((10 ^ k : Nat) : Int) = mulM v ((10 ^ (k + 1) : Nat) : Int) := by unfold mulM; rw [mul_ten]
      rw [e2, show (((f + 1 : Nat)) : Int) = (f : Int) + 1 by omega] at ih
      simp (disch := first | omega | (simp only [List.length_append, List.length_cons, List.length_nil, List.length_map, List.length_take, List.length_drop] <;> omega) | assumption | decide | (simp only [List.length_append, List.length_cons, List.length_nil, List.length_map] at * <;> omega) | fail) only [go_sem, wrap_i64, wrap_u64, X_ingotref11_Rescale, d_a, hm, Bool.not_true, Bool.not_false, Bool.true_and, Bool.false_and, Bool.and_true, Bool.and_false, Bool.true_or, Bool.false_or, Bool.or_true, Bool.or_false, true_and, and_true, and_self, Nat.reduceLeDiff, Nat.reduceLT, Nat.reduceAdd, Nat.zero_lt_succ, Nat.lt_add_one, Option.some.injEq, Loc.slot.injEq, Int.reduceAdd, Int.reduceSub, Int.reduceMul, Int.reduceNeg, beq_self_eq_true, List.length_cons, List.length_nil, decide_true, decide_false, Bool.and_self, bne_self_eq_false, ↓reduceIte, Nat.reduceEqDiff, reduceCtorEq, Bool.false_eq_true]
      exact ih
    · have e1 : mulM v 10 = (0, false) := if_neg c
      rw [e1] at hm
      have e2 : mulM v ((10 ^ (k + 1) : Nat) : Int) = (0, false) := if_neg fun h => c (inI_mul h)
      rw [e2]
      simp (disch := first | omega | (simp only [List.length_append, List.length_cons, List.length_nil, List.length_map, List.length_take, List.length_drop] <;> omega) | assumption | decide | (simp only [List.length_append, List.length_cons, List.length_nil, List.length_map] at * <;> omega) | fail) only [go_sem, wrap_i64, wrap_u64, X_ingotref11_Rescale, d_a, hm, Bool.not_true, Bool.not_false, Bool.true_and, Bool.false_and, Bool.and_true, Bool.and_false, Bool.true_or, Bool.false_or, Bool.or_true, Bool.or_false, true_and, and_true, and_self, Nat.reduceLeDiff, Nat.reduceLT, Nat.reduceAdd, Nat.zero_lt_succ, Nat.lt_add_one, Option.some.injEq, Loc.slot.injEq, Int.reduceAdd, Int.reduceSub, Int.reduceMul, Int.reduceNeg, beq_self_eq_true, List.length_cons, List.length_nil, decide_true, decide_false, Bool.and_self, bne_self_eq_false, ↓reduceIte, Nat.reduceEqDiff, reduceCtorEq, Bool.false_eq_true]
theorem ref11_Rescale_ans {v : Int} {f t : Nat} (hv : inI v) (h1 : f ≤ 18) (h2 : t ≤ 18) : evL cfg n_ingotref11_Rescale 0 [.d (.int .i64 (v)), .d (.int .i64 ((f : Int))), .d (.int .i64 ((t : Int)))] [] = some (.d (.tup [.int .i64 (rescM v f t).1, .bool (rescM v f t).2]), []) := by
  rw [o_ingotref11_Rescale]
  unfold rescM
  by_cases c : f ≤ t
  · rw [if_pos c]
    have hl := ref11_Rescale_loop1 (t - f) v f t (by omega) h2 hv
    simp (disch := first | omega | (simp only [List.length_append, List.length_cons, List.length_nil, List.length_map, List.length_take, List.length_drop] <;> omega) | assumption | decide | (simp only [List.length_append, List.length_cons, List.length_nil, List.length_map] at * <;> omega) | fail) only [go_sem, wrap_i64, wrap_u64, X_ingotref11_Rescale, c_ingotref11_Rescale, hl, Bool.not_true, Bool.not_false, Bool.true_and, Bool.false_and, Bool.and_true, Bool.and_false, Bool.true_or, Bool.false_or, Bool.or_true, Bool.or_false, true_and, and_true, and_self, Nat.reduceLeDiff, Nat.reduceLT, Nat.reduceAdd, Nat.zero_lt_succ, Nat.lt_add_one, Option.some.injEq, Loc.slot.injEq, Int.reduceAdd, Int.reduceSub, Int.reduceMul, Int.reduceNeg, beq_self_eq_true, List.length_cons, List.length_nil, decide_true, decide_false, Bool.and_self, bne_self_eq_false, ↓reduceIte, Nat.reduceEqDiff, reduceCtorEq, Bool.false_eq_true]
  · rw [if_neg c]
    have hl := ref11_Rescale_loop2 (f - t) v f t [(12, .d (.bool false))] (by omega) h1 hv
    have d_a : decide ((f : Int) < t) = false := by simp <;> omega
    simp (disch := first | omega | (simp only [List.length_append, List.length_cons, List.length_nil, List.length_map, List.length_take, List.length_drop] <;> omega) | assumption | decide | (simp only [List.length_append, List.length_cons, List.length_nil, List.length_map] at * <;> omega) | fail) only [go_sem, wrap_i64, wrap_u64, X_ingotref11_Rescale, c_ingotref11_Rescale, Bool.not_true, Bool.not_false, Bool.true_and, Bool.false_and, Bool.and_true, Bool.and_false, Bool.true_or, Bool.false_or, Bool.or_true, Bool.or_false, true_and, and_true, and_self, Nat.reduceLeDiff, Nat.reduceLT, Nat.reduceAdd, Nat.zero_lt_succ, Nat.lt_add_one, Option.some.injEq, Loc.slot.injEq, Int.reduceAdd, Int.reduceSub, Int.reduceMul, Int.reduceNeg, beq_self_eq_true, List.length_cons, List.length_nil, decide_true, decide_false, Bool.and_self, bne_self_eq_false, ↓reduceIte, Nat.reduceEqDiff, reduceCtorEq, Bool.false_eq_true]
    rw [go_loop]
    simp (disch := first | omega | (simp only [List.length_append, List.length_cons, List.length_nil, List.length_map, List.length_take, List.length_drop] <;> omega) | assumption | decide | (simp only [List.length_append, List.length_cons, List.length_nil, List.length_map] at * <;> omega) | fail) only [go_sem, wrap_i64, wrap_u64, X_ingotref11_Rescale, d_a, Bool.not_true, Bool.not_false, Bool.true_and, Bool.false_and, Bool.and_true, Bool.and_false, Bool.true_or, Bool.false_or, Bool.or_true, Bool.or_false, true_and, and_true, and_self, Nat.reduceLeDiff, Nat.reduceLT, Nat.reduceAdd, Nat.zero_lt_succ, Nat.lt_add_one, Option.some.injEq, Loc.slot.injEq, Int.reduceAdd, Int.reduceSub, Int.reduceMul, Int.reduceNeg, beq_self_eq_true, List.length_cons, List.length_nil, decide_true, decide_false, Bool.and_self, bne_self_eq_false, ↓reduceIte, Nat.reduceEqDiff, reduceCtorEq, Bool.false_eq_true]
    rw [hl]
    split <;> rfl
end Go.Proofs.YteckebocflnkdaaDoor
