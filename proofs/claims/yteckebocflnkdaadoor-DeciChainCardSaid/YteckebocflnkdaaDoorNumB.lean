/- What the functions on numbers compute. -/
import Derived.Test.YteckebocflnkdaaDoorNums
namespace Go.Proofs.YteckebocflnkdaaDoor
open Go Go.Ev
set_option linter.unusedVariables false
set_option linter.unusedSimpArgs false
set_option maxHeartbeats 2000000

theorem nums_Var_ans {b : List UInt8} {k : Nat} (hb : b.length ≤ 1000000000) (hk : k ≤ b.length) : evL cfg n_nums_Var 0 [.d (.sl ((b).map byteD)), .d (.int .i64 ((k : Int)))] [] = some (varD (varM 0 0 (b.drop k)), []) := by
  rw [o_nums_Var]
  have d_a : decide ((k : Int) < 0) = false := by simp <;> omega
  have d_b : decide ((k : Int) > b.length) = false := by simp <;> omega
  have hl := nums_Var_loop (b.drop k) (b.drop k) 0 0 rfl (by omega) (by simp) (by simp; omega) (by omega)
  rw [List.length_drop, List.map_drop, show ((0 : Nat) : Int) = 0 from rfl] at hl
  have e : List.take b.length (b.map byteD) = b.map byteD := by simp [List.take_of_length_le]
  simp (disch := first | omega | (simp only [List.length_append, List.length_cons, List.length_nil, List.length_map, List.length_take, List.length_drop] <;> omega) | assumption | decide | (simp only [List.length_append, List.length_cons, List.length_nil, List.length_map] at * <;> omega) | fail) only [go_sem, wrap_i64, wrap_u64, X_nums_Var, c_nums_Var, d_a, d_b, Int.toNat_natCast, e, List.length_map, List.length_drop, Bool.not_true, Bool.not_false, Bool.true_and, Bool.false_and, Bool.and_true, Bool.and_false, Bool.true_or, Bool.false_or, Bool.or_true, Bool.or_false, true_and, and_true, and_self, Nat.reduceLeDiff, Nat.reduceLT, Nat.reduceAdd, Nat.zero_lt_succ, Nat.lt_add_one, Option.some.injEq, Loc.slot.injEq, Int.reduceAdd, Int.reduceSub, Int.reduceMul, Int.reduceNeg, beq_self_eq_true, List.length_cons, List.length_nil, decide_true, decide_false, Bool.and_self, bne_self_eq_false, ↓reduceIte, Nat.reduceEqDiff, reduceCtorEq, Bool.false_eq_true]
  exact hl

theorem ref1_Var_ans {b : List UInt8} {k : Nat} (hb : b.length ≤ 1000000000) (hk : k ≤ b.length) : evL cfg n_ingotref1_Var 0 [.d (.sl ((b).map byteD)), .d (.int .i64 ((k : Int)))] [] = some (varD (varM 0 0 (b.drop k)), []) := by
  rw [o_ingotref1_Var]
  have d_a : decide ((k : Int) < 0) = false := by simp <;> omega
  have d_b : decide ((k : Int) > b.length) = false := by simp <;> omega
  have hl := ref1_Var_loop (b.drop k) b k 0 0 rfl (by omega) (by simp) hb (by omega)
  rw [show ((0 : Nat) : Int) = 0 from rfl] at hl
  simp (disch := first | omega | (simp only [List.length_append, List.length_cons, List.length_nil, List.length_map, List.length_take, List.length_drop] <;> omega) | assumption | decide | (simp only [List.length_append, List.length_cons, List.length_nil, List.length_map] at * <;> omega) | fail) only [go_sem, wrap_i64, wrap_u64, X_ingotref1_Var, c_ingotref1_Var, d_a, d_b, hl, Bool.not_true, Bool.not_false, Bool.true_and, Bool.false_and, Bool.and_true, Bool.and_false, Bool.true_or, Bool.false_or, Bool.or_true, Bool.or_false, true_and, and_true, and_self, Nat.reduceLeDiff, Nat.reduceLT, Nat.reduceAdd, Nat.zero_lt_succ, Nat.lt_add_one, Option.some.injEq, Loc.slot.injEq, Int.reduceAdd, Int.reduceSub, Int.reduceMul, Int.reduceNeg, beq_self_eq_true, List.length_cons, List.length_nil, decide_true, decide_false, Bool.and_self, bne_self_eq_false, ↓reduceIte, Nat.reduceEqDiff, reduceCtorEq, Bool.false_eq_true]

theorem mul64_ans {x y : Nat} (hx : x < 18446744073709551616) (hy : y < 18446744073709551616) : evL cfg n_bits_Mul64 0 [.d (.int .u64 ((x : Int))), .d (.int .u64 ((y : Int)))] [] = some (.d (.tup [.int .u64 ((x * y / 18446744073709551616 : Nat) : Int), .int .u64 ((x * y % 18446744073709551616 : Nat) : Int)]), []) := by
  rw [evL_ext (g := xMul64) rfl]
  have e : allD [.d (.int .u64 ((x : Int))), .d (.int .u64 ((y : Int)))] = some [.int .u64 (x : Int), .int .u64 (y : Int)] := rfl
  rw [e, Option.bind_some, mul64_at hx hy, Option.map_some]
theorem nums_Add_ans {a b : Int} (ha : inI a) (hb : inI b) : evL cfg n_nums_Add 0 [.d (.int .i64 (a)), .d (.int .i64 (b))] [] = some (.d (.tup [.int .i64 (addM a b).1, .bool (addM a b).2]), []) := by
  rw [o_nums_Add]
  have ha' := ha
  have hb' := hb
  unfold inI at ha hb
  unfold addM
  have wb : inI (a + b) ∨ (9223372036854775808 ≤ a + b ∧ IntKind.i64.wrap (a + b) = a + b - 18446744073709551616) ∨ (a + b < -9223372036854775808 ∧ IntKind.i64.wrap (a + b) = a + b + 18446744073709551616) := by
    unfold inI
    rcases (by omega : (-9223372036854775808 ≤ a + b ∧ a + b < 9223372036854775808) ∨ 9223372036854775808 ≤ a + b ∨ a + b < -9223372036854775808) with h | h | h
    · exact .inl h
    · exact .inr (.inl ⟨h, cv_i64_big h (by omega)⟩)
    · exact .inr (.inr ⟨h, by
        simp [IntKind.wrap, IntKind.signed, IntKind.bits]
        omega⟩)
  rcases Bool.eq_false_or_eq_true ((b == 0)) with d_z | d_z <;> have p_z := d_z <;> simp only [decide_eq_true_eq, decide_eq_false_iff_not, beq_iff_eq, beq_eq_false_iff_ne, ne_eq] at p_z 
  · subst p_z
    simp only [Int.add_zero] at *
    rw [if_pos ha']
    rcases Bool.eq_false_or_eq_true (decide (a > a)) with d_p | d_p <;> have p_p := d_p <;> simp only [decide_eq_true_eq, decide_eq_false_iff_not, beq_iff_eq, beq_eq_false_iff_ne, ne_eq] at p_p 
    · omega
    · have e : IntKind.i64.wrap a = a := wrap_i64 ha.1 ha.2
      simp (disch := first | omega | (simp only [List.length_append, List.length_cons, List.length_nil, List.length_map, List.length_take, List.length_drop] <;> omega) | assumption | decide | (simp only [List.length_append, List.length_cons, List.length_nil, List.length_map] at * <;> omega) | fail) only [go_sem, wrap_i64, wrap_u64, X_nums_Add, c_nums_Add, Int.add_zero, d_p, e, show decide ((0 : Int) > 0) = false by decide, show ((0 : Int) != 0) = false by decide, eqn_bool, Bool.not_true, Bool.not_false, Bool.true_and, Bool.false_and, Bool.and_true, Bool.and_false, Bool.true_or, Bool.false_or, Bool.or_true, Bool.or_false, true_and, and_true, and_self, Nat.reduceLeDiff, Nat.reduceLT, Nat.reduceAdd, Nat.zero_lt_succ, Nat.lt_add_one, Option.some.injEq, Loc.slot.injEq, Int.reduceAdd, Int.reduceSub, Int.reduceMul, Int.reduceNeg, beq_self_eq_true, List.length_cons, List.length_nil, decide_true, decide_false, Bool.and_self, bne_self_eq_false, ↓reduceIte, Nat.reduceEqDiff, reduceCtorEq, Bool.false_eq_true]
  · have e0 : (b != 0) = true := by simp [p_z]
    rcases wb with h | ⟨h, e⟩ | ⟨h, e⟩
    · rw [if_pos h]
      unfold inI at h
      have e := wrap_i64 h.1 h.2
      have d1 : decide (a + b > a) = decide (b > 0) := by
        congr 1
        apply propext
        constructor <;> intro <;> omega
      simp (disch := first | omega | (simp only [List.length_append, List.length_cons, List.length_nil, List.length_map, List.length_take, List.length_drop] <;> omega) | assumption | decide | (simp only [List.length_append, List.length_cons, List.length_nil, List.length_map] at * <;> omega) | fail) only [go_sem, wrap_i64, wrap_u64, X_nums_Add, c_nums_Add, e, e0, d1, eqn_bool, Bool.not_true, Bool.not_false, Bool.true_and, Bool.false_and, Bool.and_true, Bool.and_false, Bool.true_or, Bool.false_or, Bool.or_true, Bool.or_false, true_and, and_true, and_self, Nat.reduceLeDiff, Nat.reduceLT, Nat.reduceAdd, Nat.zero_lt_succ, Nat.lt_add_one, Option.some.injEq, Loc.slot.injEq, Int.reduceAdd, Int.reduceSub, Int.reduceMul, Int.reduceNeg, beq_self_eq_true, List.length_cons, List.length_nil, decide_true, decide_false, Bool.and_self, bne_self_eq_false, ↓reduceIte, Nat.reduceEqDiff, reduceCtorEq, Bool.false_eq_true]
    · rw [if_neg (by unfold inI; omega)]
      have d1 : decide (a + b - 18446744073709551616 > a) = false := by simp; omega
      have d2 : decide (b > 0) = true := by simp; omega
      simp (disch := first | omega | (simp only [List.length_append, List.length_cons, List.length_nil, List.length_map, List.length_take, List.length_drop] <;> omega) | assumption | decide | (simp only [List.length_append, List.length_cons, List.length_nil, List.length_map] at * <;> omega) | fail) only [go_sem, wrap_i64, wrap_u64, X_nums_Add, c_nums_Add, e, e0, d1, d2, eqn_bool, show (false == true) = false by rfl, Bool.not_true, Bool.not_false, Bool.true_and, Bool.false_and, Bool.and_true, Bool.and_false, Bool.true_or, Bool.false_or, Bool.or_true, Bool.or_false, true_and, and_true, and_self, Nat.reduceLeDiff, Nat.reduceLT, Nat.reduceAdd, Nat.zero_lt_succ, Nat.lt_add_one, Option.some.injEq, Loc.slot.injEq, Int.reduceAdd, Int.reduceSub, Int.reduceMul, Int.reduceNeg, beq_self_eq_true, List.length_cons, List.length_nil, decide_true, decide_false, Bool.and_self, bne_self_eq_false, ↓reduceIte, Nat.reduceEqDiff, reduceCtorEq, Bool.false_eq_true]
    · rw [if_neg (by unfold inI; omega)]
      have d1 : decide (a + b + 18446744073709551616 > a) = true := by simp; omega
      have d2 : decide (b > 0) = false := by simp; omega
      simp (disch := first | omega | (simp only [List.length_append, List.length_cons, List.length_nil, List.length_map, List.length_take, List.length_drop] <;> omega) | assumption | decide | (simp only [List.length_append, List.length_cons, List.length_nil, List.length_map] at * <;> omega) | fail) only [go_sem, wrap_i64, wrap_u64, X_nums_Add, c_nums_Add, e, e0, d1, d2, eqn_bool, show (true == false) = false by rfl, Bool.not_true, Bool.not_false, Bool.true_and, Bool.false_and, Bool.and_true, Bool.and_false, Bool.true_or, Bool.false_or, Bool.or_true, Bool.or_false, true_and, and_true, and_self, Nat.reduceLeDiff, Nat.reduceLT, Nat.reduceAdd, Nat.zero_lt_succ, Nat.lt_add_one, Option.some.injEq, Loc.slot.injEq, Int.reduceAdd, Int.reduceSub, Int.reduceMul, Int.reduceNeg, beq_self_eq_true, List.length_cons, List.length_nil, decide_true, decide_false, Bool.and_self, bne_self_eq_false, ↓reduceIte, Nat.reduceEqDiff, reduceCtorEq, Bool.false_eq_true]
end Go.Proofs.YteckebocflnkdaaDoor
