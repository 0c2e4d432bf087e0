/- P1102: signs. -/
import Derived.Test.YteckebocflnkdaaDoorTxt
import Derived.Test.YteckebocflnkdaaDoorK
import Derived.Test.YteckebocflnkdaaDoorWrd
namespace Go.Proofs.YteckebocflnkdaaDoor.deciSigns
open Go Go.Ev
set_option linter.unusedSimpArgs false
set_option linter.unusedVariables false
set_option maxHeartbeats 4000000
theorem loop (v : Int) (s : Nat) (u : Nat) : ∀ (n : Int) (K : List Kf) (tl : List (Nat × V)), u < 18446744073709551616 → u < 9223372036854775808 → 0 ≤ n → n + (digN u : Int) ≤ 1000 →
    go X_ingotlaw11_DeciSigns (.c (.loop b_ingotlaw11_DeciSigns_10) :: .b 0 :: K) ⟨(0, .d (.int .i64 (v))) :: (1, .d (.int .i64 ((s : Int)))) :: (5, .d (.int .i64 (n))) :: (6, .d (.int .i64 ((u : Int)))) :: tl, []⟩ =
      go X_ingotlaw11_DeciSigns K ⟨[(0, .d (.int .i64 (v))), (1, .d (.int .i64 ((s : Int)))), (5, .d (.int .i64 (n - 1 + (digN u : Int)))), (6, .d (.int .i64 ((lastD u : Int)))), (21, .d (.bool (false)))], []⟩ := by
  induction u using Nat.strongRecOn with
  | _ u ih =>
    intro n K tl hu hu2 h0 h1
    by_cases c : u < 10
    · have d_a : decide ((u : Int) ≥ 10) = false := by simp <;> omega
      rw [go_loop, digN_small c, show n - 1 + ((1 : Nat) : Int) = n by omega, lastD_small c]
      simp (disch := first | omega | (simp only [List.length_append, List.length_cons, List.length_nil, List.length_map, List.length_take, List.length_drop] <;> omega) | assumption | decide | (simp only [List.length_append, List.length_cons, List.length_nil, List.length_map] at * <;> omega) | fail) only [go_sem, wrap_i64, wrap_u64, X_ingotlaw11_DeciSigns, lk_st, d_a, Bool.not_true, Bool.not_false, Bool.true_and, Bool.false_and, Bool.and_true, Bool.and_false, Bool.true_or, Bool.false_or, Bool.or_true, Bool.or_false, true_and, and_true, and_self, Nat.reduceLeDiff, Nat.reduceLT, Nat.reduceAdd, Nat.zero_lt_succ, Nat.lt_add_one, Option.some.injEq, Loc.slot.injEq, Int.reduceAdd, Int.reduceSub, Int.reduceMul, Int.reduceNeg, beq_self_eq_true, List.length_cons, List.length_nil, decide_true, decide_false, Bool.and_self, bne_self_eq_false, ↓reduceIte, Nat.reduceEqDiff, reduceCtorEq, Bool.false_eq_true]
    · have d_a : decide ((u : Int) ≥ 10) = true := by simp <;> omega
      have hst := digN_step c (by omega)
      have i2 := ih (u / 10) (by omega) (n + 1) K [] (by omega) (by omega) (by omega) (by omega)
      have e1 : ((u : Int)).tdiv 10 = ((u / 10 : Nat) : Int) := by rw [tdp (by omega)]; omega
      rw [show n + 1 - 1 + (digN (u / 10) : Int) = n - 1 + (digN u : Int) by omega, ← lastD_step c] at i2
      rw [go_loop]
      simp (disch := first | omega | (simp only [List.length_append, List.length_cons, List.length_nil, List.length_map, List.length_take, List.length_drop] <;> omega) | assumption | decide | (simp only [List.length_append, List.length_cons, List.length_nil, List.length_map] at * <;> omega) | fail) only [go_sem, wrap_i64, wrap_u64, X_ingotlaw11_DeciSigns, lk_st, d_a, ib_quo, e1, Bool.not_true, Bool.not_false, Bool.true_and, Bool.false_and, Bool.and_true, Bool.and_false, Bool.true_or, Bool.false_or, Bool.or_true, Bool.or_false, true_and, and_true, and_self, Nat.reduceLeDiff, Nat.reduceLT, Nat.reduceAdd, Nat.zero_lt_succ, Nat.lt_add_one, Option.some.injEq, Loc.slot.injEq, Int.reduceAdd, Int.reduceSub, Int.reduceMul, Int.reduceNeg, beq_self_eq_true, List.length_cons, List.length_nil, decide_true, decide_false, Bool.and_self, bne_self_eq_false, ↓reduceIte, Nat.reduceEqDiff, reduceCtorEq, Bool.false_eq_true]
      exact i2
theorem law (a0 a1 : Int) (w0 : (Lit.int .i64 a0).wf = true) (w1 : (Lit.int .i64 a1).wf = true) :
    evL cfg n_ingotlaw11_DeciSigns 0 [.d (.int .i64 (a0)), .d (.int .i64 (a1))] [] = some (.d (.bool (true)), []) := by
  rw [o_ingotlaw11_DeciSigns]
  rcases Bool.eq_false_or_eq_true (decide (a1 < 0)) with d_p1 | d_p1 <;> have p_p1 := d_p1 <;> simp only [decide_eq_true_eq, decide_eq_false_iff_not, beq_iff_eq, beq_eq_false_iff_ne, ne_eq] at p_p1 
  · simp (disch := first | omega | (simp only [List.length_append, List.length_cons, List.length_nil, List.length_map, List.length_take, List.length_drop] <;> omega) | assumption | decide | (simp only [List.length_append, List.length_cons, List.length_nil, List.length_map] at * <;> omega) | fail) only [go_sem, wrap_i64, wrap_u64, X_ingotlaw11_DeciSigns, c_ingotlaw11_DeciSigns, known_ok, d_p1, Bool.not_true, Bool.not_false, Bool.true_and, Bool.false_and, Bool.and_true, Bool.and_false, Bool.true_or, Bool.false_or, Bool.or_true, Bool.or_false, true_and, and_true, and_self, Nat.reduceLeDiff, Nat.reduceLT, Nat.reduceAdd, Nat.zero_lt_succ, Nat.lt_add_one, Option.some.injEq, Loc.slot.injEq, Int.reduceAdd, Int.reduceSub, Int.reduceMul, Int.reduceNeg, beq_self_eq_true, List.length_cons, List.length_nil, decide_true, decide_false, Bool.and_self, bne_self_eq_false, ↓reduceIte, Nat.reduceEqDiff, reduceCtorEq, Bool.false_eq_true]
  rcases Bool.eq_false_or_eq_true (decide (a1 > 18)) with d_p2 | d_p2 <;> have p_p2 := d_p2 <;> simp only [decide_eq_true_eq, decide_eq_false_iff_not, beq_iff_eq, beq_eq_false_iff_ne, ne_eq] at p_p2 
  · simp (disch := first | omega | (simp only [List.length_append, List.length_cons, List.length_nil, List.length_map, List.length_take, List.length_drop] <;> omega) | assumption | decide | (simp only [List.length_append, List.length_cons, List.length_nil, List.length_map] at * <;> omega) | fail) only [go_sem, wrap_i64, wrap_u64, X_ingotlaw11_DeciSigns, c_ingotlaw11_DeciSigns, known_ok, d_p1, d_p2, Bool.not_true, Bool.not_false, Bool.true_and, Bool.false_and, Bool.and_true, Bool.and_false, Bool.true_or, Bool.false_or, Bool.or_true, Bool.or_false, true_and, and_true, and_self, Nat.reduceLeDiff, Nat.reduceLT, Nat.reduceAdd, Nat.zero_lt_succ, Nat.lt_add_one, Option.some.injEq, Loc.slot.injEq, Int.reduceAdd, Int.reduceSub, Int.reduceMul, Int.reduceNeg, beq_self_eq_true, List.length_cons, List.length_nil, decide_true, decide_false, Bool.and_self, bne_self_eq_false, ↓reduceIte, Nat.reduceEqDiff, reduceCtorEq, Bool.false_eq_true]
  rcases Bool.eq_false_or_eq_true (decide (a0 ≤ 0)) with d_p3 | d_p3 <;> have p_p3 := d_p3 <;> simp only [decide_eq_true_eq, decide_eq_false_iff_not, beq_iff_eq, beq_eq_false_iff_ne, ne_eq] at p_p3 
  · simp (disch := first | omega | (simp only [List.length_append, List.length_cons, List.length_nil, List.length_map, List.length_take, List.length_drop] <;> omega) | assumption | decide | (simp only [List.length_append, List.length_cons, List.length_nil, List.length_map] at * <;> omega) | fail) only [go_sem, wrap_i64, wrap_u64, X_ingotlaw11_DeciSigns, c_ingotlaw11_DeciSigns, known_ok, d_p1, d_p2, d_p3, Bool.not_true, Bool.not_false, Bool.true_and, Bool.false_and, Bool.and_true, Bool.and_false, Bool.true_or, Bool.false_or, Bool.or_true, Bool.or_false, true_and, and_true, and_self, Nat.reduceLeDiff, Nat.reduceLT, Nat.reduceAdd, Nat.zero_lt_succ, Nat.lt_add_one, Option.some.injEq, Loc.slot.injEq, Int.reduceAdd, Int.reduceSub, Int.reduceMul, Int.reduceNeg, beq_self_eq_true, List.length_cons, List.length_nil, decide_true, decide_false, Bool.and_self, bne_self_eq_false, ↓reduceIte, Nat.reduceEqDiff, reduceCtorEq, Bool.false_eq_true]
  obtain ⟨s, rfl⟩ : ∃ n : Nat, a1 = n := ⟨a1.toNat, by omega⟩
  have hv := inI_of w0
  have hv' := hv
  unfold inI at hv'
  have hn : inI (0 - a0) := by unfold inI; omega
  have ew : IntKind.i64.wrap (0 - a0) = 0 - a0 := wrap_i64 hn.1 hn.2
  have t1 := deci_Text_ans (v := a0) (s := s) hv (by omega)
  have t2 := deci_Text_ans (v := 0 - a0) (s := s) hn (by omega)
  have e1 : textS (0 - a0) s = 45 :: textS a0 s := by
    unfold textS
    rw [if_pos (by omega), if_neg (by omega), show (0 - a0).natAbs = a0.natAbs by omega]
  rw [e1] at t2
  have d1 := deci_Digits_ans hv
  have d2 := deci_Digits_ans hn
  rw [show (0 - a0).natAbs = a0.natAbs by omega] at d2
  have r1 := deci_Compare_ans (a := a0) (b := 0) (sa := s) (sb := 3) hv (by unfold inI; omega) (by omega) (by omega)
  have r2 := deci_Compare_ans (a := 0 - a0) (b := 0) (sa := s) (sb := 3) hn (by unfold inI; omega) (by omega) (by omega)
  have r3 := deci_Compare_ans (a := 0 - a0) (b := a0) (sa := s) (sb := s) hn hv (by omega) (by omega)
  have hT := ten_pos (18 - s)
  have hk : 0 < keyZ a0 s := by unfold keyZ; exact Int.mul_pos (by omega) (by omega)
  have hk2 : keyZ (0 - a0) s < 0 := by unfold keyZ; exact Int.mul_neg_of_neg_of_pos (by omega) (by omega)
  have hk0 : keyZ 0 3 = 0 := by unfold keyZ; simp
  rw [show cmpM a0 s 0 3 = 1 by unfold cmpM cmpZ; rw [hk0, if_neg (by omega), if_pos (by omega)]] at r1
  rw [show cmpM (0 - a0) s 0 3 = -1 by unfold cmpM cmpZ; rw [hk0, if_pos (by omega)]] at r2
  rw [show cmpM (0 - a0) s a0 s = -1 by rw [keyZ_self]; unfold cmpZ; rw [if_pos (by omega)]] at r3
  have hdl := digN_le a0.natAbs
  have hl := fun K => loop a0 s a0.natAbs 1 K [] (by omega) (by omega) (by omega) (by omega)
  rw [show ((a0.natAbs : Nat) : Int) = a0 by omega, show (1 : Int) - 1 + (digN a0.natAbs : Int) = (digN a0.natAbs : Int) by omega] at hl
  have e2 : ((45 :: textS a0 s) == (45 :: textS a0 s)) = true := by simp
  have e3 : ((digN a0.natAbs : Int) == (digN a0.natAbs : Int)) = true := by simp
  have hlen := textS_len (v := a0) (s := s) (by omega)
  rw [show ((3 : Nat) : Int) = 3 from rfl] at r1 r2
  simp (disch := first | omega | (simp only [List.length_append, List.length_cons, List.length_nil, List.length_map, List.length_take, List.length_drop] <;> omega) | assumption | decide | (simp only [List.length_append, List.length_cons, List.length_nil, List.length_map] at * <;> omega) | fail) only [go_sem, wrap_i64, wrap_u64, X_ingotlaw11_DeciSigns, c_ingotlaw11_DeciSigns, known_ok, d_p1, d_p2, d_p3, hl, ew, t1, t2, d1, d2, r1, r2, r3, e2, e3, show ((1 : Int) == 1) = true by decide, show ((-1 : Int) == -1) = true by decide, Bool.not_true, Bool.not_false, Bool.true_and, Bool.false_and, Bool.and_true, Bool.and_false, Bool.true_or, Bool.false_or, Bool.or_true, Bool.or_false, true_and, and_true, and_self, Nat.reduceLeDiff, Nat.reduceLT, Nat.reduceAdd, Nat.zero_lt_succ, Nat.lt_add_one, Option.some.injEq, Loc.slot.injEq, Int.reduceAdd, Int.reduceSub, Int.reduceMul, Int.reduceNeg, beq_self_eq_true, List.length_cons, List.length_nil, decide_true, decide_false, Bool.and_self, bne_self_eq_false, ↓reduceIte, Nat.reduceEqDiff, reduceCtorEq, Bool.false_eq_true]
end Go.Proofs.YteckebocflnkdaaDoor.deciSigns
