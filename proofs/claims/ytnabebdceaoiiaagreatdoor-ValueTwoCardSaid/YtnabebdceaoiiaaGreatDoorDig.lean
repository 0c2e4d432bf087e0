/- How many digits a number has; whether a time may be. -/
import Derived.Test.YtnabebdceaoiiaaGreatDoorK
import Derived.Test.YtnabebdceaoiiaaGreatDoorL11
namespace Go.Proofs.YtnabebdceaoiiaaGreatDoor
open Go Go.Ev
set_option linter.unusedVariables false
set_option linter.unusedSimpArgs false
set_option maxHeartbeats 4000000

theorem deci_size_ans {v : Int} (h : inI v) : evL cfg n_deci_size 0 [.d (.int .i64 (v))] [] = some (.d (.int .u64 ((v.natAbs : Int))), []) := by
  rw [o_deci_size]
  unfold inI at h
  rcases Bool.eq_false_or_eq_true (decide (v < 0)) with d_a | d_a <;> have p_a := d_a <;> simp only [decide_eq_true_eq, decide_eq_false_iff_not, beq_iff_eq, beq_eq_false_iff_ne, ne_eq] at p_a <;> simp (disch := first | omega | (simp only [go_sem, List.length_take, List.length_drop] <;> omega) | assumption | decide | fail) only [go_sem, X_deci_size, c_deci_size, d_a, cv_u64_neg, Nat.reduceLeDiff, Nat.reduceLT, Nat.reduceAdd, Int.reduceAdd, Int.reduceSub, Int.reduceNeg, ↓reduceIte, Nat.reduceEqDiff, reduceCtorEq, Int.reduceBEq, Int.reduceBNe, Nat.reduceBEq] <;> first | done | with_reducible rfl | (simp only [Option.some.injEq, Prod.mk.injEq, V.d.injEq, D.int.injEq, D.tup.injEq, D.bool.injEq, List.cons.injEq, and_true, true_and]; omega)
theorem ref11_size_ans {v : Int} (h : inI v) : evL cfg n_ingotref11_size 0 [.d (.int .i64 (v))] [] = some (.d (.int .u64 ((v.natAbs : Int))), []) := by
  rw [o_ingotref11_size]
  unfold inI at h
  rcases Bool.eq_false_or_eq_true (decide (v < 0)) with d_a | d_a <;> have p_a := d_a <;> simp only [decide_eq_true_eq, decide_eq_false_iff_not, beq_iff_eq, beq_eq_false_iff_ne, ne_eq] at p_a <;> simp (disch := first | omega | (simp only [go_sem, List.length_take, List.length_drop] <;> omega) | assumption | decide | fail) only [go_sem, X_ingotref11_size, c_ingotref11_size, d_a, cv_u64_neg, Nat.reduceLeDiff, Nat.reduceLT, Nat.reduceAdd, Int.reduceAdd, Int.reduceSub, Int.reduceNeg, ↓reduceIte, Nat.reduceEqDiff, reduceCtorEq, Int.reduceBEq, Int.reduceBNe, Nat.reduceBEq] <;> first | done | with_reducible rfl | (simp only [Option.some.injEq, Prod.mk.injEq, V.d.injEq, D.int.injEq, D.tup.injEq, D.bool.injEq, List.cons.injEq, and_true, true_and]; omega)
theorem ref11_digits_loop : ∀ (k n : Nat) (s : List UInt8), n < 10 ^ (k + 1) → n < 18446744073709551616 → s.length + k ≤ 100 →
    go X_ingotref11_digits [.c (.loop b_ingotref11_digits_5), .b 0, .c (.seq r_ingotref11_digits_6 .ret)] ⟨[(0, .d (.int .u64 ((n : Int)))), (3, .d (.str (UInt8.ofNat (48 + n % 10) :: s)))], []⟩ = some (.d (.str (decF (k + 1) n ++ s)), [])
  | k, n, s, h, h', hs => by
    by_cases c : n < 10
    · have d_a : decide ((n : Int) ≥ 10) = false := by simp <;> omega
      rw [go_loop, decF_succ, if_pos c]
      simp (disch := first | omega | (simp only [go_sem, List.length_take, List.length_drop] <;> omega) | assumption | decide | fail) only [go_sem, X_ingotref11_digits, d_a, show n % 10 = n by omega, Nat.reduceLeDiff, Nat.reduceLT, Nat.reduceAdd, Int.reduceAdd, Int.reduceSub, Int.reduceNeg, ↓reduceIte, Nat.reduceEqDiff, reduceCtorEq, Int.reduceBEq, Int.reduceBNe, Nat.reduceBEq]
    · cases k with
      | zero => simp at h; omega
      | succ k =>
        have d_a : decide ((n : Int) ≥ 10) = true := by simp <;> omega
        have ih := ref11_digits_loop k (n / 10) (UInt8.ofNat (48 + n % 10) :: s) (by rw [Nat.pow_succ] at h; omega) (by omega) (by simp only [List.length_cons]; omega)
        have e1 : ((n : Int)).tdiv 10 = ((n / 10 : Nat) : Int) := by rw [tdp (by omega)]; omega
        have e2 : (((n / 10 : Nat) : Int)).tmod 10 = ((n / 10 % 10 : Nat) : Int) := by rw [tmp (by omega)]; omega
        have e3 : (48 + ((n / 10 % 10 : Nat) : Int)).toNat = 48 + n / 10 % 10 := by omega
        rw [go_loop, decF_succ, if_neg c, List.append_assoc]
        simp (disch := first | omega | (simp only [go_sem, List.length_take, List.length_drop] <;> omega) | assumption | decide | fail) only [go_sem, X_ingotref11_digits, d_a, ib_quo, ib_rem, e1, e2, wrap_u8, e3, Nat.reduceLeDiff, Nat.reduceLT, Nat.reduceAdd, Int.reduceAdd, Int.reduceSub, Int.reduceNeg, ↓reduceIte, Nat.reduceEqDiff, reduceCtorEq, Int.reduceBEq, Int.reduceBNe, Nat.reduceBEq]
        exact ih
theorem ref11_digits_ans {u : Nat} (h : u < 18446744073709551616) : evL cfg n_ingotref11_digits 0 [.d (.int .u64 ((u : Int)))] [] = some (.d (.str (decF 20 u)), []) := by
  rw [o_ingotref11_digits]
  have hl := ref11_digits_loop 19 u [] (by omega) h (by simp)
  rw [List.append_nil] at hl
  have e2 : ((u : Int)).tmod 10 = ((u % 10 : Nat) : Int) := by rw [tmp (by omega)]; omega
  have e3 : (48 + ((u % 10 : Nat) : Int)).toNat = 48 + u % 10 := by omega
  simp (disch := first | omega | (simp only [go_sem, List.length_take, List.length_drop] <;> omega) | assumption | decide | fail) only [go_sem, X_ingotref11_digits, c_ingotref11_digits, ib_rem, e2, wrap_u8, e3, hl, Nat.reduceLeDiff, Nat.reduceLT, Nat.reduceAdd, Int.reduceAdd, Int.reduceSub, Int.reduceNeg, ↓reduceIte, Nat.reduceEqDiff, reduceCtorEq, Int.reduceBEq, Int.reduceBNe, Nat.reduceBEq]
theorem deci_Digits_loop (u : Nat) : ∀ (n : Int) (tl : List (Nat × V)), u < 18446744073709551616 → 0 ≤ n → n + (digN u : Int) ≤ 1000 →
    go X_deci_Digits [.c (.loop b_deci_Digits_12), .b 4, .c (.exit 0), .b 0, .c (.seq r_deci_Digits_13 .ret)] ⟨(3, .d (.int .i64 (n))) :: (4, .d (.int .u64 ((u : Int)))) :: tl, []⟩ = some (.d (.int .i64 (n - 1 + (digN u : Int))), []) := by
  induction u using Nat.strongRecOn with
  | _ u ih =>
    intro n tl hu h0 h1
    by_cases c : u < 10
    · have d_a : decide ((u : Int) ≥ 10) = false := by simp <;> omega
      rw [go_loop, digN_small c, show n - 1 + ((1 : Nat) : Int) = n by omega]
      simp (disch := first | omega | (simp only [go_sem, List.length_take, List.length_drop] <;> omega) | assumption | decide | fail) only [go_sem, X_deci_Digits, lk_st, d_a, Nat.reduceLeDiff, Nat.reduceLT, Nat.reduceAdd, Int.reduceAdd, Int.reduceSub, Int.reduceNeg, ↓reduceIte, Nat.reduceEqDiff, reduceCtorEq, Int.reduceBEq, Int.reduceBNe, Nat.reduceBEq]
    · have d_a : decide ((u : Int) ≥ 10) = true := by simp <;> omega
      have hst := digN_step c (by omega)
      have i2 := ih (u / 10) (by omega) (n + 1) [] (by omega) (by omega) (by omega)
      have e1 : ((u : Int)).tdiv 10 = ((u / 10 : Nat) : Int) := by rw [tdp (by omega)]; omega
      rw [show n + 1 - 1 + (digN (u / 10) : Int) = n - 1 + (digN u : Int) by omega] at i2
      rw [go_loop]
      simp (disch := first | omega | (simp only [go_sem, List.length_take, List.length_drop] <;> omega) | assumption | decide | fail) only [go_sem, X_deci_Digits, lk_st, d_a, ib_quo, e1, Nat.reduceLeDiff, Nat.reduceLT, Nat.reduceAdd, Int.reduceAdd, Int.reduceSub, Int.reduceNeg, ↓reduceIte, Nat.reduceEqDiff, reduceCtorEq, Int.reduceBEq, Int.reduceBNe, Nat.reduceBEq]
      exact i2
theorem deci_Digits_ans {v : Int} (hv : inI v) : evL cfg n_deci_Digits 0 [.d (.int .i64 (v))] [] = some (.d (.int .i64 ((digN v.natAbs : Int))), []) := by
  rw [o_deci_Digits]
  have z1 := deci_size_ans hv
  have hu : v.natAbs < 18446744073709551616 := by unfold inI at hv; omega
  generalize v.natAbs = u at *
  have e8 : ∀ u : Nat, ((u : Int)).tdiv 100000000 = ((u / 100000000 : Nat) : Int) := fun u => by rw [tdp (by omega)]; omega
  have hd := digN_le u
  by_cases c1 : 10000000000000000 ≤ u
  · have d_a : decide ((u : Int) ≥ 10000000000000000) = true := by simp <;> omega
    have h1 := digN_eight (n := u) (by omega) (by omega)
    have h2 := digN_eight (n := u / 100000000) (by omega) (by omega)
    have hl := deci_Digits_loop (u / 100000000 / 100000000) 17 [] (by omega) (by omega) (by omega)
    rw [show (17 : Int) - 1 + (digN (u / 100000000 / 100000000) : Int) = (digN u : Int) by omega] at hl
    simp (disch := first | omega | (simp only [go_sem, List.length_take, List.length_drop] <;> omega) | assumption | decide | fail) only [go_sem, X_deci_Digits, c_deci_Digits, z1, d_a, ib_quo, e8, hl, Nat.reduceLeDiff, Nat.reduceLT, Nat.reduceAdd, Int.reduceAdd, Int.reduceSub, Int.reduceNeg, ↓reduceIte, Nat.reduceEqDiff, reduceCtorEq, Int.reduceBEq, Int.reduceBNe, Nat.reduceBEq]
  · have d_a : decide ((u : Int) ≥ 10000000000000000) = false := by simp <;> omega
    by_cases c2 : 100000000 ≤ u
    · have d_b : decide ((u : Int) ≥ 100000000) = true := by simp <;> omega
      have h1 := digN_eight (n := u) (by omega) (by omega)
      have hl := deci_Digits_loop (u / 100000000) 9 [] (by omega) (by omega) (by omega)
      rw [show (9 : Int) - 1 + (digN (u / 100000000) : Int) = (digN u : Int) by omega] at hl
      simp (disch := first | omega | (simp only [go_sem, List.length_take, List.length_drop] <;> omega) | assumption | decide | fail) only [go_sem, X_deci_Digits, c_deci_Digits, z1, d_a, d_b, ib_quo, e8, hl, Nat.reduceLeDiff, Nat.reduceLT, Nat.reduceAdd, Int.reduceAdd, Int.reduceSub, Int.reduceNeg, ↓reduceIte, Nat.reduceEqDiff, reduceCtorEq, Int.reduceBEq, Int.reduceBNe, Nat.reduceBEq]
    · have d_b : decide ((u : Int) ≥ 100000000) = false := by simp <;> omega
      have hl := deci_Digits_loop u 1 [(10, .d (.bool false))] (by omega) (by omega) (by omega)
      rw [show (1 : Int) - 1 + (digN u : Int) = (digN u : Int) by omega] at hl
      simp (disch := first | omega | (simp only [go_sem, List.length_take, List.length_drop] <;> omega) | assumption | decide | fail) only [go_sem, X_deci_Digits, c_deci_Digits, z1, d_a, d_b, ib_quo, e8, hl, Nat.reduceLeDiff, Nat.reduceLT, Nat.reduceAdd, Int.reduceAdd, Int.reduceSub, Int.reduceNeg, ↓reduceIte, Nat.reduceEqDiff, reduceCtorEq, Int.reduceBEq, Int.reduceBNe, Nat.reduceBEq]
theorem ref11_Digits_ans {v : Int} (hv : inI v) : evL cfg n_ingotref11_Digits 0 [.d (.int .i64 (v))] [] = some (.d (.int .i64 ((digN v.natAbs : Int))), []) := by
  rw [o_ingotref11_Digits]
  have z1 := ref11_size_ans hv
  have f1 := ref11_digits_ans (u := v.natAbs) (by unfold inI at hv; omega)
  simp (disch := first | omega | (simp only [go_sem, List.length_take, List.length_drop] <;> omega) | assumption | decide | fail) only [go_sem, X_ingotref11_Digits, c_ingotref11_Digits, z1, f1, digN, Nat.reduceLeDiff, Nat.reduceLT, Nat.reduceAdd, Int.reduceAdd, Int.reduceSub, Int.reduceNeg, ↓reduceIte, Nat.reduceEqDiff, reduceCtorEq, Int.reduceBEq, Int.reduceBNe, Nat.reduceBEq]
def checkM (s n : Int) : Bool := decide (s ≥ -1099511627776) && decide (s ≤ 1099511627776) && decide (n ≥ 0) && decide (n ≤ 999999999)
theorem stamp_Check_ans (s n : Int) : evL cfg n_stamp_Check 0 [.d (.int .i64 (s)), .d (.int .i64 (n))] [] = some (.d (.bool (checkM s n)), []) := by
  rw [o_stamp_Check]
  simp (disch := first | omega | (simp only [go_sem, List.length_take, List.length_drop] <;> omega) | assumption | decide | fail) only [go_sem, X_stamp_Check, c_stamp_Check, checkM, Nat.reduceLeDiff, Nat.reduceLT, Nat.reduceAdd, Int.reduceAdd, Int.reduceSub, Int.reduceNeg, ↓reduceIte, Nat.reduceEqDiff, reduceCtorEq, Int.reduceBEq, Int.reduceBNe, Nat.reduceBEq]
  repeat' ((try rw [goQ_b]) <;> split <;> rename_i hh <;> (try simp only [Bool.not_eq_true, Bool.not_eq_false, Bool.not_eq_true', Bool.not_eq_false'] at hh) <;> (try simp (disch := first | omega | (simp only [go_sem, List.length_take, List.length_drop] <;> omega) | assumption | decide | fail) only [hh, go_sem, checkM, Nat.reduceLeDiff, Nat.reduceLT, Nat.reduceAdd, Int.reduceAdd, Int.reduceSub, Int.reduceNeg, ↓reduceIte, Nat.reduceEqDiff, reduceCtorEq, Int.reduceBEq, Int.reduceBNe, Nat.reduceBEq]))
theorem ref12_Check_ans (s n : Int) : evL cfg n_ingotref12_Check 0 [.d (.int .i64 (s)), .d (.int .i64 (n))] [] = some (.d (.bool (checkM s n)), []) := by
  rw [o_ingotref12_Check]
  have e : decide (n < 1000000000) = decide (n ≤ 999999999) := decide_eq_decide.mpr (by omega)
  simp (disch := first | omega | (simp only [go_sem, List.length_take, List.length_drop] <;> omega) | assumption | decide | fail) only [go_sem, X_ingotref12_Check, c_ingotref12_Check, checkM, e, Nat.reduceLeDiff, Nat.reduceLT, Nat.reduceAdd, Int.reduceAdd, Int.reduceSub, Int.reduceNeg, ↓reduceIte, Nat.reduceEqDiff, reduceCtorEq, Int.reduceBEq, Int.reduceBNe, Nat.reduceBEq]
  repeat' ((try rw [goQ_b]) <;> split <;> rename_i hh <;> (try simp only [Bool.not_eq_true, Bool.not_eq_false, Bool.not_eq_true', Bool.not_eq_false'] at hh) <;> (try simp (disch := first | omega | (simp only [go_sem, List.length_take, List.length_drop] <;> omega) | assumption | decide | fail) only [hh, go_sem, checkM, e, Nat.reduceLeDiff, Nat.reduceLT, Nat.reduceAdd, Int.reduceAdd, Int.reduceSub, Int.reduceNeg, ↓reduceIte, Nat.reduceEqDiff, reduceCtorEq, Int.reduceBEq, Int.reduceBNe, Nat.reduceBEq]))
end Go.Proofs.YtnabebdceaoiiaaGreatDoor
