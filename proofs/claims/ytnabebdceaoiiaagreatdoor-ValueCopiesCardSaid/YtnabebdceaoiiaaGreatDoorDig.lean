/- How many digits a number has; whether a time may be. -/
import Derived.Test.YtnabebdceaoiiaaGreatDoorK
import Derived.Test.YtnabebdceaoiiaaGreatDoorL8
namespace Go.Proofs.YtnabebdceaoiiaaGreatDoor
open Go Go.Ev
set_option linter.unusedVariables false
set_option linter.unusedSimpArgs false
set_option maxHeartbeats 4000000

theorem my {v : Int} (h : inI v) : evL cfg n_az 0 [.d (.int .i64 (v))] [] = some (.d (.int .u64 ((v.natAbs : Int))), []) := by
  rw [o_az]
  unfold inI at h
  rcases Bool.eq_false_or_eq_true (decide (v < 0)) with d_a | d_a <;> have p_a := d_a <;> simp only [decide_eq_true_eq, decide_eq_false_iff_not, beq_iff_eq, beq_eq_false_iff_ne, ne_eq] at p_a <;> simp (disch := first | omega | (simp only [go_sem, List.length_take, List.length_drop] <;> omega) | assumption | decide | fail) only [go_sem, X_az, c_az, d_a, ajq, Nat.reduceLeDiff, Nat.reduceLT, Nat.reduceAdd, Int.reduceAdd, Int.reduceSub, Int.reduceNeg, ↓reduceIte, Nat.reduceEqDiff, reduceCtorEq, Int.reduceBEq, Int.reduceBNe, Nat.reduceBEq] <;> first | done | with_reducible rfl | (simp only [Option.some.injEq, Prod.mk.injEq, V.d.injEq, D.int.injEq, D.tup.injEq, D.bool.injEq, List.cons.injEq, and_true, true_and]; omega)
theorem ed : ∀ (k n : Nat) (s : List UInt8), n < 10 ^ (k + 1) → n < 18446744073709551616 → s.length + k ≤ 100 →
    go X_au [.c (.loop apt), .b 0, .c (.seq ak1 .ret)] ⟨[(0, .d (.int .u64 ((n : Int)))), (3, .d (.str (UInt8.ofNat (48 + n % 10) :: s)))], []⟩ = some (.d (.str (decF (k + 1) n ++ s)), [])
  | k, n, s, h, h', hs => by
    by_cases c : n < 10
    · have d_a : decide ((n : Int) ≥ 10) = false := by simp <;> omega
      rw [go_loop, xn, if_pos c]
      simp (disch := first | omega | (simp only [go_sem, List.length_take, List.length_drop] <;> omega) | assumption | decide | fail) only [go_sem, X_au, d_a, show n % 10 = n by omega, Nat.reduceLeDiff, Nat.reduceLT, Nat.reduceAdd, Int.reduceAdd, Int.reduceSub, Int.reduceNeg, ↓reduceIte, Nat.reduceEqDiff, reduceCtorEq, Int.reduceBEq, Int.reduceBNe, Nat.reduceBEq]
    · cases k with
      | zero => simp at h; omega
      | succ k =>
        have d_a : decide ((n : Int) ≥ 10) = true := by simp <;> omega
        have ih := ed k (n / 10) (UInt8.ofNat (48 + n % 10) :: s) (by rw [Nat.pow_succ] at h; omega) (by omega) (by simp only [List.length_cons]; omega)
        have e1 : ((n : Int)).tdiv 10 = ((n / 10 : Nat) : Int) := by rw [tdp (by omega)]; omega
        have e2 : (((n / 10 : Nat) : Int)).tmod 10 = ((n / 10 % 10 : Nat) : Int) := by rw [tmp (by omega)]; omega
        have e3 : (48 + ((n / 10 % 10 : Nat) : Int)).toNat = 48 + n / 10 % 10 := by omega
        rw [go_loop, xn, if_neg c, List.append_assoc]
        simp (disch := first | omega | (simp only [go_sem, List.length_take, List.length_drop] <;> omega) | assumption | decide | fail) only [go_sem, X_au, d_a, ib_quo, jc, e1, e2, aju, e3, Nat.reduceLeDiff, Nat.reduceLT, Nat.reduceAdd, Int.reduceAdd, Int.reduceSub, Int.reduceNeg, ↓reduceIte, Nat.reduceEqDiff, reduceCtorEq, Int.reduceBEq, Int.reduceBNe, Nat.reduceBEq]
        exact ih
theorem ki {u : Nat} (h : u < 18446744073709551616) : evL cfg n_au 0 [.d (.int .u64 ((u : Int)))] [] = some (.d (.str (decF 20 u)), []) := by
  rw [o_au]
  have hl := ed 19 u [] (by omega) h (by simp)
  rw [List.append_nil] at hl
  have e2 : ((u : Int)).tmod 10 = ((u % 10 : Nat) : Int) := by rw [tmp (by omega)]; omega
  have e3 : (48 + ((u % 10 : Nat) : Int)).toNat = 48 + u % 10 := by omega
  simp (disch := first | omega | (simp only [go_sem, List.length_take, List.length_drop] <;> omega) | assumption | decide | fail) only [go_sem, X_au, c_au, jc, e2, aju, e3, hl, Nat.reduceLeDiff, Nat.reduceLT, Nat.reduceAdd, Int.reduceAdd, Int.reduceSub, Int.reduceNeg, ↓reduceIte, Nat.reduceEqDiff, reduceCtorEq, Int.reduceBEq, Int.reduceBNe, Nat.reduceBEq]
theorem ez {v : Int} (hv : inI v) : evL cfg n_a8 0 [.d (.int .i64 (v))] [] = some (.d (.int .i64 ((digN v.natAbs : Int))), []) := by
  rw [o_a8]
  have z1 := my hv
  have f1 := ki (u := v.natAbs) (by unfold inI at hv; omega)
  simp (disch := first | omega | (simp only [go_sem, List.length_take, List.length_drop] <;> omega) | assumption | decide | fail) only [go_sem, X_a8, c_a8, z1, f1, digN, Nat.reduceLeDiff, Nat.reduceLT, Nat.reduceAdd, Int.reduceAdd, Int.reduceSub, Int.reduceNeg, ↓reduceIte, Nat.reduceEqDiff, reduceCtorEq, Int.reduceBEq, Int.reduceBNe, Nat.reduceBEq]
def ah5 (s n : Int) : Bool := decide (s ≥ -1099511627776) && decide (s ≤ 1099511627776) && decide (n ≥ 0) && decide (n ≤ 999999999)
theorem fj (s n : Int) : evL cfg n_bl 0 [.d (.int .i64 (s)), .d (.int .i64 (n))] [] = some (.d (.bool (ah5 s n)), []) := by
  rw [o_bl]
  have e : decide (n < 1000000000) = decide (n ≤ 999999999) := decide_eq_decide.mpr (by omega)
  simp (disch := first | omega | (simp only [go_sem, List.length_take, List.length_drop] <;> omega) | assumption | decide | fail) only [go_sem, X_bl, c_bl, ah5, e, Nat.reduceLeDiff, Nat.reduceLT, Nat.reduceAdd, Int.reduceAdd, Int.reduceSub, Int.reduceNeg, ↓reduceIte, Nat.reduceEqDiff, reduceCtorEq, Int.reduceBEq, Int.reduceBNe, Nat.reduceBEq]
  repeat' ((try rw [goQ_b]) <;> split <;> rename_i hh <;> (try simp only [Bool.not_eq_true, Bool.not_eq_false, Bool.not_eq_true', Bool.not_eq_false'] at hh) <;> (try simp (disch := first | omega | (simp only [go_sem, List.length_take, List.length_drop] <;> omega) | assumption | decide | fail) only [*, go_sem, ah5, e, Nat.reduceLeDiff, Nat.reduceLT, Nat.reduceAdd, Int.reduceAdd, Int.reduceSub, Int.reduceNeg, ↓reduceIte, Nat.reduceEqDiff, reduceCtorEq, Int.reduceBEq, Int.reduceBNe, Nat.reduceBEq]))
end Go.Proofs.YtnabebdceaoiiaaGreatDoor
