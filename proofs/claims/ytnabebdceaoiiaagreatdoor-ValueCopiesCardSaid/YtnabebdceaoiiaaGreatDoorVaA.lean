/- Values: kinds, numbers, what a node of a tree says by itself. -/
import Derived.Test.YtnabebdceaoiiaaGreatDoorDig
namespace Go.Proofs.YtnabebdceaoiiaaGreatDoor
open Go Go.Ev
set_option linter.unusedVariables false
set_option linter.unusedSimpArgs false
set_option maxHeartbeats 1000000

def textK (k : Int) : Bool := k == 7 || k == 8 || k == 16 || k == 17
theorem bu (k : Int) : evL cfg n_bj 0 [.d (.int .i64 (k))] [] = some (.d (.bool (textK k)), []) := by
  rw [o_bj]
  simp (disch := first | omega | (simp only [go_sem, List.length_take, List.length_drop] <;> omega) | assumption | decide | fail) only [go_sem, X_bj, c_bj, textK, Nat.reduceLeDiff, Nat.reduceLT, Nat.reduceAdd, Int.reduceAdd, Int.reduceSub, Int.reduceNeg, ↓reduceIte, Nat.reduceEqDiff, reduceCtorEq, Int.reduceBEq, Int.reduceBNe, Nat.reduceBEq]
  repeat' ((try rw [goQ_b]) <;> split <;> rename_i hh <;> (try simp only [Bool.not_eq_true, Bool.not_eq_false, Bool.not_eq_true', Bool.not_eq_false'] at hh) <;> (try simp (disch := first | omega | (simp only [go_sem, List.length_take, List.length_drop] <;> omega) | assumption | decide | fail) only [*, go_sem, textK, Nat.reduceLeDiff, Nat.reduceLT, Nat.reduceAdd, Int.reduceAdd, Int.reduceSub, Int.reduceNeg, ↓reduceIte, Nat.reduceEqDiff, reduceCtorEq, Int.reduceBEq, Int.reduceBNe, Nat.reduceBEq]))
def leafK (k : Int) : Bool := !(k == 10 || k == 11 || k == 12 || k == 13)
theorem co (k : Int) : evL cfg n_bm 0 [.d (.int .i64 (k))] [] = some (.d (.bool (leafK k)), []) := by
  rw [o_bm]
  simp (disch := first | omega | (simp only [go_sem, List.length_take, List.length_drop] <;> omega) | assumption | decide | fail) only [go_sem, X_bm, c_bm, leafK, bne, Nat.reduceLeDiff, Nat.reduceLT, Nat.reduceAdd, Int.reduceAdd, Int.reduceSub, Int.reduceNeg, ↓reduceIte, Nat.reduceEqDiff, reduceCtorEq, Int.reduceBEq, Int.reduceBNe, Nat.reduceBEq]
  repeat' ((try rw [goQ_b]) <;> split <;> rename_i hh <;> (try simp only [Bool.not_eq_true, Bool.not_eq_false, Bool.not_eq_true', Bool.not_eq_false'] at hh) <;> (try simp (disch := first | omega | (simp only [go_sem, List.length_take, List.length_drop] <;> omega) | assumption | decide | fail) only [*, go_sem, leafK, bne, Nat.reduceLeDiff, Nat.reduceLT, Nat.reduceAdd, Int.reduceAdd, Int.reduceSub, Int.reduceNeg, ↓reduceIte, Nat.reduceEqDiff, reduceCtorEq, Int.reduceBEq, Int.reduceBNe, Nat.reduceBEq]))
def wideM (v b : Int) : Bool := decide (v ≥ -b) && decide (v ≤ b - 1)
/-- may the number of a value be? -/
def lp (t : Ty) (i n : Int) : Bool :=
  if t.kind == 0 then i == 0 || i == 1
  else if t.kind == 1 then wideM i 128
  else if t.kind == 2 then wideM i 32768
  else if t.kind == 3 || t.kind == 15 then wideM i 2147483648
  else if t.kind == 4 then true
  else if t.kind == 14 then decide ((digN i.natAbs : Int) ≤ t.prec)
  else if t.kind == 9 then ah5 i n
  else if t.kind == 13 then decide (i ≥ 0) && decide (i < t.kids.length)
  else i == 0
theorem jq (t : Ty) (i n : Int) (hv : inI i) : evL cfg n_ae 0 [.d t.d, .d (.int .i64 (i)), .d (.int .i64 (n))] [] = some (.d (.bool (!(n != 0 && t.kind != 9) && lp t i n)), []) := by
  rw [o_ae]
  simp (disch := first | omega | (simp only [go_sem, List.length_take, List.length_drop] <;> omega) | assumption | decide | fail) only [go_sem, X_ae, c_ae, ez hv, fj, lp, wideM, Nat.reduceLeDiff, Nat.reduceLT, Nat.reduceAdd, Int.reduceAdd, Int.reduceSub, Int.reduceNeg, ↓reduceIte, Nat.reduceEqDiff, reduceCtorEq, Int.reduceBEq, Int.reduceBNe, Nat.reduceBEq]
  repeat' ((try rw [goQ_b]) <;> split <;> rename_i hh <;> (try simp only [Bool.not_eq_true, Bool.not_eq_false, Bool.not_eq_true', Bool.not_eq_false'] at hh) <;> (try simp (disch := first | omega | (simp only [go_sem, List.length_take, List.length_drop] <;> omega) | assumption | decide | fail) only [*, go_sem, ez hv, fj, lp, wideM, Nat.reduceLeDiff, Nat.reduceLT, Nat.reduceAdd, Int.reduceAdd, Int.reduceSub, Int.reduceNeg, ↓reduceIte, Nat.reduceEqDiff, reduceCtorEq, Int.reduceBEq, Int.reduceBNe, Nat.reduceBEq]))
end Go.Proofs.YtnabebdceaoiiaaGreatDoor
