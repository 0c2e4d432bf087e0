/- Values: kinds, numbers, what a node of a tree says by itself. -/
import Derived.Test.YtnabebdceaoiiaaGreatDoorDig
namespace Go.Proofs.YtnabebdceaoiiaaGreatDoor
open Go Go.Ev
set_option linter.unusedVariables false
set_option linter.unusedSimpArgs false
set_option maxHeartbeats 1000000

def textK (k : Int) : Bool := k == 7 || k == 8 || k == 16 || k == 17
theorem value_text_ans (k : Int) : evL cfg n_value_text 0 [.d (.int .i64 (k))] [] = some (.d (.bool (textK k)), []) := by
  rw [o_value_text]
  simp (disch := first | omega | (simp only [go_sem, List.length_take, List.length_drop] <;> omega) | assumption | decide | fail) only [go_sem, X_value_text, c_value_text, textK, Nat.reduceLeDiff, Nat.reduceLT, Nat.reduceAdd, Int.reduceAdd, Int.reduceSub, Int.reduceNeg, ↓reduceIte, Nat.reduceEqDiff, reduceCtorEq, Int.reduceBEq, Int.reduceBNe, Nat.reduceBEq]
  repeat' ((try rw [goQ_b]) <;> split <;> rename_i hh <;> (try simp only [Bool.not_eq_true, Bool.not_eq_false, Bool.not_eq_true', Bool.not_eq_false'] at hh) <;> (try simp (disch := first | omega | (simp only [go_sem, List.length_take, List.length_drop] <;> omega) | assumption | decide | fail) only [hh, go_sem, textK, Nat.reduceLeDiff, Nat.reduceLT, Nat.reduceAdd, Int.reduceAdd, Int.reduceSub, Int.reduceNeg, ↓reduceIte, Nat.reduceEqDiff, reduceCtorEq, Int.reduceBEq, Int.reduceBNe, Nat.reduceBEq]))
theorem ref14_Texts_ans (k : Int) : evL cfg n_ingotref14_Texts 0 [.d (.int .i64 (k))] [] = some (.d (.bool (textK k)), []) := by
  rw [o_ingotref14_Texts]
  simp (disch := first | omega | (simp only [go_sem, List.length_take, List.length_drop] <;> omega) | assumption | decide | fail) only [go_sem, X_ingotref14_Texts, c_ingotref14_Texts, textK, Nat.reduceLeDiff, Nat.reduceLT, Nat.reduceAdd, Int.reduceAdd, Int.reduceSub, Int.reduceNeg, ↓reduceIte, Nat.reduceEqDiff, reduceCtorEq, Int.reduceBEq, Int.reduceBNe, Nat.reduceBEq]
  repeat' ((try rw [goQ_b]) <;> split <;> rename_i hh <;> (try simp only [Bool.not_eq_true, Bool.not_eq_false, Bool.not_eq_true', Bool.not_eq_false'] at hh) <;> (try simp (disch := first | omega | (simp only [go_sem, List.length_take, List.length_drop] <;> omega) | assumption | decide | fail) only [hh, go_sem, textK, Nat.reduceLeDiff, Nat.reduceLT, Nat.reduceAdd, Int.reduceAdd, Int.reduceSub, Int.reduceNeg, ↓reduceIte, Nat.reduceEqDiff, reduceCtorEq, Int.reduceBEq, Int.reduceBNe, Nat.reduceBEq]))
def leafK (k : Int) : Bool := !(k == 10 || k == 11 || k == 12 || k == 13)
theorem types_Leaf_ans (k : Int) : evL cfg n_types_Leaf 0 [.d (.int .i64 (k))] [] = some (.d (.bool (leafK k)), []) := by
  rw [o_types_Leaf]
  simp (disch := first | omega | (simp only [go_sem, List.length_take, List.length_drop] <;> omega) | assumption | decide | fail) only [go_sem, X_types_Leaf, c_types_Leaf, leafK, Nat.reduceLeDiff, Nat.reduceLT, Nat.reduceAdd, Int.reduceAdd, Int.reduceSub, Int.reduceNeg, ↓reduceIte, Nat.reduceEqDiff, reduceCtorEq, Int.reduceBEq, Int.reduceBNe, Nat.reduceBEq]
  repeat' ((try rw [goQ_b]) <;> split <;> rename_i hh <;> (try simp only [Bool.not_eq_true, Bool.not_eq_false, Bool.not_eq_true', Bool.not_eq_false'] at hh) <;> (try simp (disch := first | omega | (simp only [go_sem, List.length_take, List.length_drop] <;> omega) | assumption | decide | fail) only [hh, go_sem, leafK, Nat.reduceLeDiff, Nat.reduceLT, Nat.reduceAdd, Int.reduceAdd, Int.reduceSub, Int.reduceNeg, ↓reduceIte, Nat.reduceEqDiff, reduceCtorEq, Int.reduceBEq, Int.reduceBNe, Nat.reduceBEq]))
theorem ref13_Leaf_ans (k : Int) : evL cfg n_ingotref13_Leaf 0 [.d (.int .i64 (k))] [] = some (.d (.bool (leafK k)), []) := by
  rw [o_ingotref13_Leaf]
  simp (disch := first | omega | (simp only [go_sem, List.length_take, List.length_drop] <;> omega) | assumption | decide | fail) only [go_sem, X_ingotref13_Leaf, c_ingotref13_Leaf, leafK, bne, Nat.reduceLeDiff, Nat.reduceLT, Nat.reduceAdd, Int.reduceAdd, Int.reduceSub, Int.reduceNeg, ↓reduceIte, Nat.reduceEqDiff, reduceCtorEq, Int.reduceBEq, Int.reduceBNe, Nat.reduceBEq]
  repeat' ((try rw [goQ_b]) <;> split <;> rename_i hh <;> (try simp only [Bool.not_eq_true, Bool.not_eq_false, Bool.not_eq_true', Bool.not_eq_false'] at hh) <;> (try simp (disch := first | omega | (simp only [go_sem, List.length_take, List.length_drop] <;> omega) | assumption | decide | fail) only [hh, go_sem, leafK, bne, Nat.reduceLeDiff, Nat.reduceLT, Nat.reduceAdd, Int.reduceAdd, Int.reduceSub, Int.reduceNeg, ↓reduceIte, Nat.reduceEqDiff, reduceCtorEq, Int.reduceBEq, Int.reduceBNe, Nat.reduceBEq]))
def namedM (k : Int) (v : Va) : Bool :=
  if v.null then v.i == 0 && v.n == 0 && (v.b.length : Int) == 0 && (v.kids.length : Int) == 0
  else (v.n == 0 || k == 9) && ((v.b.length : Int) == 0 || textK k) && ((v.kids.length : Int) == 0 || !leafK k)
theorem value_named_ans (t : Ty) (v : Va) : evL cfg n_value_named 0 [.d t.d, .d v.d] [] = some (.d (.bool (namedM t.kind v)), []) := by
  rw [o_value_named]
  simp (disch := first | omega | (simp only [go_sem, List.length_take, List.length_drop] <;> omega) | assumption | decide | fail) only [go_sem, X_value_named, c_value_named, value_text_ans, types_Leaf_ans, namedM, Nat.reduceLeDiff, Nat.reduceLT, Nat.reduceAdd, Int.reduceAdd, Int.reduceSub, Int.reduceNeg, ↓reduceIte, Nat.reduceEqDiff, reduceCtorEq, Int.reduceBEq, Int.reduceBNe, Nat.reduceBEq]
  repeat' ((try rw [goQ_b]) <;> split <;> rename_i hh <;> (try simp only [Bool.not_eq_true, Bool.not_eq_false, Bool.not_eq_true', Bool.not_eq_false'] at hh) <;> (try simp (disch := first | omega | (simp only [go_sem, List.length_take, List.length_drop] <;> omega) | assumption | decide | fail) only [hh, go_sem, value_text_ans, types_Leaf_ans, namedM, Nat.reduceLeDiff, Nat.reduceLT, Nat.reduceAdd, Int.reduceAdd, Int.reduceSub, Int.reduceNeg, ↓reduceIte, Nat.reduceEqDiff, reduceCtorEq, Int.reduceBEq, Int.reduceBNe, Nat.reduceBEq]))
theorem sh8 : intBin .shl .i64 (-1) .i64 7 = some (.int .i64 (-128)) := by kernel_rfl
theorem sh16 : intBin .shl .i64 (-1) .i64 15 = some (.int .i64 (-32768)) := by kernel_rfl
theorem sh32 : intBin .shl .i64 (-1) .i64 31 = some (.int .i64 (-2147483648)) := by kernel_rfl
theorem sp8 : intBin .shl .i64 1 .i64 7 = some (.int .i64 128) := by kernel_rfl
theorem sp16 : intBin .shl .i64 1 .i64 15 = some (.int .i64 32768) := by kernel_rfl
theorem sp32 : intBin .shl .i64 1 .i64 31 = some (.int .i64 2147483648) := by kernel_rfl
def wideM (v b : Int) : Bool := decide (v ≥ -b) && decide (v ≤ b - 1)
theorem wide8 (v : Int) : evL cfg n_value_wide 0 [.d (.int .i64 (v)), .d (.int .i64 (8))] [] = some (.d (.bool (wideM v 128)), []) := by
  rw [o_value_wide]
  simp (disch := first | omega | (simp only [go_sem, List.length_take, List.length_drop] <;> omega) | assumption | decide | fail) only [go_sem, X_value_wide, c_value_wide, sh8, sp8, wideM, Nat.reduceLeDiff, Nat.reduceLT, Nat.reduceAdd, Int.reduceAdd, Int.reduceSub, Int.reduceNeg, ↓reduceIte, Nat.reduceEqDiff, reduceCtorEq, Int.reduceBEq, Int.reduceBNe, Nat.reduceBEq]
  repeat' ((try rw [goQ_b]) <;> split <;> rename_i hh <;> (try simp only [Bool.not_eq_true, Bool.not_eq_false, Bool.not_eq_true', Bool.not_eq_false'] at hh) <;> (try simp (disch := first | omega | (simp only [go_sem, List.length_take, List.length_drop] <;> omega) | assumption | decide | fail) only [hh, go_sem, sh8, sp8, wideM, Nat.reduceLeDiff, Nat.reduceLT, Nat.reduceAdd, Int.reduceAdd, Int.reduceSub, Int.reduceNeg, ↓reduceIte, Nat.reduceEqDiff, reduceCtorEq, Int.reduceBEq, Int.reduceBNe, Nat.reduceBEq]))
theorem wide16 (v : Int) : evL cfg n_value_wide 0 [.d (.int .i64 (v)), .d (.int .i64 (16))] [] = some (.d (.bool (wideM v 32768)), []) := by
  rw [o_value_wide]
  simp (disch := first | omega | (simp only [go_sem, List.length_take, List.length_drop] <;> omega) | assumption | decide | fail) only [go_sem, X_value_wide, c_value_wide, sh16, sp16, wideM, Nat.reduceLeDiff, Nat.reduceLT, Nat.reduceAdd, Int.reduceAdd, Int.reduceSub, Int.reduceNeg, ↓reduceIte, Nat.reduceEqDiff, reduceCtorEq, Int.reduceBEq, Int.reduceBNe, Nat.reduceBEq]
  repeat' ((try rw [goQ_b]) <;> split <;> rename_i hh <;> (try simp only [Bool.not_eq_true, Bool.not_eq_false, Bool.not_eq_true', Bool.not_eq_false'] at hh) <;> (try simp (disch := first | omega | (simp only [go_sem, List.length_take, List.length_drop] <;> omega) | assumption | decide | fail) only [hh, go_sem, sh16, sp16, wideM, Nat.reduceLeDiff, Nat.reduceLT, Nat.reduceAdd, Int.reduceAdd, Int.reduceSub, Int.reduceNeg, ↓reduceIte, Nat.reduceEqDiff, reduceCtorEq, Int.reduceBEq, Int.reduceBNe, Nat.reduceBEq]))
theorem wide32 (v : Int) : evL cfg n_value_wide 0 [.d (.int .i64 (v)), .d (.int .i64 (32))] [] = some (.d (.bool (wideM v 2147483648)), []) := by
  rw [o_value_wide]
  simp (disch := first | omega | (simp only [go_sem, List.length_take, List.length_drop] <;> omega) | assumption | decide | fail) only [go_sem, X_value_wide, c_value_wide, sh32, sp32, wideM, Nat.reduceLeDiff, Nat.reduceLT, Nat.reduceAdd, Int.reduceAdd, Int.reduceSub, Int.reduceNeg, ↓reduceIte, Nat.reduceEqDiff, reduceCtorEq, Int.reduceBEq, Int.reduceBNe, Nat.reduceBEq]
  repeat' ((try rw [goQ_b]) <;> split <;> rename_i hh <;> (try simp only [Bool.not_eq_true, Bool.not_eq_false, Bool.not_eq_true', Bool.not_eq_false'] at hh) <;> (try simp (disch := first | omega | (simp only [go_sem, List.length_take, List.length_drop] <;> omega) | assumption | decide | fail) only [hh, go_sem, sh32, sp32, wideM, Nat.reduceLeDiff, Nat.reduceLT, Nat.reduceAdd, Int.reduceAdd, Int.reduceSub, Int.reduceNeg, ↓reduceIte, Nat.reduceEqDiff, reduceCtorEq, Int.reduceBEq, Int.reduceBNe, Nat.reduceBEq]))
/-- may the number of a value be? -/
def numberM (t : Ty) (i n : Int) : Bool :=
  if t.kind == 0 then i == 0 || i == 1
  else if t.kind == 1 then wideM i 128
  else if t.kind == 2 then wideM i 32768
  else if t.kind == 3 || t.kind == 15 then wideM i 2147483648
  else if t.kind == 4 then true
  else if t.kind == 14 then decide ((digN i.natAbs : Int) ≤ t.prec)
  else if t.kind == 9 then checkM i n
  else if t.kind == 13 then decide (i ≥ 0) && decide (i < t.kids.length)
  else i == 0
theorem value_number_ans (t : Ty) (v : Va) (hv : inI v.i) : evL cfg n_value_number 0 [.d t.d, .d v.d] [] = some (.d (.bool (numberM t v.i v.n)), []) := by
  rw [o_value_number]
  simp (disch := first | omega | (simp only [go_sem, List.length_take, List.length_drop] <;> omega) | assumption | decide | fail) only [go_sem, X_value_number, c_value_number, wide8, wide16, wide32, deci_Digits_ans hv, stamp_Check_ans, numberM, Nat.reduceLeDiff, Nat.reduceLT, Nat.reduceAdd, Int.reduceAdd, Int.reduceSub, Int.reduceNeg, ↓reduceIte, Nat.reduceEqDiff, reduceCtorEq, Int.reduceBEq, Int.reduceBNe, Nat.reduceBEq]
  repeat' ((try rw [goQ_b]) <;> split <;> rename_i hh <;> (try simp only [Bool.not_eq_true, Bool.not_eq_false, Bool.not_eq_true', Bool.not_eq_false'] at hh) <;> (try simp (disch := first | omega | (simp only [go_sem, List.length_take, List.length_drop] <;> omega) | assumption | decide | fail) only [hh, go_sem, wide8, wide16, wide32, deci_Digits_ans hv, stamp_Check_ans, numberM, Nat.reduceLeDiff, Nat.reduceLT, Nat.reduceAdd, Int.reduceAdd, Int.reduceSub, Int.reduceNeg, ↓reduceIte, Nat.reduceEqDiff, reduceCtorEq, Int.reduceBEq, Int.reduceBNe, Nat.reduceBEq]))
theorem ref14_Numbers_ans (t : Ty) (i n : Int) (hv : inI i) : evL cfg n_ingotref14_Numbers 0 [.d t.d, .d (.int .i64 (i)), .d (.int .i64 (n))] [] = some (.d (.bool (!(n != 0 && t.kind != 9) && numberM t i n)), []) := by
  rw [o_ingotref14_Numbers]
  simp (disch := first | omega | (simp only [go_sem, List.length_take, List.length_drop] <;> omega) | assumption | decide | fail) only [go_sem, X_ingotref14_Numbers, c_ingotref14_Numbers, ref11_Digits_ans hv, ref12_Check_ans, numberM, wideM, Nat.reduceLeDiff, Nat.reduceLT, Nat.reduceAdd, Int.reduceAdd, Int.reduceSub, Int.reduceNeg, ↓reduceIte, Nat.reduceEqDiff, reduceCtorEq, Int.reduceBEq, Int.reduceBNe, Nat.reduceBEq]
  repeat' ((try rw [goQ_b]) <;> split <;> rename_i hh <;> (try simp only [Bool.not_eq_true, Bool.not_eq_false, Bool.not_eq_true', Bool.not_eq_false'] at hh) <;> (try simp (disch := first | omega | (simp only [go_sem, List.length_take, List.length_drop] <;> omega) | assumption | decide | fail) only [hh, go_sem, ref11_Digits_ans hv, ref12_Check_ans, numberM, wideM, Nat.reduceLeDiff, Nat.reduceLT, Nat.reduceAdd, Int.reduceAdd, Int.reduceSub, Int.reduceNeg, ↓reduceIte, Nat.reduceEqDiff, reduceCtorEq, Int.reduceBEq, Int.reduceBNe, Nat.reduceBEq]))
end Go.Proofs.YtnabebdceaoiiaaGreatDoor
