/- Fields put: what the program's and the document's writers compute. -/
import Derived.Test.YtpnhljhciibfnaaGreatDoorPbA
namespace Go.Proofs.YtpnhljhciibfnaaGreatDoor
open Go Go.Ev
set_option linter.unusedVariables false
set_option linter.unusedSimpArgs false
set_option maxHeartbeats 4000000

theorem shlN {num : Nat} (h : num ≤ 536870911) : shlI .u64 (num : Int) 3 = ((num * 8 : Nat) : Int) := by
  have h1 := shlU (k := .u64) rfl num (n := 3) (by decide)
  rw [show ((3 : Nat) : Int) = 3 from rfl] at h1
  rw [h1, show (2 : Nat) ^ IntKind.u64.bits = 18446744073709551616 from rfl, Nat.mod_eq_of_lt (by omega)]
theorem orN {num w : Nat} (h : num ≤ 536870911) (hw : w < 8) : orI .u64 ((num * 8 : Nat) : Int) (w : Int) = ((num * 8 + w : Nat) : Int) := by
  rw [orU (k := .u64) rfl (a := num * 8) (b := w) (by show _ < 18446744073709551616; omega) (by show w < 18446744073709551616; omega), Nat.or_comm]
  have := or_add (a := w) (b := num) (n := 3) (by omega)
  rw [show (2 : Nat) ^ 3 = 8 from rfl] at this
  rw [this]; omega
theorem pb_head_ans {b : List UInt8} {num w : Nat} (hb : b.length ≤ 500000) (h1 : 1 ≤ num) (h2 : num ≤ 536870911) (hw : w < 8) :
    evL cfg n_pb_head 0 [.d (.sl ((b).map byteD)), .d (.int .i64 ((num : Int))), .d (.int .i64 ((w : Int)))] [] = some (.d (.tup [.sl ((b ++ varB 10 (num * 8 + w)).map byteD), .bool true]), []) := by
  rw [o_pb_head]
  have d_a : decide ((num : Int) < 1) = false := by simp <;> omega
  have d_c : decide ((num : Int) > 536870911) = false := by simp <;> omega
  have e1 := shlN h2
  have e2 := orN h2 hw
  have hp := nums_PutVar_ans (b := b) (u := num * 8 + w) (by omega) (by omega)
  simp (disch := first | omega | (simp only [go_sem, List.length_take, List.length_drop] <;> omega) | assumption | decide | fail) only [go_sem, X_pb_head, c_pb_head, d_a, d_c, ib_shl, e1, e2, hp, Nat.reduceLeDiff, Nat.reduceLT, Nat.reduceAdd, Int.reduceAdd, Int.reduceSub, Int.reduceNeg, ↓reduceIte, Nat.reduceEqDiff, reduceCtorEq, Int.reduceBEq, Int.reduceBNe, Nat.reduceBEq]
theorem pb_PutUint_ans {b : List UInt8} {num v : Nat} (hb : b.length ≤ 500000) (h1 : 1 ≤ num) (h2 : num ≤ 536870911) (hv : v < 18446744073709551616) :
    evL cfg n_pb_PutUint 0 [.d (.sl ((b).map byteD)), .d (.int .i64 ((num : Int))), .d (.int .u64 ((v : Int)))] [] = some (.d (.sl ((b ++ uintF num v).map byteD)), []) := by
  rw [o_pb_PutUint]
  have hh := pb_head_ans (b := b) (num := num) (w := 0) hb h1 h2 (by omega)
  rw [show ((0 : Nat) : Int) = 0 from rfl, Nat.add_zero] at hh
  have hl := varB_len 10 (num * 8)
  have hp := nums_PutVar_ans (b := b ++ varB 10 (num * 8)) (u := v) (by simp; omega) hv
  unfold uintF
  rw [← List.append_assoc]
  simp (disch := first | omega | (simp only [go_sem, List.length_take, List.length_drop] <;> omega) | assumption | decide | fail) only [go_sem, X_pb_PutUint, c_pb_PutUint, hh, hp, Nat.reduceLeDiff, Nat.reduceLT, Nat.reduceAdd, Int.reduceAdd, Int.reduceSub, Int.reduceNeg, ↓reduceIte, Nat.reduceEqDiff, reduceCtorEq, Int.reduceBEq, Int.reduceBNe, Nat.reduceBEq]
theorem pb_PutBytes_ans {b v : List UInt8} {num : Nat} (hb : b.length ≤ 500000) (h1 : 1 ≤ num) (h2 : num ≤ 536870911) (hv : v.length ≤ 300000) :
    evL cfg n_pb_PutBytes 0 [.d (.sl ((b).map byteD)), .d (.int .i64 ((num : Int))), .d (.sl ((v).map byteD))] [] = some (.own false 1 ((b ++ bytesF num v).map byteD), []) := by
  rw [o_pb_PutBytes]
  have hh := pb_head_ans (b := b) (num := num) (w := 2) hb h1 h2 (by omega)
  rw [show ((2 : Nat) : Int) = 2 from rfl] at hh
  have hl := varB_len 10 (num * 8 + 2)
  have hl2 := varB_len 10 v.length
  have hp := nums_PutVar_ans (b := b ++ varB 10 (num * 8 + 2)) (u := v.length) (by simp; omega) (by omega)
  have e : (b ++ bytesF num v).map byteD = (b ++ varB 10 (num * 8 + 2) ++ varB 10 v.length).map byteD ++ v.map byteD := by
    unfold bytesF
    simp only [List.map_append, List.append_assoc]
  rw [e]
  have hle : (b ++ varB 10 (num * 8 + 2) ++ varB 10 v.length).length ≤ 600000 := by simp; omega
  generalize b ++ varB 10 (num * 8 + 2) ++ varB 10 v.length = q at *
  simp (disch := first | omega | (simp only [go_sem, List.length_take, List.length_drop] <;> omega) | assumption | decide | fail) only [go_sem, X_pb_PutBytes, c_pb_PutBytes, hh, List.length_map, hp, Nat.reduceLeDiff, Nat.reduceLT, Nat.reduceAdd, Int.reduceAdd, Int.reduceSub, Int.reduceNeg, ↓reduceIte, Nat.reduceEqDiff, reduceCtorEq, Int.reduceBEq, Int.reduceBNe, Nat.reduceBEq]
theorem ref3_may_ans {num : Nat} (h1 : 1 ≤ num) (h2 : num ≤ 536870911) : evL cfg n_ingotref3_may 0 [.d (.int .i64 ((num : Int)))] [] = some (.d (.bool (true)), []) := by
  rw [o_ingotref3_may]
  have d_a : decide ((num : Int) ≥ 1) = true := by simp <;> omega
  have d_c : decide ((num : Int) ≤ 536870911) = true := by simp <;> omega
  simp (disch := first | omega | (simp only [go_sem, List.length_take, List.length_drop] <;> omega) | assumption | decide | fail) only [go_sem, X_ingotref3_may, c_ingotref3_may, d_a, d_c, Nat.reduceLeDiff, Nat.reduceLT, Nat.reduceAdd, Int.reduceAdd, Int.reduceSub, Int.reduceNeg, ↓reduceIte, Nat.reduceEqDiff, reduceCtorEq, Int.reduceBEq, Int.reduceBNe, Nat.reduceBEq]
theorem ref3_PutUint_nil {num v : Nat} (h1 : 1 ≤ num) (h2 : num ≤ 536870911) (hv : v < 18446744073709551616) :
    evL cfg n_ingotref3_PutUint 0 [.d .nilS, .d (.int .i64 ((num : Int))), .d (.int .u64 ((v : Int)))] [] = some (.own false 1 ((uintF num v).map byteD), []) := by
  rw [o_ingotref3_PutUint]
  have hm := ref3_may_ans h1 h2
  have e1 := shlN h2
  have hl := varB_len 10 (num * 8)
  have hp1 := ref1_PutVar_nil (u := num * 8) (by omega)
  have hp2 := ref1_PutVar_own (b := varB 10 (num * 8)) (u := v) (by omega) hv
  unfold uintF
  simp (disch := first | omega | (simp only [go_sem, List.length_take, List.length_drop] <;> omega) | assumption | decide | fail) only [go_sem, X_ingotref3_PutUint, c_ingotref3_PutUint, hm, ib_shl, e1, hp1, hp2, Nat.reduceLeDiff, Nat.reduceLT, Nat.reduceAdd, Int.reduceAdd, Int.reduceSub, Int.reduceNeg, ↓reduceIte, Nat.reduceEqDiff, reduceCtorEq, Int.reduceBEq, Int.reduceBNe, Nat.reduceBEq]
theorem ref3_PutUint_own {b : List UInt8} {num v : Nat} (hb : b.length ≤ 500000) (h1 : 1 ≤ num) (h2 : num ≤ 536870911) (hv : v < 18446744073709551616) :
    evL cfg n_ingotref3_PutUint 0 [.own false 1 (b.map byteD), .d (.int .i64 ((num : Int))), .d (.int .u64 ((v : Int)))] [] = some (.own false 1 ((b ++ uintF num v).map byteD), []) := by
  rw [show evL cfg n_ingotref3_PutUint 0 [.own false 1 (b.map byteD), .d (.int .i64 ((num : Int))), .d (.int .u64 ((v : Int)))] [] = go X_ingotref3_PutUint [.c c_ingotref3_PutUint] ⟨[(0, .own false 1 (b.map byteD)), (1, .d (.int .i64 ((num : Int)))), (2, .d (.int .u64 ((v : Int))))], []⟩ from evL_go (fn := i_ingotref3_PutUint) rfl rfl _ _ _ rfl rfl]
  have hm := ref3_may_ans h1 h2
  have e1 := shlN h2
  have hl := varB_len 10 (num * 8)
  have hp1 := ref1_PutVar_own (b := b) (u := num * 8) (by omega) (by omega)
  have hp2 := ref1_PutVar_own (b := b ++ varB 10 (num * 8)) (u := v) (by simp; omega) hv
  unfold uintF
  rw [← List.append_assoc]
  simp (disch := first | omega | (simp only [go_sem, List.length_take, List.length_drop] <;> omega) | assumption | decide | fail) only [go_sem, X_ingotref3_PutUint, c_ingotref3_PutUint, hm, ib_shl, e1, hp1, hp2, Nat.reduceLeDiff, Nat.reduceLT, Nat.reduceAdd, Int.reduceAdd, Int.reduceSub, Int.reduceNeg, ↓reduceIte, Nat.reduceEqDiff, reduceCtorEq, Int.reduceBEq, Int.reduceBNe, Nat.reduceBEq]
theorem ref3_PutBytes_nil {v : List UInt8} {num : Nat} (h1 : 1 ≤ num) (h2 : num ≤ 536870911) (hv : v.length ≤ 300000) :
    evL cfg n_ingotref3_PutBytes 0 [.d .nilS, .d (.int .i64 ((num : Int))), .d (.sl ((v).map byteD))] [] = some (.own false 1 ((bytesF num v).map byteD), []) := by
  rw [o_ingotref3_PutBytes]
  have hm := ref3_may_ans h1 h2
  have e1 := shlN h2
  have e2 := orN (w := 2) h2 (by omega)
  rw [show ((2 : Nat) : Int) = 2 from rfl] at e2
  have hl := varB_len 10 (num * 8 + 2)
  have hl2 := varB_len 10 v.length
  have hp1 := ref1_PutVar_nil (u := num * 8 + 2) (by omega)
  have hp2 := ref1_PutVar_own (b := varB 10 (num * 8 + 2)) (u := v.length) (by omega) (by omega)
  have e : (bytesF num v).map byteD = (varB 10 (num * 8 + 2) ++ varB 10 v.length).map byteD ++ v.map byteD := by
    unfold bytesF
    simp only [List.map_append, List.append_assoc]
  rw [e]
  have hle : (varB 10 (num * 8 + 2) ++ varB 10 v.length).length ≤ 600000 := by simp; omega
  generalize varB 10 (num * 8 + 2) ++ varB 10 v.length = q at *
  simp (disch := first | omega | (simp only [go_sem, List.length_take, List.length_drop] <;> omega) | assumption | decide | fail) only [go_sem, X_ingotref3_PutBytes, c_ingotref3_PutBytes, hm, List.length_map, ib_shl, e1, e2, hp1, hp2, Nat.reduceLeDiff, Nat.reduceLT, Nat.reduceAdd, Int.reduceAdd, Int.reduceSub, Int.reduceNeg, ↓reduceIte, Nat.reduceEqDiff, reduceCtorEq, Int.reduceBEq, Int.reduceBNe, Nat.reduceBEq]
theorem ref3_PutBytes_own {b v : List UInt8} {num : Nat} (hb : b.length ≤ 500000) (h1 : 1 ≤ num) (h2 : num ≤ 536870911) (hv : v.length ≤ 300000) :
    evL cfg n_ingotref3_PutBytes 0 [.own false 1 (b.map byteD), .d (.int .i64 ((num : Int))), .d (.sl ((v).map byteD))] [] = some (.own false 1 ((b ++ bytesF num v).map byteD), []) := by
  rw [show evL cfg n_ingotref3_PutBytes 0 [.own false 1 (b.map byteD), .d (.int .i64 ((num : Int))), .d (.sl ((v).map byteD))] [] = go X_ingotref3_PutBytes [.c c_ingotref3_PutBytes] ⟨[(0, .own false 1 (b.map byteD)), (1, .d (.int .i64 ((num : Int)))), (2, .d (.sl ((v).map byteD)))], []⟩ from evL_go (fn := i_ingotref3_PutBytes) rfl rfl _ _ _ rfl rfl]
  have hm := ref3_may_ans h1 h2
  have e1 := shlN h2
  have e2 := orN (w := 2) h2 (by omega)
  rw [show ((2 : Nat) : Int) = 2 from rfl] at e2
  have hl := varB_len 10 (num * 8 + 2)
  have hl2 := varB_len 10 v.length
  have hp1 := ref1_PutVar_own (b := b) (u := num * 8 + 2) (by omega) (by omega)
  have hp2 := ref1_PutVar_own (b := b ++ varB 10 (num * 8 + 2)) (u := v.length) (by simp; omega) (by omega)
  have e : (b ++ bytesF num v).map byteD = (b ++ varB 10 (num * 8 + 2) ++ varB 10 v.length).map byteD ++ v.map byteD := by
    unfold bytesF
    simp only [List.map_append, List.append_assoc]
  rw [e]
  have hle : (b ++ varB 10 (num * 8 + 2) ++ varB 10 v.length).length ≤ 600000 := by simp; omega
  generalize b ++ varB 10 (num * 8 + 2) ++ varB 10 v.length = q at *
  simp (disch := first | omega | (simp only [go_sem, List.length_take, List.length_drop] <;> omega) | assumption | decide | fail) only [go_sem, X_ingotref3_PutBytes, c_ingotref3_PutBytes, hm, List.length_map, ib_shl, e1, e2, hp1, hp2, Nat.reduceLeDiff, Nat.reduceLT, Nat.reduceAdd, Int.reduceAdd, Int.reduceSub, Int.reduceNeg, ↓reduceIte, Nat.reduceEqDiff, reduceCtorEq, Int.reduceBEq, Int.reduceBNe, Nat.reduceBEq]
end Go.Proofs.YtpnhljhciibfnaaGreatDoor
