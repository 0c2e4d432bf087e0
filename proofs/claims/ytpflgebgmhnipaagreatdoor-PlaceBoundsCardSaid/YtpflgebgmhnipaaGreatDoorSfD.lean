/- A stripe's footer written: parts. -/
import Derived.Test.YtpflgebgmhnipaaGreatDoorPbE
namespace Go.Proofs.YtpflgebgmhnipaaGreatDoor
open Go Go.Ev
set_option linter.unusedVariables false
set_option linter.unusedSimpArgs false
set_option maxHeartbeats 4000000

def inM (n : Int) : Bool := decide (0 ≤ n) && decide (n ≤ 262144)
theorem sfoot_in1_ans (n : Int) : evL cfg n_sfoot_in_1 0 [.d (.int .i64 (n))] [] = some (.d (.bool (!inM n)), []) := by
  rw [o_sfoot_in_1]
  unfold inM
  by_cases h : n < 0
  · have d_a : decide (n < 0) = true := by simp <;> omega
    have d_c : decide ((0 : Int) ≤ n) = false := by simp <;> omega
    simp (disch := first | omega | (simp only [go_sem, List.length_take, List.length_drop] <;> omega) | assumption | decide | fail) only [go_sem, X_sfoot_in_1, c_sfoot_in_1, d_a, d_c, Bool.false_and, Bool.not_false, Nat.reduceLeDiff, Nat.reduceLT, Nat.reduceAdd, Int.reduceAdd, Int.reduceSub, Int.reduceNeg, ↓reduceIte, Nat.reduceEqDiff, reduceCtorEq, Int.reduceBEq, Int.reduceBNe, Nat.reduceBEq]
  · have d_a : decide (n < 0) = false := by simp <;> omega
    have d_c : decide ((0 : Int) ≤ n) = true := by simp <;> omega
    by_cases h2 : n ≤ 262144
    · have d_d : decide (n ≤ 262144) = true := by simp <;> omega
      have d_e : decide (n > 262144) = false := by simp <;> omega
      simp (disch := first | omega | (simp only [go_sem, List.length_take, List.length_drop] <;> omega) | assumption | decide | fail) only [go_sem, X_sfoot_in_1, c_sfoot_in_1, d_a, d_c, d_d, d_e, Bool.true_and, Bool.not_true, Nat.reduceLeDiff, Nat.reduceLT, Nat.reduceAdd, Int.reduceAdd, Int.reduceSub, Int.reduceNeg, ↓reduceIte, Nat.reduceEqDiff, reduceCtorEq, Int.reduceBEq, Int.reduceBNe, Nat.reduceBEq]
    · have d_d : decide (n ≤ 262144) = false := by simp <;> omega
      have d_e : decide (n > 262144) = true := by simp <;> omega
      simp (disch := first | omega | (simp only [go_sem, List.length_take, List.length_drop] <;> omega) | assumption | decide | fail) only [go_sem, X_sfoot_in_1, c_sfoot_in_1, d_a, d_c, d_d, d_e, Bool.true_and, Bool.not_false, Nat.reduceLeDiff, Nat.reduceLT, Nat.reduceAdd, Int.reduceAdd, Int.reduceSub, Int.reduceNeg, ↓reduceIte, Nat.reduceEqDiff, reduceCtorEq, Int.reduceBEq, Int.reduceBNe, Nat.reduceBEq]
theorem IndexFunc_loop (l : List Int) (hn : l.length ≤ 1000) : ∀ (r : List Int) (i : Nat), l.drop i = r → i ≤ l.length →
    ∃ j : Int, go X_slices_IndexFunc_Sint_int [.c (.loop b_slices_IndexFunc_Sint_int_7), .b 0, .c (r_slices_IndexFunc_Sint_int_8.seq .ret)]
      ⟨[(0, .d (.sl ((l).map (D.int .i64)))), (1, .d (.fn n_sfoot_in_1)), (7, .d (.int .i64 ((l.length : Int)))), (8, .d (.int .i64 ((i : Int))))], []⟩ = some (.d (.int .i64 (j)), []) ∧ decide (j ≥ 0) = !(r.all inM)
  | [], i, hr, hi => by
    have := dropEnd hr
    have d_a : decide ((i : Int) < l.length) = false := by simp <;> omega
    refine ⟨-1, ?_, rfl⟩
    rw [go_loop]
    simp (disch := first | omega | (simp only [go_sem, List.length_take, List.length_drop] <;> omega) | assumption | decide | fail) only [go_sem, X_slices_IndexFunc_Sint_int, d_a, Nat.reduceLeDiff, Nat.reduceLT, Nat.reduceAdd, Int.reduceAdd, Int.reduceSub, Int.reduceNeg, ↓reduceIte, Nat.reduceEqDiff, reduceCtorEq, Int.reduceBEq, Int.reduceBNe, Nat.reduceBEq]
  | x :: r, i, hr, hi => by
    obtain ⟨h1, h2, h3⟩ := dropAt hr
    have d_a : decide ((i : Int) < l.length) = true := by simp <;> omega
    have hx := sfoot_in1_ans x
    obtain ⟨j, ih, hj⟩ := IndexFunc_loop l hn r (i + 1) h3 h1
    rw [show (((i + 1 : Nat)) : Int) = (i : Int) + 1 by omega] at ih
    rw [List.all_cons]
    rw [go_loop]
    cases hin : inM x with
    | true =>
      rw [hin] at hx
      refine ⟨j, ?_, by rw [Bool.true_and]; exact hj⟩
      simp (disch := first | omega | (simp only [go_sem, List.length_take, List.length_drop] <;> omega) | assumption | decide | fail) only [go_sem, X_slices_IndexFunc_Sint_int, d_a, h2, hx, Bool.not_true, Nat.reduceLeDiff, Nat.reduceLT, Nat.reduceAdd, Int.reduceAdd, Int.reduceSub, Int.reduceNeg, ↓reduceIte, Nat.reduceEqDiff, reduceCtorEq, Int.reduceBEq, Int.reduceBNe, Nat.reduceBEq]
      exact ih
    | false =>
      rw [hin] at hx
      refine ⟨i, ?_, by rw [Bool.false_and]; simp⟩
      simp (disch := first | omega | (simp only [go_sem, List.length_take, List.length_drop] <;> omega) | assumption | decide | fail) only [go_sem, X_slices_IndexFunc_Sint_int, d_a, h2, hx, Bool.not_false, Nat.reduceLeDiff, Nat.reduceLT, Nat.reduceAdd, Int.reduceAdd, Int.reduceSub, Int.reduceNeg, ↓reduceIte, Nat.reduceEqDiff, reduceCtorEq, Int.reduceBEq, Int.reduceBNe, Nat.reduceBEq]
theorem sfoot_in_ans (l : List Int) (hn : l.length ≤ 1000) : evL cfg n_sfoot_in 0 [.d (.sl ((l).map (D.int .i64)))] [] = some (.d (.bool (l.all inM)), []) := by
  obtain ⟨j, h1, h2⟩ := IndexFunc_loop l hn l 0 rfl (Nat.zero_le _)
  have h3 : evL cfg n_slices_IndexFunc_Sint_int 0 [.d (.sl ((l).map (D.int .i64))), .d (.fn n_sfoot_in_1)] [] = some (.d (.int .i64 (j)), []) := by
    rw [o_slices_IndexFunc_Sint_int]
    simp (disch := first | omega | (simp only [go_sem, List.length_take, List.length_drop] <;> omega) | assumption | decide | fail) only [go_sem, X_slices_IndexFunc_Sint_int, c_slices_IndexFunc_Sint_int, List.length_map, Nat.reduceLeDiff, Nat.reduceLT, Nat.reduceAdd, Int.reduceAdd, Int.reduceSub, Int.reduceNeg, ↓reduceIte, Nat.reduceEqDiff, reduceCtorEq, Int.reduceBEq, Int.reduceBNe, Nat.reduceBEq]
    exact h1
  have h4 : evL cfg n_slices_ContainsFunc_Sint_int 0 [.d (.sl ((l).map (D.int .i64))), .d (.fn n_sfoot_in_1)] [] = some (.d (.bool (!l.all inM)), []) := by
    rw [o_slices_ContainsFunc_Sint_int]
    simp (disch := first | omega | (simp only [go_sem, List.length_take, List.length_drop] <;> omega) | assumption | decide | fail) only [go_sem, X_slices_ContainsFunc_Sint_int, c_slices_ContainsFunc_Sint_int, h3, h2, Nat.reduceLeDiff, Nat.reduceLT, Nat.reduceAdd, Int.reduceAdd, Int.reduceSub, Int.reduceNeg, ↓reduceIte, Nat.reduceEqDiff, reduceCtorEq, Int.reduceBEq, Int.reduceBNe, Nat.reduceBEq]
  rw [o_sfoot_in]
  simp (disch := first | omega | (simp only [go_sem, List.length_take, List.length_drop] <;> omega) | assumption | decide | fail) only [go_sem, X_sfoot_in, c_sfoot_in, h4, Bool.not_not, Nat.reduceLeDiff, Nat.reduceLT, Nat.reduceAdd, Int.reduceAdd, Int.reduceSub, Int.reduceNeg, ↓reduceIte, Nat.reduceEqDiff, reduceCtorEq, Int.reduceBEq, Int.reduceBNe, Nat.reduceBEq]
def natI (l : List Nat) : List Int := l.map Int.ofNat
def putFrom : Nat → List Nat → List UInt8
  | _, [] => []
  | k, v :: r => uintF k v ++ putFrom (k + 1) r
theorem uintF_len (k v : Nat) : (uintF k v).length ≤ 20 := by
  unfold uintF
  have := varB_len 10 (k * 8)
  have := varB_len 10 v
  simp; omega
theorem sfoot_put_loop (l : List Nat) (hl : ∀ v ∈ l, v ≤ 262144) (hn : l.length ≤ 10) : ∀ (r : List Nat) (i : Nat) (acc : List UInt8), l.drop i = r → i ≤ l.length → acc.length ≤ 20 * i →
    go X_sfoot_put [.c (.loop b_sfoot_put_7), .b 0, .c (r_sfoot_put_8.seq .ret)]
      ⟨[(3, .d (.sl ((acc).map byteD))), (6, .d (.sl ((natI l).map (D.int .i64)))), (7, .d (.int .i64 ((l.length : Int)))), (8, .d (.int .i64 ((i : Int))))], []⟩ = some (.d (.sl ((acc ++ putFrom (i + 1) r).map byteD)), [])
  | [], i, acc, hr, hi, ha => by
    have := dropEnd hr
    have d_a : decide ((i : Int) < l.length) = false := by simp <;> omega
    rw [go_loop, putFrom, List.append_nil]
    simp (disch := first | omega | (simp only [go_sem, List.length_take, List.length_drop] <;> omega) | assumption | decide | fail) only [go_sem, X_sfoot_put, d_a, Nat.reduceLeDiff, Nat.reduceLT, Nat.reduceAdd, Int.reduceAdd, Int.reduceSub, Int.reduceNeg, ↓reduceIte, Nat.reduceEqDiff, reduceCtorEq, Int.reduceBEq, Int.reduceBNe, Nat.reduceBEq]
  | x :: r, i, acc, hr, hi, ha => by
    obtain ⟨h1, h2, h3⟩ := dropAt hr
    have d_a : decide ((i : Int) < l.length) = true := by simp <;> omega
    have hx := hl x (List.mem_of_getElem? h2)
    have hle := uintF_len (i + 1) x
    have ih := sfoot_put_loop l hl hn r (i + 1) (acc ++ uintF (i + 1) x) h3 h1 (by simp; omega)
    have hp := pb_PutUint_ans (b := acc) (num := i + 1) (v := x) (by omega) (by omega) (by omega) (by omega)
    rw [show (((i + 1 : Nat)) : Int) = (i : Int) + 1 by omega] at ih hp
    rw [putFrom, ← List.append_assoc]
    have hx2 : (natI l)[i]? = some (x : Int) := by unfold natI; rw [List.getElem?_map, h2]; rfl
    rw [go_loop]
    simp (disch := first | omega | (simp only [go_sem, List.length_take, List.length_drop] <;> omega) | assumption | decide | fail) only [go_sem, X_sfoot_put, d_a, List.getElem?_map, hx2, Option.map_some, hp, Nat.reduceLeDiff, Nat.reduceLT, Nat.reduceAdd, Int.reduceAdd, Int.reduceSub, Int.reduceNeg, ↓reduceIte, Nat.reduceEqDiff, reduceCtorEq, Int.reduceBEq, Int.reduceBNe, Nat.reduceBEq]
    exact ih
theorem sfoot_put_ans (v : Nat) (r : List Nat) (hl : ∀ x ∈ v :: r, x ≤ 262144) (hn : (v :: r).length ≤ 10) : evL cfg n_sfoot_put 0 [.d (.sl ((natI (v :: r)).map (D.int .i64)))] [] = some (.d (.sl ((putFrom 1 (v :: r)).map byteD)), []) := by
  rw [o_sfoot_put]
  have hle := uintF_len 1 v
  have h := sfoot_put_loop (v :: r) hl hn r 1 (uintF 1 v) rfl (by simp) (by omega)
  rw [show ((1 : Nat) : Int) = 1 from rfl] at h
  have hp := pb_PutUint_ans (b := []) (num := 1) (v := v) (by simp) (by omega) (by omega) (by have := hl v (by simp); omega)
  rw [show ((1 : Nat) : Int) = 1 from rfl, List.map_nil, List.nil_append] at hp
  have hz : (natI (v :: r)).length = (v :: r).length := List.length_map ..
  have d_a : decide ((0 : Int) < ((v :: r).length : Nat)) = true := by simp <;> omega
  have hx2 : (natI (v :: r))[0]? = some (v : Int) := rfl
  have hv := hl v (by simp)
  generalize natI (v :: r) = q at *
  generalize (v :: r).length = n at *
  rw [putFrom]
  simp (disch := first | omega | (simp only [go_sem, List.length_take, List.length_drop] <;> omega) | assumption | decide | fail) only [go_sem, X_sfoot_put, c_sfoot_put, List.length_map, hz, Nat.reduceLeDiff, Nat.reduceLT, Nat.reduceAdd, Int.reduceAdd, Int.reduceSub, Int.reduceNeg, ↓reduceIte, Nat.reduceEqDiff, reduceCtorEq, Int.reduceBEq, Int.reduceBNe, Nat.reduceBEq]
  rw [go_loop]
  simp (disch := first | omega | (simp only [go_sem, List.length_take, List.length_drop] <;> omega) | assumption | decide | fail) only [go_sem, X_sfoot_put, d_a, List.getElem?_map, hx2, Option.map_some, hp, Nat.reduceLeDiff, Nat.reduceLT, Nat.reduceAdd, Int.reduceAdd, Int.reduceSub, Int.reduceNeg, ↓reduceIte, Nat.reduceEqDiff, reduceCtorEq, Int.reduceBEq, Int.reduceBNe, Nat.reduceBEq]
  exact h
end Go.Proofs.YtpflgebgmhnipaaGreatDoor
