/- What the functions on numbers compute. -/
import Derived.Test.YtpnhljhciibfnaaGreatDoorK
import Derived.Test.YtpnhljhciibfnaaGreatDoorL12
namespace Go.Proofs.YtpnhljhciibfnaaGreatDoor
open Go Go.Ev
set_option linter.unusedVariables false
set_option linter.unusedSimpArgs false
set_option maxHeartbeats 2000000

theorem clone_bytes_ans (b : List UInt8) (hl : b.length ≤ 1000000) : evL cfg n_slices_Clone_Sbyte_byte 0 [.d (.sl ((b).map byteD))] [] = some ((if b.isEmpty then .d .nilS else .own false 1 (b.map byteD)), []) := by
  cases b with
  | nil => exact evL_of_evFn (n := 3) (by kernel_rfl)
  | cons c b =>
    rw [o_slices_Clone_Sbyte_byte]
    rw [List.length_cons] at hl
    simp (disch := first | omega | (simp only [go_sem, List.length_take, List.length_drop] <;> omega) | assumption | decide | fail) only [go_sem, X_slices_Clone_Sbyte_byte, c_slices_Clone_Sbyte_byte, List.isEmpty, Nat.reduceLeDiff, Nat.reduceLT, Nat.reduceAdd, Int.reduceAdd, Int.reduceSub, Int.reduceNeg, ↓reduceIte, Nat.reduceEqDiff, reduceCtorEq, Int.reduceBEq, Int.reduceBNe, Nat.reduceBEq]

theorem nums_PutVar_loop : ∀ (k u : Nat) (es : List UInt8), u < 128 ^ (k + 1) → u < 18446744073709551616 → es.length + k + 1 ≤ 10000000 →
    go X_nums_PutVar [.c (.loop b_nums_PutVar_5), .b 0, .c (.seq r_nums_PutVar_6 .ret)] ⟨[(1, .d (.int .u64 ((u : Int)))), (5, .own false 1 (es.map byteD))], []⟩ = some (.own false 1 ((es ++ varB (k + 1) u).map byteD), [])
  | k, u, es, h, h', hl => by
    by_cases c : u < 128
    · have d_a : decide ((u : Int) ≥ 128) = false := by simp <;> omega
      have e : varB (k + 1) u = [UInt8.ofNat u] := by simp [varB, c]
      have e1 := byteD_of (n := u) (by omega)
      have e2 : u % 256 = u := by omega
      rw [go_loop, e]
      simp (disch := first | omega | (simp only [go_sem, List.length_take, List.length_drop] <;> omega) | assumption | decide | fail) only [go_sem, X_nums_PutVar, d_a, cv_u8, List.map_append, e1, e2, Nat.reduceLeDiff, Nat.reduceLT, Nat.reduceAdd, Int.reduceAdd, Int.reduceSub, Int.reduceNeg, ↓reduceIte, Nat.reduceEqDiff, reduceCtorEq, Int.reduceBEq, Int.reduceBNe, Nat.reduceBEq]
    · have d_a : decide ((u : Int) ≥ 128) = true := by simp <;> omega
      cases k with
      | zero => simp at h; omega
      | succ k =>
        have e : varB (k + 1 + 1) u = UInt8.ofNat (u % 128 + 128) :: varB (k + 1) (u / 128) := by rw [varB, if_neg c]
        have e1 := byteD_of (n := u % 128 + 128) (by omega)
        have ih := nums_PutVar_loop k (u / 128) (es ++ [UInt8.ofNat (u % 128 + 128)]) (by rw [Nat.pow_succ] at h; omega) (by omega) (by simp; omega)
        rw [List.map_append, List.map_cons, List.map_nil, e1, List.append_assoc, List.singleton_append, ← e] at ih
        rw [go_loop]
        simp (disch := first | omega | (simp only [go_sem, List.length_take, List.length_drop] <;> omega) | assumption | decide | fail) only [go_sem, X_nums_PutVar, d_a, cv_u8, ib_shr, shr_seven, put_orI, Nat.reduceLeDiff, Nat.reduceLT, Nat.reduceAdd, Int.reduceAdd, Int.reduceSub, Int.reduceNeg, ↓reduceIte, Nat.reduceEqDiff, reduceCtorEq, Int.reduceBEq, Int.reduceBNe, Nat.reduceBEq]
        exact ih
theorem nums_PutVar_ans {b : List UInt8} {u : Nat} (hb : b.length ≤ 1000000) (hu : u < 18446744073709551616) : evL cfg n_nums_PutVar 0 [.d (.sl ((b).map byteD)), .d (.int .u64 ((u : Int)))] [] = some (.own false 1 ((b ++ varB 10 u).map byteD), []) := by
  rw [o_nums_PutVar]
  have hc := clone_bytes_ans b hb
  cases b with
  | cons x b =>
    have hl := nums_PutVar_loop 9 u (x :: b) (by omega) hu (by simp at hb ⊢; omega)
    simp only [List.isEmpty_cons, Bool.false_eq_true, if_false] at hc
    rw [List.map_cons] at hc hl ⊢
    simp (disch := first | omega | (simp only [go_sem, List.length_take, List.length_drop] <;> omega) | assumption | decide | fail) only [go_sem, X_nums_PutVar, c_nums_PutVar, hc, hl, Nat.reduceLeDiff, Nat.reduceLT, Nat.reduceAdd, Int.reduceAdd, Int.reduceSub, Int.reduceNeg, ↓reduceIte, Nat.reduceEqDiff, reduceCtorEq, Int.reduceBEq, Int.reduceBNe, Nat.reduceBEq]
  | nil =>
    simp only [List.isEmpty_nil, if_true] at hc
    rw [List.map_nil] at hc
    by_cases c : u < 128
    · have d_a : decide ((u : Int) ≥ 128) = false := by simp <;> omega
      have e : varB 10 u = [UInt8.ofNat u] := by simp [varB, c]
      have e1 := byteD_of (n := u) (by omega)
      have e2 : u % 256 = u := by omega
      simp (disch := first | omega | (simp only [go_sem, List.length_take, List.length_drop] <;> omega) | assumption | decide | fail) only [go_sem, X_nums_PutVar, c_nums_PutVar, hc, go_loop, d_a, cv_u8, e, e1, e2, Nat.reduceLeDiff, Nat.reduceLT, Nat.reduceAdd, Int.reduceAdd, Int.reduceSub, Int.reduceNeg, ↓reduceIte, Nat.reduceEqDiff, reduceCtorEq, Int.reduceBEq, Int.reduceBNe, Nat.reduceBEq]
    · have d_a : decide ((u : Int) ≥ 128) = true := by simp <;> omega
      have e : varB 10 u = UInt8.ofNat (u % 128 + 128) :: varB 9 (u / 128) := by rw [varB, if_neg c]
      have e1 := byteD_of (n := u % 128 + 128) (by omega)
      have ih := nums_PutVar_loop 8 (u / 128) [UInt8.ofNat (u % 128 + 128)] (by omega) (by omega) (by simp)
      rw [List.map_cons, List.map_nil, e1, List.singleton_append, ← e] at ih
      simp (disch := first | omega | (simp only [go_sem, List.length_take, List.length_drop] <;> omega) | assumption | decide | fail) only [go_sem, X_nums_PutVar, c_nums_PutVar, hc, Nat.reduceLeDiff, Nat.reduceLT, Nat.reduceAdd, Int.reduceAdd, Int.reduceSub, Int.reduceNeg, ↓reduceIte, Nat.reduceEqDiff, reduceCtorEq, Int.reduceBEq, Int.reduceBNe, Nat.reduceBEq]
      rw [go_loop]
      simp (disch := first | omega | (simp only [go_sem, List.length_take, List.length_drop] <;> omega) | assumption | decide | fail) only [go_sem, X_nums_PutVar, d_a, cv_u8, ib_shr, shr_seven, put_orI, Nat.reduceLeDiff, Nat.reduceLT, Nat.reduceAdd, Int.reduceAdd, Int.reduceSub, Int.reduceNeg, ↓reduceIte, Nat.reduceEqDiff, reduceCtorEq, Int.reduceBEq, Int.reduceBNe, Nat.reduceBEq]
      exact ih

theorem ref1_PutVar_loop : ∀ (k u : Nat) (es : List UInt8), u < 128 ^ (k + 1) → u < 18446744073709551616 → es.length + k + 1 ≤ 10000000 →
    go X_ingotref1_PutVar [.c (.loop b_ingotref1_PutVar_4), .b 0, .c (.seq r_ingotref1_PutVar_5 .ret)] ⟨[(0, .own false 1 (es.map byteD)), (1, .d (.int .u64 ((u : Int))))], []⟩ = some (.own false 1 ((es ++ varB (k + 1) u).map byteD), [])
  | k, u, es, h, h', hl => by
    by_cases c : u < 128
    · have d_a : decide ((u : Int) ≥ 128) = false := by simp <;> omega
      have e : varB (k + 1) u = [UInt8.ofNat u] := by simp [varB, c]
      have e1 := byteD_of (n := u) (by omega)
      have e2 : u % 256 = u := by omega
      rw [go_loop, e]
      simp (disch := first | omega | (simp only [go_sem, List.length_take, List.length_drop] <;> omega) | assumption | decide | fail) only [go_sem, X_ingotref1_PutVar, d_a, cv_u8, List.map_append, e1, e2, Nat.reduceLeDiff, Nat.reduceLT, Nat.reduceAdd, Int.reduceAdd, Int.reduceSub, Int.reduceNeg, ↓reduceIte, Nat.reduceEqDiff, reduceCtorEq, Int.reduceBEq, Int.reduceBNe, Nat.reduceBEq]
    · have d_a : decide ((u : Int) ≥ 128) = true := by simp <;> omega
      cases k with
      | zero => simp at h; omega
      | succ k =>
        have e : varB (k + 1 + 1) u = UInt8.ofNat (u % 128 + 128) :: varB (k + 1) (u / 128) := by rw [varB, if_neg c]
        have e1 := byteD_of (n := u % 128 + 128) (by omega)
        have ih := ref1_PutVar_loop k (u / 128) (es ++ [UInt8.ofNat (u % 128 + 128)]) (by rw [Nat.pow_succ] at h; omega) (by omega) (by simp; omega)
        rw [List.map_append, List.map_cons, List.map_nil, e1, List.append_assoc, List.singleton_append, ← e] at ih
        have e3 := put_orR h'
        rw [go_loop]
        simp (disch := first | omega | (simp only [go_sem, List.length_take, List.length_drop] <;> omega) | assumption | decide | fail) only [go_sem, X_ingotref1_PutVar, d_a, e3, ib_shr, shr_seven, Nat.reduceLeDiff, Nat.reduceLT, Nat.reduceAdd, Int.reduceAdd, Int.reduceSub, Int.reduceNeg, ↓reduceIte, Nat.reduceEqDiff, reduceCtorEq, Int.reduceBEq, Int.reduceBNe, Nat.reduceBEq]
        exact ih
/-- the document's, given its bytes -/
theorem ref1_PutVar_own {b : List UInt8} {u : Nat} (hb : b.length ≤ 1000000) (hu : u < 18446744073709551616) : evL cfg n_ingotref1_PutVar 0 [.own false 1 (b.map byteD), .d (.int .u64 ((u : Int)))] [] = some (.own false 1 ((b ++ varB 10 u).map byteD), []) := by
  rw [show evL cfg n_ingotref1_PutVar 0 [.own false 1 (b.map byteD), .d (.int .u64 ((u : Int)))] [] = go X_ingotref1_PutVar [.c c_ingotref1_PutVar] ⟨[(0, .own false 1 (b.map byteD)), (1, .d (.int .u64 ((u : Int))))], []⟩ from evL_go (fn := i_ingotref1_PutVar) rfl rfl _ _ _ rfl rfl]
  have hl := ref1_PutVar_loop 9 u b (by omega) hu (by omega)
  simp (disch := first | omega | (simp only [go_sem, List.length_take, List.length_drop] <;> omega) | assumption | decide | fail) only [go_sem, X_ingotref1_PutVar, c_ingotref1_PutVar, hl, Nat.reduceLeDiff, Nat.reduceLT, Nat.reduceAdd, Int.reduceAdd, Int.reduceSub, Int.reduceNeg, ↓reduceIte, Nat.reduceEqDiff, reduceCtorEq, Int.reduceBEq, Int.reduceBNe, Nat.reduceBEq]
theorem ref1_PutVar_nil {u : Nat} (hu : u < 18446744073709551616) : evL cfg n_ingotref1_PutVar 0 [.d .nilS, .d (.int .u64 ((u : Int)))] [] = some (.own false 1 ((varB 10 u).map byteD), []) := by
  rw [o_ingotref1_PutVar]
  by_cases c : u < 128
  · have d_a : decide ((u : Int) ≥ 128) = false := by simp <;> omega
    have e : varB 10 u = [UInt8.ofNat u] := by simp [varB, c]
    have e1 := byteD_of (n := u) (by omega)
    have e2 : u % 256 = u := by omega
    simp (disch := first | omega | (simp only [go_sem, List.length_take, List.length_drop] <;> omega) | assumption | decide | fail) only [go_sem, X_ingotref1_PutVar, c_ingotref1_PutVar, go_loop, d_a, cv_u8, e, e1, e2, Nat.reduceLeDiff, Nat.reduceLT, Nat.reduceAdd, Int.reduceAdd, Int.reduceSub, Int.reduceNeg, ↓reduceIte, Nat.reduceEqDiff, reduceCtorEq, Int.reduceBEq, Int.reduceBNe, Nat.reduceBEq]
  · have d_a : decide ((u : Int) ≥ 128) = true := by simp <;> omega
    have e : varB 10 u = UInt8.ofNat (u % 128 + 128) :: varB 9 (u / 128) := by rw [varB, if_neg c]
    have e1 := byteD_of (n := u % 128 + 128) (by omega)
    have ih := ref1_PutVar_loop 8 (u / 128) [UInt8.ofNat (u % 128 + 128)] (by omega) (by omega) (by simp)
    rw [List.map_cons, List.map_nil, e1, List.singleton_append, ← e] at ih
    have e3 := put_orR hu
    simp (disch := first | omega | (simp only [go_sem, List.length_take, List.length_drop] <;> omega) | assumption | decide | fail) only [go_sem, X_ingotref1_PutVar, c_ingotref1_PutVar, Nat.reduceLeDiff, Nat.reduceLT, Nat.reduceAdd, Int.reduceAdd, Int.reduceSub, Int.reduceNeg, ↓reduceIte, Nat.reduceEqDiff, reduceCtorEq, Int.reduceBEq, Int.reduceBNe, Nat.reduceBEq]
    rw [go_loop]
    simp (disch := first | omega | (simp only [go_sem, List.length_take, List.length_drop] <;> omega) | assumption | decide | fail) only [go_sem, X_ingotref1_PutVar, d_a, e3, ib_shr, shr_seven, Nat.reduceLeDiff, Nat.reduceLT, Nat.reduceAdd, Int.reduceAdd, Int.reduceSub, Int.reduceNeg, ↓reduceIte, Nat.reduceEqDiff, reduceCtorEq, Int.reduceBEq, Int.reduceBNe, Nat.reduceBEq]
    exact ih

end Go.Proofs.YtpnhljhciibfnaaGreatDoor
