/- As many places, encodings as may be; one more is refused. -/
import Derived.Test.YtpflgebgmhnipaaGreatDoorSfI
import Derived.Test.YtpflgebgmhnipaaGreatDoorLawPlaceBack
namespace Go.Proofs.YtpflgebgmhnipaaGreatDoor
open Go Go.Ev
set_option linter.unusedVariables false
set_option linter.unusedSimpArgs false
set_option maxHeartbeats 4000000

def psB (size : Int) (n : Nat) : List PI := (0, 0, size) :: List.replicate n (0, 0, 0)
def esB (m : Nat) : List EI := List.replicate m (0, 0)
theorem inM_zero : inM 0 = true := rfl
theorem okB (size : Int) (n m : Nat) : okE (psB size n) (esB m) = (decide ((n : Int) + 1 ≤ 800) && decide ((m : Int) ≤ 100) && (decide (size ≥ 0) && decide (size ≤ 262144))) := by
  have e1 : (psB size n).all inP = (decide (size ≥ 0) && decide (size ≤ 262144)) := by
    unfold psB
    rw [List.all_cons, List.all_replicate]
    have : inP (0, 0, 0) = true := rfl
    rw [this]
    simp only [inP, inM_zero, Bool.true_and, inM, Bool.or_true, Bool.and_true]
    split <;> simp
  have e2 : (esB m).all inE = true := by
    unfold esB
    rw [List.all_replicate]
    have : inE (0, 0) = true := rfl
    rw [this]
    split <;> rfl
  unfold okE
  rw [e1, e2, Bool.and_true]
  have h1 : decide ((psB size n).length ≤ 800) = decide ((n : Int) + 1 ≤ 800) := by
    simp only [psB, List.length_cons, List.length_replicate]
    rw [Bool.eq_iff_iff, decide_eq_true_eq, decide_eq_true_eq]; omega
  have h2 : decide ((esB m).length ≤ 100) = decide ((m : Int) ≤ 100) := by
    simp only [esB, List.length_replicate]
    rw [Bool.eq_iff_iff, decide_eq_true_eq, decide_eq_true_eq]; omega
  rw [h1, h2]
theorem flatB_len (size : Int) (n m : Nat) (hn : n ≤ 900) (hm : m ≤ 200) : (flatE (psB size n) (esB m)).length ≤ 30000 := by
  have a := plB_len (0, 0, size)
  have b : (plB (0, 0, 0)).length ≤ 20 := by decide
  have c : (enB (0, 0)).length ≤ 20 := by decide
  unfold flatE psB esB
  simp only [List.map_cons, List.map_replicate, List.flatten_cons, List.length_append, List.length_flatten, List.sum_replicate_nat, List.map_replicate]
  have d : n * (plB (0, 0, 0)).length ≤ n * 20 := Nat.mul_le_mul_left n b
  have e : m * (enB (0, 0)).length ≤ m * 20 := Nat.mul_le_mul_left m c
  omega
theorem evIdx_bor0 {g : Get} {dst : Option Nat} {z : Nat} {x : IOpd} (loc : Ev.Loc) (off len : Nat) (h : 0 < len) : evIdx g dst z x (.bor loc off len) 0 = idxB dst z loc off (g loc) := by
  have := evIdx_bor g dst z x loc off len (n := 0) (by omega) (by omega)
  simpa using this
theorem setAt3 (a b c d : D) : (D.agg [a, b, c]).setAt 2 [d] = some (.agg [a, b, d]) := rfl
theorem rowPlaceBounds (n m size : Int) (w0 : (Lit.int .i64 n).wf = true) (w1 : (Lit.int .i64 m).wf = true) (w2 : (Lit.int .i64 size).wf = true) : evL cfg n_ingotlaw22_PlaceBounds 0 [.d (.int .i64 (n)), .d (.int .i64 (m)), .d (.int .i64 (size))] [] = some (.d (.bool (true)), []) := by
  rw [o_ingotlaw22_PlaceBounds]
  rcases Bool.eq_false_or_eq_true (decide (n < 798)) with d_a | d_a <;> have p_a := d_a <;> simp only [decide_eq_true_eq, decide_eq_false_iff_not, beq_iff_eq, beq_eq_false_iff_ne, ne_eq] at p_a 
  · simp (disch := first | omega | (simp only [go_sem, List.length_take, List.length_drop] <;> omega) | assumption | decide | fail) only [go_sem, X_ingotlaw22_PlaceBounds, c_ingotlaw22_PlaceBounds, known_ok, d_a, Nat.reduceLeDiff, Nat.reduceLT, Nat.reduceAdd, Int.reduceAdd, Int.reduceSub, Int.reduceNeg, ↓reduceIte, Nat.reduceEqDiff, reduceCtorEq, Int.reduceBEq, Int.reduceBNe, Nat.reduceBEq]
  rcases Bool.eq_false_or_eq_true (decide (n > 803)) with d_b | d_b <;> have p_b := d_b <;> simp only [decide_eq_true_eq, decide_eq_false_iff_not, beq_iff_eq, beq_eq_false_iff_ne, ne_eq] at p_b 
  · simp (disch := first | omega | (simp only [go_sem, List.length_take, List.length_drop] <;> omega) | assumption | decide | fail) only [go_sem, X_ingotlaw22_PlaceBounds, c_ingotlaw22_PlaceBounds, known_ok, d_a, d_b, Nat.reduceLeDiff, Nat.reduceLT, Nat.reduceAdd, Int.reduceAdd, Int.reduceSub, Int.reduceNeg, ↓reduceIte, Nat.reduceEqDiff, reduceCtorEq, Int.reduceBEq, Int.reduceBNe, Nat.reduceBEq]
  rcases Bool.eq_false_or_eq_true (decide (m < 98)) with d_c | d_c <;> have p_c := d_c <;> simp only [decide_eq_true_eq, decide_eq_false_iff_not, beq_iff_eq, beq_eq_false_iff_ne, ne_eq] at p_c 
  · simp (disch := first | omega | (simp only [go_sem, List.length_take, List.length_drop] <;> omega) | assumption | decide | fail) only [go_sem, X_ingotlaw22_PlaceBounds, c_ingotlaw22_PlaceBounds, known_ok, d_a, d_b, d_c, Nat.reduceLeDiff, Nat.reduceLT, Nat.reduceAdd, Int.reduceAdd, Int.reduceSub, Int.reduceNeg, ↓reduceIte, Nat.reduceEqDiff, reduceCtorEq, Int.reduceBEq, Int.reduceBNe, Nat.reduceBEq]
  rcases Bool.eq_false_or_eq_true (decide (m > 103)) with d_d | d_d <;> have p_d := d_d <;> simp only [decide_eq_true_eq, decide_eq_false_iff_not, beq_iff_eq, beq_eq_false_iff_ne, ne_eq] at p_d 
  · simp (disch := first | omega | (simp only [go_sem, List.length_take, List.length_drop] <;> omega) | assumption | decide | fail) only [go_sem, X_ingotlaw22_PlaceBounds, c_ingotlaw22_PlaceBounds, known_ok, d_a, d_b, d_c, d_d, Nat.reduceLeDiff, Nat.reduceLT, Nat.reduceAdd, Int.reduceAdd, Int.reduceSub, Int.reduceNeg, ↓reduceIte, Nat.reduceEqDiff, reduceCtorEq, Int.reduceBEq, Int.reduceBNe, Nat.reduceBEq]
  obtain ⟨N, hN⟩ : ∃ N : Nat, n = ((N + 1 : Nat) : Int) := ⟨(n - 1).toNat, by omega⟩
  obtain ⟨M, hM⟩ : ∃ M : Nat, m = (M : Int) := ⟨m.toNat, by omega⟩
  subst hN; subst hM
  have hl := flatB_len size N M (by omega) (by omega)
  have ok := okB size N M
  have g1 := sfoot_Encode_ans (psB size N) (esB M) (by simp [psB]; omega) (by simp [esB]; omega)
  rw [enc_eq] at g1
  unfold encD at g1
  have z1 : 0 ≤ ((N + 1 : Nat) : Int) := by omega
  have z2 : ((N + 1 : Nat) : Int) ≤ 1000000000 := by omega
  have z3 : (M : Int) ≤ 1000000000 := by omega
  have z4 : (0 : Int) ≤ (M : Int) := by omega
  have mk := fun (k z bytes : Nat) (zd : D) => mkSV_ok k z bytes zd _ _ z1 (Int.le_refl _) z2
  have mk2 := fun (k z bytes : Nat) (zd : D) => mkSV_ok k z bytes zd _ _ z4 (Int.le_refl _) z3
  have hr : ∀ zd : D, List.replicate ((N + 1 : Nat) : Int).toNat zd = zd :: List.replicate N zd := fun zd => by rw [Int.toNat_natCast, List.replicate_succ]
  have hr2 : ∀ zd : D, List.replicate ((M : Nat) : Int).toNat zd = List.replicate M zd := fun zd => by rw [Int.toNat_natCast]
  rcases Bool.eq_false_or_eq_true (decide (((N + 1 : Nat) : Int) ≤ 800)) with d_e | d_e <;> have p_e := d_e <;> simp only [decide_eq_true_eq, decide_eq_false_iff_not, beq_iff_eq, beq_eq_false_iff_ne, ne_eq] at p_e 
  · rcases Bool.eq_false_or_eq_true (decide ((M : Int) ≤ 100)) with d_f | d_f <;> have p_f := d_f <;> simp only [decide_eq_true_eq, decide_eq_false_iff_not, beq_iff_eq, beq_eq_false_iff_ne, ne_eq] at p_f 
    · rcases Bool.eq_false_or_eq_true (decide (size ≥ 0)) with d_g | d_g <;> have p_g := d_g <;> simp only [decide_eq_true_eq, decide_eq_false_iff_not, beq_iff_eq, beq_eq_false_iff_ne, ne_eq] at p_g 
      · rcases Bool.eq_false_or_eq_true (decide (size ≤ 262144)) with d_h | d_h <;> have p_h := d_h <;> simp only [decide_eq_true_eq, decide_eq_false_iff_not, beq_iff_eq, beq_eq_false_iff_ne, ne_eq] at p_h 
        · have hok : okE (psB size N) (esB M) = true := by
            rw [ok, d_f, d_g, d_h, decide_eq_true (show (N : Int) + 1 ≤ 800 by omega)]; rfl
          rw [hok] at g1
          simp only [Bool.true_eq_false, if_false] at g1
          have hu := utc_len
          have hq : (flatE (psB size N) (esB M) ++ bytesF 3 utc).length ≤ 60000 := by rw [List.length_append]; omega
          rw [if_neg (by omega)] at g1
          have g5 := dec_enc _ _ hok
          have g6 := sfoot_Decode_ans (l := flatE (psB size N) (esB M) ++ bytesF 3 utc) (by omega)
          obtain ⟨_, _, p3, p4⟩ := okE_parts hok
          rw [g5, fD_nat _ _ p3 p4] at g6
          generalize flatE (psB size N) (esB M) ++ bytesF 3 utc = q at *
          unfold fI psB esB at g1 g6
          simp only [List.map_cons, List.map_replicate, plI, enI] at g1 g6
          simp (disch := first | omega | (simp only [go_sem, List.length_take, List.length_drop] <;> omega) | assumption | decide | fail) only [go_sem, X_ingotlaw22_PlaceBounds, c_ingotlaw22_PlaceBounds, known_ok, d_a, d_b, d_c, d_d, mk, mk2, hr, hr2, g1, g6, evIdx_bor0, setAt3, List.length_replicate, List.length_cons, d_e, d_f, d_g, d_h, Nat.reduceLeDiff, Nat.reduceLT, Nat.reduceAdd, Int.reduceAdd, Int.reduceSub, Int.reduceNeg, ↓reduceIte, Nat.reduceEqDiff, reduceCtorEq, Int.reduceBEq, Int.reduceBNe, Nat.reduceBEq]
        · have hok : okE (psB size N) (esB M) = false := by
            rw [ok]
            simp only [Bool.and_eq_false_iff, decide_eq_false_iff_not]
            omega
          rw [hok] at g1
          simp only [if_true] at g1
          unfold fI psB esB at g1
          simp only [List.map_cons, List.map_replicate, plI, enI] at g1
          simp (disch := first | omega | (simp only [go_sem, List.length_take, List.length_drop] <;> omega) | assumption | decide | fail) only [go_sem, X_ingotlaw22_PlaceBounds, c_ingotlaw22_PlaceBounds, known_ok, d_a, d_b, d_c, d_d, mk, mk2, hr, hr2, g1, evIdx_bor0, setAt3, List.length_replicate, d_e, d_f, d_g, d_h, Nat.reduceLeDiff, Nat.reduceLT, Nat.reduceAdd, Int.reduceAdd, Int.reduceSub, Int.reduceNeg, ↓reduceIte, Nat.reduceEqDiff, reduceCtorEq, Int.reduceBEq, Int.reduceBNe, Nat.reduceBEq]
      · have hok : okE (psB size N) (esB M) = false := by
          rw [ok]
          simp only [Bool.and_eq_false_iff, decide_eq_false_iff_not]
          omega
        rw [hok] at g1
        simp only [if_true] at g1
        unfold fI psB esB at g1
        simp only [List.map_cons, List.map_replicate, plI, enI] at g1
        simp (disch := first | omega | (simp only [go_sem, List.length_take, List.length_drop] <;> omega) | assumption | decide | fail) only [go_sem, X_ingotlaw22_PlaceBounds, c_ingotlaw22_PlaceBounds, known_ok, d_a, d_b, d_c, d_d, mk, mk2, hr, hr2, g1, evIdx_bor0, setAt3, List.length_replicate, d_e, d_f, d_g, Nat.reduceLeDiff, Nat.reduceLT, Nat.reduceAdd, Int.reduceAdd, Int.reduceSub, Int.reduceNeg, ↓reduceIte, Nat.reduceEqDiff, reduceCtorEq, Int.reduceBEq, Int.reduceBNe, Nat.reduceBEq]
    · have hok : okE (psB size N) (esB M) = false := by
        rw [ok]
        simp only [Bool.and_eq_false_iff, decide_eq_false_iff_not]
        omega
      rw [hok] at g1
      simp only [if_true] at g1
      unfold fI psB esB at g1
      simp only [List.map_cons, List.map_replicate, plI, enI] at g1
      simp (disch := first | omega | (simp only [go_sem, List.length_take, List.length_drop] <;> omega) | assumption | decide | fail) only [go_sem, X_ingotlaw22_PlaceBounds, c_ingotlaw22_PlaceBounds, known_ok, d_a, d_b, d_c, d_d, mk, mk2, hr, hr2, g1, evIdx_bor0, setAt3, List.length_replicate, d_e, d_f, Nat.reduceLeDiff, Nat.reduceLT, Nat.reduceAdd, Int.reduceAdd, Int.reduceSub, Int.reduceNeg, ↓reduceIte, Nat.reduceEqDiff, reduceCtorEq, Int.reduceBEq, Int.reduceBNe, Nat.reduceBEq]
  · have hok : okE (psB size N) (esB M) = false := by
      rw [ok]
      simp only [Bool.and_eq_false_iff, decide_eq_false_iff_not]
      omega
    rw [hok] at g1
    simp only [if_true] at g1
    unfold fI psB esB at g1
    simp only [List.map_cons, List.map_replicate, plI, enI] at g1
    simp (disch := first | omega | (simp only [go_sem, List.length_take, List.length_drop] <;> omega) | assumption | decide | fail) only [go_sem, X_ingotlaw22_PlaceBounds, c_ingotlaw22_PlaceBounds, known_ok, d_a, d_b, d_c, d_d, mk, mk2, hr, hr2, g1, evIdx_bor0, setAt3, List.length_replicate, d_e, Nat.reduceLeDiff, Nat.reduceLT, Nat.reduceAdd, Int.reduceAdd, Int.reduceSub, Int.reduceNeg, ↓reduceIte, Nat.reduceEqDiff, reduceCtorEq, Int.reduceBEq, Int.reduceBNe, Nat.reduceBEq]
end Go.Proofs.YtpflgebgmhnipaaGreatDoor
