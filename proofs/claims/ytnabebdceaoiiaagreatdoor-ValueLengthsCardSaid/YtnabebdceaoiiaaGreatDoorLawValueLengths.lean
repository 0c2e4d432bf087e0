/- ValueLengths holds of any text and any bound. -/
import Derived.Test.YtnabebdceaoiiaaGreatDoorVaD
namespace Go.Proofs.YtnabebdceaoiiaaGreatDoor
open Go Go.Ev
set_option linter.unusedVariables false
set_option linter.unusedSimpArgs false
set_option maxHeartbeats 2000000

theorem check_text (k m : Int) {b : Tx} (h : b.length < 2 ^ 63) : evL cfg n_value_Check 0 [.d (.agg [.int .i64 k, .sl [], .sl [], .int .i64 m, .int .i64 0, .int .i64 0]), .d (.agg [.bool false, .int .i64 0, .int .i64 0, txt b, .sl []])] [] = some (.d (.int .i64 (checkV (.mk k [] [] m 0 0) (.mk false 0 0 b []))), []) :=
  value_Check_ans 100 (.mk false 0 0 b []) (.mk k [] [] m 0 0) (show 1 + 0 ≤ 100 by decide) (by rw [okV_eq]; exact ⟨(by decide : inI 0), h, Nat.zero_lt_succ _, trivial⟩)
theorem check16 (m : Int) (b : Tx) : checkV (.mk 16 [] [] m 0 0) (.mk false 0 0 b []) = if (decide ((signsN b : Int) > m) || decide ((b.length : Int) > 4096)) = true then 4 else 0 := by
  have hnode : nodeM (.mk 16 [] [] m 0 0) (.mk false 0 0 b []) = if (decide ((signsN b : Int) > m) || decide ((b.length : Int) > 4096)) = true then 4 else 0 := by
    have h1 : namedM (Ty.mk 16 [] [] m 0 0).kind (.mk false 0 0 b []) = true := by
      show ((true || false) && (((b.length : Int) == 0) || true) && (true || false)) = true
      simp
    unfold nodeM
    rw [h1]
    rfl
  rw [checkV_eq, hnode]
  show (if _ then _ else if false = true then (0 : Int) else checkVs _ _ 0 []) = _
  rw [checkVs_nil]
  cases decide ((signsN b : Int) > m) <;> cases decide ((b.length : Int) > 4096) <;> rfl
theorem check8 (b : Tx) : checkV (.mk 8 [] [] 0 0 0) (.mk false 0 0 b []) = if decide ((b.length : Int) > 4096) = true then 4 else 0 := by
  have hnode : nodeM (.mk 8 [] [] 0 0 0) (.mk false 0 0 b []) = if decide ((b.length : Int) > 4096) = true then 4 else 0 := by
    have h1 : namedM (Ty.mk 8 [] [] 0 0 0).kind (.mk false 0 0 b []) = true := by
      show ((true || false) && (((b.length : Int) == 0) || true) && (true || false)) = true
      simp
    unfold nodeM
    rw [h1]
    rfl
  rw [checkV_eq, hnode]
  show (if _ then _ else if false = true then (0 : Int) else checkVs _ _ 0 []) = _
  rw [checkVs_nil]
  cases decide ((b.length : Int) > 4096) <;> rfl
theorem signB_all : ∀ n : Nat, n < 256 → (shrI .u8 (n : Int) 6 != 2) = (decide ((n : Int) < 128) || decide ((n : Int) ≥ 192)) := by decide +kernel
theorem signB_eq (c : UInt8) : signB c = (decide ((c.toNat : Int) < 128) || decide ((c.toNat : Int) ≥ 192)) := signB_all _ c.toNat_lt
theorem lengths_loop {b : Tx} (hb : b.length ≤ 5000) (m : Int) {K : List Kf} : ∀ (r : Tx) (i n : Nat), b.drop i = r → i ≤ b.length → n ≤ i →
    go X_ingotlaw14_ValueLengths (.c (.loop b_ingotlaw14_ValueLengths_11) :: .b 0 :: K) ⟨[(0, .d (txt b)), (1, .d (.int .i64 (m))), (5, .d (.int .i64 ((n : Int)))), (6, .d (.int .i64 ((i : Int))))], []⟩ =
      go X_ingotlaw14_ValueLengths K ⟨[(0, .d (txt b)), (1, .d (.int .i64 (m))), (5, .d (.int .i64 (((n + signsN r : Nat) : Int)))), (6, .d (.int .i64 ((b.length : Int)))), (26, .d (.bool (false)))], []⟩
  | [], i, n, hr, hi, hn => by
    have h1 := dropEnd hr
    have : i = b.length := by omega
    subst this
    have d_a : decide ((b.length : Int) < b.length) = false := by simp <;> omega
    rw [go_loop]
    simp (disch := first | omega | (simp only [go_sem, List.length_take, List.length_drop] <;> omega) | assumption | decide | fail) only [go_sem, X_ingotlaw14_ValueLengths, d_a, signsN, Nat.add_zero, Nat.reduceLeDiff, Nat.reduceLT, Nat.reduceAdd, Int.reduceAdd, Int.reduceSub, Int.reduceNeg, ↓reduceIte, Nat.reduceEqDiff, reduceCtorEq, Int.reduceBEq, Int.reduceBNe, Nat.reduceBEq]
  | c :: r, i, n, hr, hi, hn => by
    obtain ⟨hlt, hc, hr'⟩ := dropAt hr
    have d_a : decide ((i : Int) < b.length) = true := by simp <;> omega
    have e1 : (i : Int) + 1 = ((i + 1 : Nat) : Int) := by omega
    have hs := signB_eq c
    have ih1 := lengths_loop hb m (K := K) r (i + 1) (n + 1) hr' (by omega) (by omega)
    have ih0 := lengths_loop hb m (K := K) r (i + 1) n hr' (by omega) (by omega)
    have e2 : (n : Int) + 1 = ((n + 1 : Nat) : Int) := by omega
    rw [signsN, hs, go_loop]
    rcases Bool.eq_false_or_eq_true (decide ((c.toNat : Int) < 128)) with d_x | d_x <;> have p_x := d_x <;> simp only [decide_eq_true_eq, decide_eq_false_iff_not, beq_iff_eq, beq_eq_false_iff_ne, ne_eq] at p_x 
    · rw [if_pos (by rw [d_x]; rfl), ← Nat.add_assoc, ← ih1]
      simp (disch := first | omega | (simp only [go_sem, List.length_take, List.length_drop] <;> omega) | assumption | decide | fail) only [go_sem, X_ingotlaw14_ValueLengths, d_a, d_x, hc, byteD, e1, e2, Nat.reduceLeDiff, Nat.reduceLT, Nat.reduceAdd, Int.reduceAdd, Int.reduceSub, Int.reduceNeg, ↓reduceIte, Nat.reduceEqDiff, reduceCtorEq, Int.reduceBEq, Int.reduceBNe, Nat.reduceBEq]
    · rcases Bool.eq_false_or_eq_true (decide ((c.toNat : Int) ≥ 192)) with d_y | d_y <;> have p_y := d_y <;> simp only [decide_eq_true_eq, decide_eq_false_iff_not, beq_iff_eq, beq_eq_false_iff_ne, ne_eq] at p_y 
      · rw [if_pos (by rw [d_x, d_y]; rfl), ← Nat.add_assoc, ← ih1]
        simp (disch := first | omega | (simp only [go_sem, List.length_take, List.length_drop] <;> omega) | assumption | decide | fail) only [go_sem, X_ingotlaw14_ValueLengths, d_a, d_x, d_y, hc, byteD, e1, e2, Nat.reduceLeDiff, Nat.reduceLT, Nat.reduceAdd, Int.reduceAdd, Int.reduceSub, Int.reduceNeg, ↓reduceIte, Nat.reduceEqDiff, reduceCtorEq, Int.reduceBEq, Int.reduceBNe, Nat.reduceBEq]
      · rw [if_neg (by rw [d_x, d_y]; decide), Nat.zero_add, ← ih0]
        simp (disch := first | omega | (simp only [go_sem, List.length_take, List.length_drop] <;> omega) | assumption | decide | fail) only [go_sem, X_ingotlaw14_ValueLengths, d_a, d_x, d_y, hc, byteD, e1, Nat.reduceLeDiff, Nat.reduceLT, Nat.reduceAdd, Int.reduceAdd, Int.reduceSub, Int.reduceNeg, ↓reduceIte, Nat.reduceEqDiff, reduceCtorEq, Int.reduceBEq, Int.reduceBNe, Nat.reduceBEq]
theorem rowValueLengths (b : List UInt8) (m : Int) (hl : b.length ≤ maxLen) (hm : (Lit.int .i64 m).wf = true) : evL cfg n_ingotlaw14_ValueLengths 0 [.d (txt b), .d (.int .i64 (m))] [] = some (.d (.bool (true)), []) := by
  rw [o_ingotlaw14_ValueLengths]
  rcases Bool.eq_false_or_eq_true (decide ((b.length : Int) > 5000)) with d_a | d_a <;> have p_a := d_a <;> simp only [decide_eq_true_eq, decide_eq_false_iff_not, beq_iff_eq, beq_eq_false_iff_ne, ne_eq] at p_a 
  · simp (disch := first | omega | (simp only [go_sem, List.length_take, List.length_drop] <;> omega) | assumption | decide | fail) only [go_sem, X_ingotlaw14_ValueLengths, c_ingotlaw14_ValueLengths, known_ok, d_a, Nat.reduceLeDiff, Nat.reduceLT, Nat.reduceAdd, Int.reduceAdd, Int.reduceSub, Int.reduceNeg, ↓reduceIte, Nat.reduceEqDiff, reduceCtorEq, Int.reduceBEq, Int.reduceBNe, Nat.reduceBEq]
  · rcases Bool.eq_false_or_eq_true (decide (m < 1)) with d_c | d_c <;> have p_c := d_c <;> simp only [decide_eq_true_eq, decide_eq_false_iff_not, beq_iff_eq, beq_eq_false_iff_ne, ne_eq] at p_c 
    · simp (disch := first | omega | (simp only [go_sem, List.length_take, List.length_drop] <;> omega) | assumption | decide | fail) only [go_sem, X_ingotlaw14_ValueLengths, c_ingotlaw14_ValueLengths, known_ok, d_a, d_c, Nat.reduceLeDiff, Nat.reduceLT, Nat.reduceAdd, Int.reduceAdd, Int.reduceSub, Int.reduceNeg, ↓reduceIte, Nat.reduceEqDiff, reduceCtorEq, Int.reduceBEq, Int.reduceBNe, Nat.reduceBEq]
    · rcases Bool.eq_false_or_eq_true (decide (m > 4096)) with d_d | d_d <;> have p_d := d_d <;> simp only [decide_eq_true_eq, decide_eq_false_iff_not, beq_iff_eq, beq_eq_false_iff_ne, ne_eq] at p_d 
      · simp (disch := first | omega | (simp only [go_sem, List.length_take, List.length_drop] <;> omega) | assumption | decide | fail) only [go_sem, X_ingotlaw14_ValueLengths, c_ingotlaw14_ValueLengths, known_ok, d_a, d_c, d_d, Nat.reduceLeDiff, Nat.reduceLT, Nat.reduceAdd, Int.reduceAdd, Int.reduceSub, Int.reduceNeg, ↓reduceIte, Nat.reduceEqDiff, reduceCtorEq, Int.reduceBEq, Int.reduceBNe, Nat.reduceBEq]
      · have hlp := fun K => lengths_loop (b := b) (by omega) m (K := K) b 0 0 rfl (Nat.zero_le _) (Nat.zero_le _)
        simp only [nc0, Nat.zero_add] at hlp
        have hs := value_Signs_ans (b := b) (by omega)
        have c1 := check_text 16 m (b := b) (by omega)
        have c2 := check_text 8 0 (b := b) (by omega)
        rw [check16] at c1
        rw [check8] at c2
        have e1 : decide ((signsN b : Int) ≤ m) = !decide ((signsN b : Int) > m) := by rw [← decide_not]; exact decide_eq_decide.mpr (by omega)
        have e2 : decide ((b.length : Int) ≤ 4096) = !decide ((b.length : Int) > 4096) := by rw [← decide_not]; exact decide_eq_decide.mpr (by omega)
        rcases Bool.eq_false_or_eq_true (decide ((signsN b : Int) > m)) with x | x <;> rcases Bool.eq_false_or_eq_true (decide ((b.length : Int) > 4096)) with y | y <;>
        simp (disch := first | omega | (simp only [go_sem, List.length_take, List.length_drop] <;> omega) | assumption | decide | fail) only [go_sem, X_ingotlaw14_ValueLengths, c_ingotlaw14_ValueLengths, known_ok, d_a, d_c, d_d, hlp, hs, c1, c2, e1, e2, x, y, bne, Nat.reduceLeDiff, Nat.reduceLT, Nat.reduceAdd, Int.reduceAdd, Int.reduceSub, Int.reduceNeg, ↓reduceIte, Nat.reduceEqDiff, reduceCtorEq, Int.reduceBEq, Int.reduceBNe, Nat.reduceBEq]
end Go.Proofs.YtnabebdceaoiiaaGreatDoor
